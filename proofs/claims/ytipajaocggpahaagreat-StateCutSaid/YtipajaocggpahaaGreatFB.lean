/- Several texts in one: Sym9, Sym10, Sym11, Sym12, Sym12b, Sym12c, Sym13, Sym14, Sym15. -/
import Derived.Test.YtipajaocggpahaaGreatFA
import Derived.OrdersIn
import Derived.LoopNIn
import Derived.RangeFuncIn
import Derived.RangeFuncRecord
/- Operations with guards, and several in order. -/
namespace Go.Sy
open Go Go.RowKit
set_option linter.unusedSimpArgs false
set_option linter.unusedVariables false

def St.put (σ : St) (dst : Option Tmp) (v : AV) : Option St :=
  match dst with
  | none => some σ
  | some d => cond (ltN d σ.nt) (some ⟨σ.nt, upd σ.tmps d v, σ.heap, σ.ids⟩) none

def St.with (σ : St) (H : Heap) : St := ⟨σ.nt, σ.tmps, H, σ.ids⟩

def St.addIds (σ : St) (l : List Nat) : St := ⟨σ.nt, σ.tmps, σ.heap, σ.ids ++ l⟩

/-- every object is among those that may be there -/
def Bd (σ : St) : Prop := ∀ q, σ.heap q ≠ none → q ∈ σ.ids

/-- the contracts that are known: of functions, and of such that turn a row -/
structure Tabs where
  con : FuncId → Option Con
  upd : FuncId → Option UCon

abbrev Cons := Tabs

/-- the number of the first region, by which a loop, or a range's body, is known -/
def firstReg : Code → Option Nat
  | .region id _ _ => some id
  | .seq x y => match firstReg x with
    | some i => some i
    | none => firstReg y
  | .cond _ x y => match firstReg x with
    | some i => some i
    | none => firstReg y
  | .block _ x => firstReg x
  | .loop x => firstReg x
  | .scope x => firstReg x
  | _ => none

abbrev RCode := Array Tmp × Code × Code

def rangesOf : Code → List RCode
  | .seq x y => rangesOf x ++ rangesOf y
  | .cond _ x y => rangesOf x ++ rangesOf y
  | .block _ x => rangesOf x
  | .loop x => rangesOf x
  | .scope x => rangesOf x
  | .rangeFunc _ ps asn body => [(ps, asn, body)]
  | _ => []

def RCode.is (x : RCode) (r : Nat) : Bool := match firstReg x.2.2 with
  | some q => Nat.beq q r
  | none => false

def lookR (r : Nat) : List RCode → Option RCode
  | [] => none
  | x :: l => cond (RCode.is x r) (cond (l.any fun y => RCode.is y r) none (some x)) (lookR r l)

theorem lookR_mem {r : Nat} : ∀ {l : List RCode} {x y : RCode}, lookR r l = some y → x ∈ l → RCode.is x r = true → y = x
  | [], x, y, h, hx, _ => by simp at hx
  | z :: l, x, y, h, hx, hr => by
    simp only [lookR] at h
    rcases List.mem_cons.1 hx with rfl | hx
    · rw [hr] at h
      simp only [cond_true] at h
      cases hb : (l.any fun y => RCode.is y r) with
      | true => rw [hb] at h; simp at h
      | false => rw [hb] at h; simpa using h.symm
    · cases hz : RCode.is z r with
      | true =>
        rw [hz] at h
        have : (l.any fun y => RCode.is y r) = true := List.any_eq_true.2 ⟨x, hx, hr⟩
        rw [this] at h; simp at h
      | false => rw [hz] at h; exact lookR_mem h hx hr

/-- a range over a function, by the function and its body's first region -/
def rangeIn (P : Program) (k r : Nat) : Option RCode :=
  match P.funcs[k]? with
  | some fn => match fn.body with
    | some c => lookR r (rangesOf c)
    | none => none
  | none => none

def TabsOK [Glob] (P : Program) (C : Cons) : Prop :=
  (∀ k c, C.con k = some c → c.OK P k) ∧ (∀ k u, C.upd k = some u → u.OK P k) ∧ ∀ k r, Glob.rng k r = rangeIn P k r

/-- the contract of a function that turns a row, where it is called by its name -/
def updOf (C : Cons) (o : Oper) (k : FuncId) : Option UCon :=
  match o.op with
  | .call c => match c.callee with
    | .value (.func k') => cond (Nat.beq k' k) (C.upd k) none
    | _ => none
  | _ => none

def isUpd (C : Cons) (o : Oper) : Bool :=
  match o.op with
  | .call c => match c.callee with
    | .value (.func k) => (C.upd k).isSome
    | _ => false
  | _ => false

theorem updOf_isUpd {C : Cons} {o : Oper} {k : FuncId} {u : UCon} (h : updOf C o k = some u) : isUpd C o = true ∧ C.upd k = some u := by
  unfold updOf at h
  unfold isUpd
  split at h
  · rename_i c hc
    split at h
    · rename_i k' hk
      obtain ⟨h1, h2⟩ := (show Nat.beq k' k = true ∧ C.upd k = some u by
        cases hb : Nat.beq k' k with
        | true => rw [hb] at h; exact ⟨rfl, h⟩
        | false => rw [hb] at h; simp at h)
      have := Nat.eq_of_beq_eq_true h1
      subst this
      exact ⟨by rw [h2]; rfl, h2⟩
    · simp at h
  · simp at h
def conOfC (C : Cons) : Callee → Option Con
  | .fn k => C.con k
  | .yld _ => none

def updOfC (C : Cons) (o : Oper) : Callee → Option UCon
  | .fn k => updOf C o k
  | .yld _ => none

theorem updOfC_isUpd {C : Cons} {o : Oper} {k : Callee} {u : UCon} (h : updOfC C o k = some u) : isUpd C o = true := by
  cases k with
  | fn k => exact (updOf_isUpd h).1
  | yld i => simp [updOfC] at h

abbrev Inl := Nat → Callee → List AV → Heap → List Nat → Option (AV × Heap × List Nat)

/-- what is set, whether it must be new, what is handed back -/
structure Eff where
  sets : List (Nat × HObj)
  new : Bool
  v : AV

def inSite (id : Nat) : List (Nat × HObj) → Bool
  | [] => true
  | (i, _) :: l => Nat.ble id i && ltN i (id + 16) && inSite id l

/-- operations that never look at memory -/
def isR (P : Program) (o : Oper) : Bool :=
  match o.op with
  | .move _ => false
  | .assign _ => false
  | .pick _ _ _ => false
  | .alloc _ => false
  | .box _ _ => false
  | .field _ _ _ => false
  | .binOp _ _ _ _ _ => false
  | .unOp _ _ _ => false
  | .convert s _ _ => match P.underlying s with
    | some (.slice _) => true
    | _ => false
  | .extract _ _ => false
  | .index _ _ _ => false
  | .makeFunc _ _ _ => false
  | _ => true

def conEff (c : Con) (Hh : Heap) (id : Nat) (as : List AV) : Option Eff :=
  match decArgs (readHeap c Hh) c.ps as with
  | some x => match c.f x with
    | some y => some ⟨objRs c.rs y id, true, resAV (encRs c.rs y id)⟩
    | none => none
  | none => none

def exEff (P : Program) (C : Cons) (Hh : Heap) (id : Nat) (o : Oper) (ρ : Operand → AV) : Option Eff :=
  match sem P Hh id o ρ with
  | some (.val c v) => cond c (some ⟨[], false, v⟩) none
  | some (.new c i ob v) => cond c (some ⟨[(i, ob)], true, v⟩) none
  | some (.wr c i ob v) => cond c (some ⟨[(i, ob)], false, v⟩) none
  | some (.nxt c i ob v u) => cond c (some ⟨[(i, ob)], false, v⟩) (some ⟨[], false, u⟩)
  | some (.call k as) => match updOfC C o k with
    | some u => match updOut u Hh as with
      | some (i, ob, v) => some ⟨[(i, ob)], false, v⟩
      | none => none
    | none => match isR P o, conOfC C k with
      | true, some con => conEff con Hh id as
      | _, _ => none
  | none => none

def St.eff (σ : St) (id : Nat) (dst : Option Tmp) (e : Eff) : Option St :=
  cond (e.new && !(freshAll σ.heap e.sets && inSite id e.sets)) none ((σ.with (setAll σ.heap e.sets)).put dst e.v)

def exInl (P : Program) (C : Cons) (F : Inl) (Hh : Heap) (id : Nat) (o : Oper) (ρ : Operand → AV) (H : Heap) (L : List Nat) : Option (AV × Heap × List Nat) :=
  match sem P Hh id o ρ with
  | some (.call k as) => match conOfC C k with
    | some _ => none
    | none => F id k as H L
  | _ => none

def want (ops : Array Oper) (σ : St) (o : Oper) : Option Bool :=
  match o.guard with
  | none => some true
  | some (j, b) => match ops[j]? with
    | some g => match g.dst with
      | some d => match σ.val (.tmp d) with
        | .lit (.bool c) => some (c == b)
        | .lit (.tuple _) => some false
        | _ => none
      | none => some false
    | none => some false

def exOp (P : Program) (C : Cons) (F : Inl) (ops : Array Oper) (hide : Heap → Heap) (id i : Nat) (σ : St) : Option St :=
  match ops[i]? with
  | none => some σ
  | some o => match want ops σ o with
    | some true => match exEff P C (hide σ.heap) id o σ.val with
      | some e => σ.eff id o.dst e
      | none => match exInl P C F (hide σ.heap) id o σ.val σ.heap σ.ids with
        | some (v, H', L') => (⟨σ.nt, σ.tmps, H', L'⟩ : St).put o.dst v
        | none => none
    | some false => σ.put o.dst (.lit undef)
    | none => none

/-- the numbers of the objects that an operation lays -/
def opNew (P : Program) (C : Cons) (ops : Array Oper) (Hh : Heap) (id i : Nat) (σ : St) : List Nat :=
  match ops[i]? with
  | none => []
  | some o => match want ops σ o with
    | some true => match exEff P C Hh id o σ.val with
      | some e => cond e.new (e.sets.map (·.1)) []
      | none => []
    | _ => []

def noInl : Inl := fun _ _ _ _ _ => none

/-- what a call, or a round, comes to -/
def RunC (P : Program) (μ : Mu) (c : Callee) (us : Array Value) (w : World) (R : Ending → World → Prop) : Prop :=
  match c with
  | .fn k => Calls P k us w R
  | .yld i => ∀ b cp, μ i = some ⟨some b, cp⟩ → ∃ f tmps asn body, (Instr.yield b us).run P w = .ok (.round b f tmps asn body) w ∧ RoundIn Fence.wide 0 P b f tmps asn body w R

theorem RunC.mono {P : Program} {μ : Mu} {c : Callee} {us : Array Value} {w : World} {R R' : Ending → World → Prop} (h : RunC P μ c us w R) (hR : ∀ e w', R e w' → R' e w') : RunC P μ c us w R' := by
  cases c with
  | fn k => exact Calls.mono h hR
  | yld i =>
    intro b cp hm
    obtain ⟨f, tmps, asn, body, h1, h2, h3⟩ := h b cp hm
    refine ⟨f, tmps, asn, body, h1, h2, fun c cs hr => ?_⟩
    obtain ⟨e, w', q1, q2⟩ := h3 c cs hr
    exact ⟨e, w', hR e w' q1, q2⟩

abbrev WF (r : Option Nat) : Fence := { Fence.wide with round := r }

theorem callsIn_WF {r : Option Nat} {n : Nat} {P : Program} {f : FuncId} {args : Array Value} {w : World} {R : Ending → World → Prop} : CallsIn (WF r) n P f args w R ↔ Calls P f args w R := callsIn_wide

theorem semAt_of {P : Program} {Hh : Heap} {id : Nat} {o : Oper} {ρa : Operand → AV} {out : Out} {r : Option Nat} {ρ : Operand → Value} (h : sem P Hh id o ρa = some out) : o.semAt r ρ = execOp ρ o := by
  refine Oper.semAt_eq r ρ o fun c hc => ?_
  unfold sem at h
  rw [hc] at h
  simp at h

/-- a call, or a round, as the kit's walk asks for it -/
theorem upon_goes {r : Option Nat} {P : Program} {o : Oper} {a : Act} {next : Act → World → Prop} {Q : Exit → Act → World → Prop} {μ : Mu} {k : Callee} {us : Array Value} {w : World} {res : Result Next}
    (h : Goes P μ w k us res) (hc : RunC P μ k us w fun e w' => ∃ v, e = .returned v ∧ next (a.put o.dst v) w') : o.uponIn (WF r) 0 P a next Q res := by
  cases k with
  | fn k =>
    simp only [Goes] at h
    subst h
    rw [Oper.uponIn_enter]
    refine ⟨fun h => (by cases h), callsIn_WF.2 (Calls.mono hc ?_)⟩
    rintro e w' ⟨v, rfl, h⟩
    exact h
  | yld i =>
    obtain ⟨b, c, hm, rfl⟩ := h
    obtain ⟨f, tmps, asn, body, h1, h2, h3⟩ := hc b c hm
    rw [h1, Oper.uponIn_round]
    refine ⟨fun h => (by cases h), h2, fun c cs hr => ?_⟩
    obtain ⟨e, w', ⟨v, rfl, q1⟩, q2⟩ := h3 c cs hr
    exact ⟨.returned v, w', q1, q2⟩

def InlOK [Glob] (P : Program) (F : Inl) : Prop :=
  ∀ id k as H L v H' L', F id k as H L = some (v, H', L') → (∀ q, H q ≠ none → q ∈ L) → (∀ q, H' q ≠ none → q ∈ L') ∧ ∀ (μ : Mu) (S : Stable) (B : Nat) (w0 w : World) (us : Array Value), Rel μ S H B w0 w → VRs μ S H as us.toList →
    RunC P μ k us w fun e w' => ∃ u μ' S', e = .returned u ∧ VR μ' S' H' v u ∧ Rel μ' S' H' B w0 w' ∧ Carry B μ S H μ' S' H'

section
variable [Glob] {P : Program} {C : Cons} {F : Inl} {r : Option Nat} {N : Stable} {w w0 : World} {μ μ' : Mu} {S S' : Stable} {B : Nat} {σ σ' : St} {a : Act} {H' : Heap} {L' : List Nat} {Q : Exit → Act → World → Prop} {K : Act → World → Prop}

omit [Glob] in
theorem AR.put {B : Nat} (A : AR N μ S σ a) (hc : Carry B μ S σ.heap μ' S' H') {v : AV} {u : Value} (hv : VR μ' S' H' v u) {dst : Option Tmp} (h : (⟨σ.nt, σ.tmps, H', L'⟩ : St).put dst v = some σ') :
    AR N μ' S' σ' (a.put dst u) ∧ σ'.heap = H' := by
  have mk_defers : ∃ ms : List Nat, a.defers = ms.map (fun D => ⟨.collected D, #[]⟩) ∧ Mark S' N ms := by
    obtain ⟨ms, h1, h2, h3⟩ := A.defers
    exact ⟨ms, h1, h2, fun D hD => ⟨(h3 D hD).1, hc.sub _ _ (h3 D hD).2⟩⟩
  cases dst with
  | none =>
    simp only [St.put, Option.some.injEq] at h; subst h
    exact ⟨⟨mk_defers, A.size, fun t ht => hc.vr _ _ (A.tmp t ht)⟩, rfl⟩
  | some d =>
    obtain ⟨hd, rfl⟩ := cond_some h
    have hd := of_ltN hd
    refine ⟨⟨mk_defers, by simp only [Act.put, Array.size_setIfInBounds]; exact A.size, fun t ht => ?_⟩, rfl⟩
    simp only at hd ht ⊢
    by_cases e : t = d
    · subst e
      rw [upd_same]
      simp only [Act.put]
      have : t < a.tmps.size := by rw [A.size]; exact hd
      simpa [Array.getD_eq_getD_getElem?, this] using hv
    · rw [upd_ne _ _ e]
      simp only [Act.put]
      have := hc.vr _ _ (A.tmp t ht)
      rw [Array.getD_eq_getD_getElem?] at this ⊢
      rw [Array.getElem?_setIfInBounds_ne (Ne.symm e)]; exact this

omit [Glob] in
theorem want_ok (A : AR N μ S σ a) {ops : Array Oper} {o : Oper} {b : Bool} (h : want ops σ o = some b) : Region.wanted o (yielded ops a.tmps) = b := by
  unfold want at h
  unfold Region.wanted
  split at h
  · rename_i hg; rw [hg]; simpa using h
  · rename_i j bb hg
    rw [hg]
    simp only [yielded]
    split at h
    · rename_i g hj
      rw [hj]
      simp only [Option.bind_some]
      split at h
      · rename_i d hd
        rw [hd]
        simp only [Option.bind_some]
        have hv : ∀ {x : AV}, σ.val (.tmp d) = x → x ≠ .junk → ∃ u, a.tmps[d]? = some u ∧ VR μ S σ.heap x u := by
          intro x hx hx2
          simp only [St.val] at hx
          cases hl : ltN d σ.nt with
          | false => rw [hl] at hx; exact absurd hx.symm hx2
          | true =>
            rw [hl] at hx
            have := A.tmp d (of_ltN hl)
            simp only [cond_true] at hx
            rw [hx] at this
            have hs : d < a.tmps.size := by rw [A.size]; exact of_ltN hl
            refine ⟨a.tmps[d], by simp [hs], ?_⟩
            simpa [Array.getD_eq_getD_getElem?, hs] using this
        split at h
        · rename_i c hx
          obtain ⟨u, h1, h2⟩ := hv hx (by simp)
          simp only [VR] at h2; subst h2
          rw [h1]
          simp only [Option.some.injEq] at h
          rw [← h]; cases c <;> cases bb <;> rfl
        · rename_i vs hx
          obtain ⟨u, h1, h2⟩ := hv hx (by simp)
          simp only [VR] at h2; subst h2
          rw [h1]
          simp only [Option.some.injEq] at h
          rw [← h]; rfl
        · simp at h
      · rename_i hd
        rw [hd]
        simp only [Option.some.injEq] at h
        rw [← h]; rfl
    · rename_i hj
      rw [hj]
      simp only [Option.some.injEq] at h
      rw [← h]; rfl

theorem exOp_ok (hC : TabsOK P C) (hF : InlOK P F) {ops : Array Oper} {hide : Heap → Heap} (hs : ∀ H i o, hide H i = some o → H i = some o) {id i : Nat}
    (h : exOp P C F ops hide id i σ = some σ') (hBd : Bd σ ∨ F = noInl) (A : AR N μ S σ a) (R : Rel μ S σ.heap B w0 w)
    (hK : ∀ a' w' μ' S', AR N μ' S' σ' a' → Rel μ' S' σ'.heap B w0 w' → Carry B μ S σ.heap μ' S' σ'.heap → K a' w') : wpOpIn (WF r) 0 P ops Q i K a w := by
  unfold exOp at h
  unfold wpOpIn
  split at h
  · rename_i ho
    rw [ho]; cases h
    exact hK a w μ S A R Carry.refl
  · rename_i o ho
    rw [ho]
    split at h
    · rename_i hw
      simp only [want_ok A hw, if_true]
      unfold Oper.wpIn
      refine ⟨fun _ _ => trivial, ?_⟩
      have sub := hs σ.heap
      split at h
      · rename_i e he
        unfold exEff at he
        split at he
        · rename_i c v hsem
          obtain ⟨hc, rfl⟩ := cond_some he
          obtain ⟨n, u, w', μ', k1, k2, k3, k4, k5⟩ := sem_ok sub R (fun x => A.val x) hsem hc rfl
          rw [semAt_of hsem, k1]
          have h' : (σ.with σ.heap).put o.dst v = some σ' := h
          obtain ⟨A', e'⟩ := A.put (Carry.of (B := B) k4) k5 h'
          have fin := hK _ w' μ' S A' (by rw [e']; exact k3) (by rw [e']; exact Carry.of k4)
          rcases k2 with rfl | ⟨rfl, rfl⟩ <;> exact fin
        · rename_i c i' ob v hsem
          obtain ⟨hc, rfl⟩ := cond_some he
          have h2 : (freshAll σ.heap [(i', ob)] && inSite id [(i', ob)]) = true ∧ (σ.with (setAll σ.heap [(i', ob)])).put o.dst v = some σ' := by
            unfold St.eff at h
            cases hb : (freshAll σ.heap [(i', ob)] && inSite id [(i', ob)]) with
            | false => rw [hb] at h; simp at h
            | true => rw [hb] at h; exact ⟨rfl, h⟩
          obtain ⟨h2, h'⟩ := h2
          have hfr : (Out.new c i' ob v).fresh σ.heap = true := by
            simp only [Bool.and_eq_true, freshAll] at h2
            exact h2.1.1
          obtain ⟨n, u, w', μ', k1, k2, k3, k4, k5⟩ := sem_ok sub R (fun x => A.val x) hsem hc hfr
          rw [semAt_of hsem, k1]
          obtain ⟨A', e'⟩ := A.put (Carry.of (B := B) k4) k5 h'
          have fin := hK _ w' μ' S A' (by rw [e']; exact k3) (by rw [e']; exact Carry.of k4)
          rcases k2 with rfl | ⟨rfl, rfl⟩ <;> exact fin
        · rename_i c i' ob v hsem
          obtain ⟨hc, rfl⟩ := cond_some he
          obtain ⟨n, u, w', μ', k1, k2, k3, k4, k5⟩ := sem_ok sub R (fun x => A.val x) hsem hc rfl
          rw [semAt_of hsem, k1]
          have h' : (σ.with (setAll σ.heap [(i', ob)])).put o.dst v = some σ' := h
          obtain ⟨A', e'⟩ := A.put (Carry.of (B := B) k4) k5 h'
          have fin := hK _ w' μ' S A' (by rw [e']; exact k3) (by rw [e']; exact Carry.of k4)
          rcases k2 with rfl | ⟨rfl, rfl⟩ <;> exact fin
        · rename_i c i' ob v u' hsem
          obtain ⟨n, u, w', μ', k1, k2, k3, k4, k5⟩ := sem_ok sub R (fun x => A.val x) hsem rfl rfl
          rw [semAt_of hsem, k1]
          cases c with
          | true =>
            simp only [cond_true, Option.some.injEq] at he; subst he
            have h' : (σ.with (setAll σ.heap [(i', ob)])).put o.dst v = some σ' := h
            obtain ⟨A', e'⟩ := A.put (Carry.of (B := B) k4) k5 h'
            have fin := hK _ w' μ' S A' (by rw [e']; exact k3) (by rw [e']; exact Carry.of k4)
            rcases k2 with rfl | ⟨rfl, rfl⟩ <;> exact fin
          | false =>
            simp only [cond_false, Option.some.injEq] at he; subst he
            have h' : (σ.with σ.heap).put o.dst u' = some σ' := h
            obtain ⟨A', e'⟩ := A.put (Carry.of (B := B) k4) k5 h'
            have fin := hK _ w' μ' S A' (by rw [e']; exact k3) (by rw [e']; exact Carry.of k4)
            rcases k2 with rfl | ⟨rfl, rfl⟩ <;> exact fin
        · rename_i k as hsem
          split at he
          · rename_i u hupd
            split at he
            · rename_i i' ob v hout
              cases he
              obtain ⟨us, k1, k2⟩ := sem_call (w := w) (fun x => A.val x) hsem
              rw [semAt_of hsem]
              cases k with
              | yld _ => simp [updOfC] at hupd
              | fn k =>
              refine upon_goes k1 (RunC.mono (c := .fn k) (call_upd (hC.2.1 _ _ (updOf_isUpd hupd).2) sub R k2 hout) ?_)
              rintro e w' ⟨v, μ', rfl, q1, q2, q3⟩
              refine ⟨_, rfl, ?_⟩
              have h' : (σ.with (upd σ.heap i' (some ob))).put o.dst _ = some σ' := h
              obtain ⟨A', e'⟩ := A.put q3 q1 h'
              exact hK _ w' μ' S A' (by rw [e']; exact q2) (by rw [e']; exact q3)
            · simp at he
          split at he
          · rename_i con _ hcon
            unfold conEff at he
            split at he
            · rename_i x hx
              split at he
              · rename_i y hy
                cases he
                have h2 : (freshAll σ.heap (objRs con.rs y id) && inSite id (objRs con.rs y id)) = true ∧ (σ.with (setAll σ.heap (objRs con.rs y id))).put o.dst (resAV (encRs con.rs y id)) = some σ' := by
                  unfold St.eff at h
                  cases hb : (freshAll σ.heap (objRs con.rs y id) && inSite id (objRs con.rs y id)) with
                  | false => rw [hb] at h; simp at h
                  | true => rw [hb] at h; exact ⟨rfl, h⟩
                obtain ⟨h2, h'⟩ := h2
                simp only [Bool.and_eq_true] at h2
                obtain ⟨us, k1, k2⟩ := sem_call (w := w) (fun x => A.val x) hsem
                rw [semAt_of hsem]
                cases k with
                | yld _ => simp [conOfC] at hcon
                | fn k =>
                refine upon_goes k1 (RunC.mono (c := .fn k) (call_con (hC.1 _ _ hcon) sub R k2 hx hy h2.1) ?_)
                rintro e w' ⟨v, μ', S', rfl, q1, q2, q3⟩
                refine ⟨_, rfl, ?_⟩
                obtain ⟨A', e'⟩ := A.put q3 q1 h'
                exact hK _ w' μ' S' A' (by rw [e']; exact q2) (by rw [e']; exact q3)
              · simp at he
            · simp at he
          · simp at he
        · simp at he
      · split at h
        · rename_i v H' L' hi
          unfold exInl at hi
          split at hi
          · rename_i k as hsem
            split at hi
            · simp at hi
            · obtain ⟨us, k1, k2⟩ := sem_call (w := w) (fun x => A.val x) hsem
              rw [semAt_of hsem]
              have hBd : Bd σ := by
                rcases hBd with h | h
                · exact h
                · subst h; simp [noInl] at hi
              refine upon_goes k1 (((hF _ _ _ _ _ _ _ _ hi hBd).2 μ S B w0 w us R k2).mono ?_)
              rintro e w' ⟨u, μ', S', rfl, q1, q2, q3⟩
              refine ⟨_, rfl, ?_⟩
              obtain ⟨A', e'⟩ := A.put q3 q1 h
              exact hK _ w' μ' S' A' (by rw [e']; exact q2) (by rw [e']; exact q3)
          · simp at hi
        · simp at h
    · rename_i hw
      simp only [want_ok A hw, Bool.false_eq_true, if_false]
      have h' : (σ.with σ.heap).put o.dst (.lit undef) = some σ' := h
      obtain ⟨A', e'⟩ := A.put (Carry.refl (B := B) (H := σ.heap)) (v := .lit undef) (u := undef) (by simp only [VR]) h'
      exact ⟨fun _ _ => trivial, hK _ w μ S A' (by rw [e']; exact R) (by rw [e']; exact Carry.refl)⟩
    · simp at h

omit [Glob] in
theorem setAll_or : ∀ (l : List (Nat × HObj)) (H : Heap) (q : Nat), setAll H l q ≠ none → q ∈ l.map (·.1) ∨ H q ≠ none
  | [], H, q, h => .inr h
  | (i, o) :: l, H, q, h => by
    rcases setAll_or l _ q h with h | h
    · exact .inl (by simp only [List.map_cons, List.mem_cons]; exact .inr h)
    · by_cases e : q = i
      · subst e; exact .inl (by simp)
      · rw [upd_ne _ _ e] at h; exact .inr h

/-- what is overwritten was there -/
def wrOld (Hh : Heap) (e : Eff) : Prop := e.new = false → ∀ q ∈ e.sets.map (·.1), Hh q ≠ none

omit [Glob] in
theorem put_keeps {σ σ' : St} {dst : Option Tmp} {v : AV} (h : σ.put dst v = some σ') : σ'.heap = σ.heap ∧ σ'.ids = σ.ids := by
  cases dst with
  | none => simp only [St.put, Option.some.injEq] at h; subst h; exact ⟨rfl, rfl⟩
  | some d => obtain ⟨_, rfl⟩ := cond_some h; exact ⟨rfl, rfl⟩

omit [Glob] in
theorem eff_keeps {σ σ' : St} {id : Nat} {dst : Option Tmp} {e : Eff} (h : σ.eff id dst e = some σ') : σ'.heap = setAll σ.heap e.sets ∧ σ'.ids = σ.ids := by
  unfold St.eff at h
  cases hb : (e.new && !(freshAll σ.heap e.sets && inSite id e.sets)) with
  | true => rw [hb] at h; simp at h
  | false => rw [hb] at h; exact put_keeps h
end
end Go.Sy

/- Operations in whatever order their edges allow. -/
namespace Go.Sy
open Go Go.RowKit
set_option linter.unusedSimpArgs false
set_option linter.unusedVariables false

def isW0 (o : Oper) : Bool :=
  match o.op with
  | .store _ _ _ => true
  | .next _ _ => true
  | .mapEntry _ _ _ => true
  | .entryStore _ _ _ _ => true
  | .mapUpdate _ _ _ _ => true
  | .call c => match c.callee with
    | .builtin .append => true
    | .builtin .clear => true
    | _ => false
  | _ => false

def isW (C : Cons) (o : Oper) : Bool := isW0 o || isUpd C o

theorem isW_isR {P : Program} {C : Cons} {o : Oper} (h : isW C o = true) : isR P o = true := by
  obtain ⟨dst, op, ty, pos, af, gd⟩ := o
  cases op <;> simp only [isW, isW0, isUpd, Bool.or_self, Bool.false_eq_true] at h <;> rfl

def maskOf (m : List Nat) (o : Oper) : Nat := o.after.toList.foldl (fun s e => cond (Region.binds .any e) (s ||| 2 ^ e.on ||| m.getD e.on 0) s) 0
def masksAux : List Oper → List Nat → List Nat
  | [], acc => acc
  | o :: l, acc => masksAux l (acc ++ [maskOf acc o])
def masks (ops : Array Oper) : List Nat := masksAux ops.toList []

def indep (P : Program) (C : Cons) (ops : Array Oper) (m : List Nat) (x i : Nat) (ox oi : Oper) : Bool :=
  ox.apart ops oi && !(Nat.testBit (m.getD i 0) x) && !(Nat.testBit (m.getD x 0) i)

def pairOK (P : Program) (C : Cons) (ops : Array Oper) (m : List Nat) (x i : Nat) : Bool :=
  match ops[x]?, ops[i]? with
  | some ox, some oi => Nat.testBit (m.getD i 0) x || indep P C ops m x i ox oi
  | _, _ => false

def edgesOK (o : Oper) (i : Nat) : Bool := o.after.toList.all fun e => cond (Region.binds .any e) (ltN e.on i) true

def regionOK (P : Program) (C : Cons) (ops : Array Oper) (m : List Nat) : Bool :=
  P.follows .mixedOrders &&
  (List.range ops.size).all fun i => match ops[i]? with
    | some o => Nat.beq (m.getD i 0) (maskOf m o) && edgesOK o i && (List.range i).all fun x => pairOK P C ops m x i
    | none => false

def vis (base n mask q : Nat) : Bool := cond (Nat.ble base q && ltN q (base + n * 16)) (Nat.testBit mask ((q - base) / 16)) true
/-- the object that a value points into -/
def avId : AV → Option Nat
  | .ptr i _ => some i
  | .elp i _ _ _ => some i
  | .sl i _ => some i
  | .sub i _ _ _ => some i
  | .mp i => some i
  | _ => none

/-- the object that an operation writes to -/
def tgtAt (ρ : Operand → AV) (o : Oper) : Option Nat :=
  match o.op with
  | .store _ a _ => avId (ρ a)
  | .next x _ => avId (ρ x)
  | .mapEntry _ x _ => avId (ρ x)
  | .mapUpdate _ x _ _ => avId (ρ x)
  | .entryStore _ x _ _ => avId (ρ x)
  | .call c => match c.args.toList with
    | x :: _ => avId (ρ x)
    | [] => none
  | _ => none

/-- the last operation ahead of place b that sets a temporary -/
def findDst (t b : Nat) : List Oper → Nat → Option (Nat × Oper)
  | [], _ => none
  | o :: l, n => cond (ltN n b) (match findDst t b l (n + 1) with
    | some r => some r
    | none => match o.dst with
      | some d => cond (Nat.beq d t) (some (n, o)) none
      | none => none) none

/-- what a temporary will point into, as far as it can be told ahead of the region -/
def resT (ops : Array Oper) (base : Nat) (σ : St) : Nat → Nat → Operand → Option Nat
  | 0, _, _ => none
  | n + 1, b, .tmp t => match findDst t b ops.toList 0 with
    | some (y, o) => match o.op with
      | .alloc _ => some (base + y * 16)
      | .box _ _ => some (base + y * 16)
      | .move x => resT ops base σ n y x
      | .assign x => resT ops base σ n y x
      | .fieldAddr _ x _ => resT ops base σ n y x
      | .indexAddr _ x _ => resT ops base σ n y x
      | .nilCheck x => resT ops base σ n y x
      | .call c => match c.args.toList with
        | x :: _ => match resT ops base σ n y x with
          | some j => some j
          | none => some (base + y * 16)
        | [] => none
      | _ => none
    | none => avId (σ.tmps t)
  | _, _, _ => none

/-- for each operation, what it will write to -/
def tgt0 (C : Cons) (ops : Array Oper) (base : Nat) (σ : St) (i : Nat) (o : Oper) : Option Nat :=
  cond (isW C o) (match o.op with
    | .store _ a _ => resT ops base σ 9 i a
    | .next x _ => resT ops base σ 9 i x
    | .mapEntry _ x _ => resT ops base σ 9 i x
    | .mapUpdate _ x _ _ => resT ops base σ 9 i x
    | .entryStore _ x _ _ => resT ops base σ 9 i x
    | .call c => match c.args.toList with
      | x :: _ => resT ops base σ 9 i x
      | [] => none
    | _ => none) none

def tgts (C : Cons) (ops : Array Oper) (base : Nat) (σ : St) : List (Option Nat) :=
  (List.range ops.size).map fun i => match ops[i]? with
    | some o => tgt0 C ops base σ i o
    | none => none

def eqO : Option Nat → Nat → Bool
  | some i, j => Nat.beq i j
  | none, _ => false

/-- no operation that need not be ahead, nor behind, looks at memory -/
def statOK (P : Program) (ops : Array Oper) (m : List Nat) (i : Nat) : Bool :=
  (List.range ops.size).all fun x => Nat.beq x i || Nat.testBit (m.getD i 0) x || Nat.testBit (m.getD x 0) i || (match ops[x]? with
    | some ox => !(isR P ox)
    | none => true)

/-- it writes to what was told -/
def tgtOK (P : Program) (C : Cons) (ops : Array Oper) (m : List Nat) (W : List (Option Nat)) (i : Nat) (σ : St) : Bool :=
  match ops[i]? with
  | some o => cond (isW C o) (match tgtAt σ.val o with
    | some j => eqO (W.getD i none) j || statOK P ops m i
    | none => true) true
  | none => true

/-- some operation writes that need not be ahead of, nor behind, one that looks at memory -/
def dynR (P : Program) (C : Cons) (ops : Array Oper) (m : List Nat) : Bool :=
  (List.range ops.size).any fun i => match ops[i]? with
    | some o => isW C o && !(statOK P ops m i)
    | none => false

def wOf (P : Program) (C : Cons) (ops : Array Oper) (m : List Nat) (base : Nat) (σ : St) : List (Option Nat) :=
  cond (dynR P C ops m) (tgts C ops base σ) []

def hasN (L : List Nat) (i : Nat) : Bool := L.any (Nat.beq i)

/-- what operations write that need not be ahead of one, nor behind it -/
def oth (m : List Nat) (W : List (Option Nat)) (n i : Nat) : List Nat :=
  match W with
  | [] => []
  | _ :: _ => (List.range n).filterMap fun x => cond (Nat.beq x i || Nat.testBit (m.getD i 0) x || Nat.testBit (m.getD x 0) i) none (W.getD x none)

def hideF (base n mask : Nat) (ot : List Nat) (H : Heap) : Heap := fun q => cond (vis base n mask q && !hasN ot q) (H q) none

def exH (P : Program) (C : Cons) (ops : Array Oper) (m : List Nat) (W : List (Option Nat)) (base i : Nat) (σ : St) : Option St :=
  cond (tgtOK P C ops m W i σ) (exOp P C noInl ops (hideF base ops.size (m.getD i 0) (oth m W ops.size i)) (base + i * 16) i σ) none

def exHs (P : Program) (C : Cons) (ops : Array Oper) (m : List Nat) (W : List (Option Nat)) (base : Nat) : List Nat → St → Option St
  | [], σ => some σ
  | i :: l, σ => match exH P C ops m W base i σ with
    | some σ' => exHs P C ops m W base l σ'
    | none => none

/-- the numbers of the objects that several lay -/
def hsNew (P : Program) (C : Cons) (ops : Array Oper) (m : List Nat) (W : List (Option Nat)) (base : Nat) : List Nat → St → List Nat
  | [], _ => []
  | i :: l, σ => opNew P C ops (hideF base ops.size (m.getD i 0) (oth m W ops.size i) σ.heap) (base + i * 16) i σ ++ (match exH P C ops m W base i σ with
    | some σ' => hsNew P C ops m W base l σ'
    | none => [])

def exAny (P : Program) (C : Cons) (ops : Array Oper) (base : Nat) (σ : St) : Option St :=
  cond (regionOK P C ops (masks ops)) (match exHs P C ops (masks ops) (wOf P C ops (masks ops) base σ) base (List.range ops.size) σ with
    | some σ' => some (σ'.addIds (hsNew P C ops (masks ops) (wOf P C ops (masks ops) base σ) base (List.range ops.size) σ))
    | none => none) none

/-- in order -/
def exOps (P : Program) (C : Cons) (F : Inl) (ops : Array Oper) (base : Nat) : List Nat → St → Option St
  | [], σ => some σ
  | i :: l, σ => match exOp P C F ops (fun H => H) (base + i * 16) i σ with
    | some σ' => exOps P C F ops base l (σ'.addIds (opNew P C ops σ.heap (base + i * 16) i σ))
    | none => none

/-! one operation as what it sets -/
def stepE (P : Program) (C : Cons) (ops : Array Oper) (Hh : Heap) (id : Nat) (o : Oper) (σ : St) : Option Eff :=
  match want ops σ o with
  | some true => exEff P C Hh id o σ.val
  | some false => some ⟨[], false, .lit undef⟩
  | none => none

theorem exOp_stepE {P : Program} {C : Cons} {ops : Array Oper} {hide : Heap → Heap} {id i : Nat} {σ : St} {o : Oper} (ho : ops[i]? = some o) :
    exOp P C noInl ops hide id i σ = match stepE P C ops (hide σ.heap) id o σ with
      | some e => σ.eff id o.dst e
      | none => none := by
  unfold exOp stepE
  rw [ho]
  simp only
  cases hw : want ops σ o with
  | none => rfl
  | some b =>
    cases b with
    | true =>
      simp only
      cases he : exEff P C (hide σ.heap) id o σ.val with
      | some e => rfl
      | none =>
        have : exInl P C noInl (hide σ.heap) id o σ.val σ.heap σ.ids = none := by
          unfold exInl; split <;> first | rfl | (split <;> rfl)
        simp only [this]
    | false => rfl

section
variable [Glob] {P : Program} {C : Cons} {ops : Array Oper} {σ σ' σ1 σ2 : St} {H H' : Heap}

omit [Glob] in
theorem val_congr {x : Operand} (hn : σ'.nt = σ.nt) (h : ∀ t, x = .tmp t → σ'.tmps t = σ.tmps t) : σ'.val x = σ.val x := by
  cases x with
  | tmp t => simp only [St.val, hn, h t rfl]
  | _ => rfl

omit [Glob] in
theorem want_congr {o : Oper} (hn : σ'.nt = σ.nt) (h : ∀ t, t ∈ o.looksAt ops → σ'.tmps t = σ.tmps t) : want ops σ' o = want ops σ o := by
  unfold want
  cases hg : o.guard with
  | none => rfl
  | some p =>
    obtain ⟨j, b⟩ := p
    simp only
    cases hj : ops[j]? with
    | none => rfl
    | some g =>
      simp only
      cases hd : g.dst with
      | none => rfl
      | some d =>
        simp only
        have : σ'.val (.tmp d) = σ.val (.tmp d) := val_congr hn fun t e => by
          cases e
          refine h d ?_
          unfold Oper.looksAt
          rw [hg]; simp [hj, hd]
        rw [this]

omit [Glob] in
theorem sem_congr {o : Oper} {id : Nat} {ρ ρ' : Operand → AV} (h : ∀ x ∈ o.op.operands, ρ' x = ρ x) : sem P H id o ρ' = sem P H id o ρ := by
  obtain ⟨dst, op, ty, pos, af, gd⟩ := o
  cases op <;> simp only [Op.operands] at h <;> simp only [sem]
  case move x => rw [h x (by simp)]
  case assign x => rw [h x (by simp)]
  case pick c a b => rw [h c (by simp), h a (by simp), h b (by simp)]
  case box t x => rw [h x (by simp)]
  case load t x => rw [h x (by simp)]
  case store t a x => rw [h a (by simp), h x (by simp)]
  case fieldAddr s x f => rw [h x (by simp)]
  case field s x f => rw [h x (by simp)]
  case nilCheck x => rw [h x (by simp)]
  case binOp op t x y yt => rw [h x (by simp), h y (by simp)]
  case unOp op t x => rw [h x (by simp)]
  case convert s d x => rw [h x (by simp)]
  case build t parts =>
    have e1 : (parts.toList.map fun p => (p.1, ρ' p.2)) = parts.toList.map fun p => (p.1, ρ p.2) := List.map_congr_left fun p hp => by rw [h p.2 (by simp; exact ⟨p.1, by simpa using hp⟩)]
    rw [e1]
  case buildSlice t n parts =>
    have e1 : (parts.toList.map fun p => (p.1, ρ' p.2)) = parts.toList.map fun p => (p.1, ρ p.2) := List.map_congr_left fun p hp => by rw [h p.2 (by simp; exact ⟨p.1, by simpa using hp⟩)]
    rw [e1]
  case makeSlice t l c => rw [h l (by simp), h c (by simp)]
  case slice t x lo hi mx =>
    have e : ∀ o : Option Operand, (∀ y, o = some y → ρ' y = ρ y) → o.map ρ' = o.map ρ := by
      intro o ho; cases o with
      | none => rfl
      | some y => simp [ho y rfl]
    rw [h x (by simp), e lo (fun y e => h y (by subst e; simp)), e hi (fun y e => h y (by subst e; simp)), e mx (fun y e => h y (by subst e; simp))]
  case range t x => rw [h x (by simp)]
  case next x s => rw [h x (by simp)]
  case extract t i => rw [h t (by simp)]
  case index t x i => rw [h x (by simp), h i (by simp)]
  case mapEntry t m k => rw [h m (by simp), h k (by simp)]
  case mapUpdate t m k x => rw [h m (by simp), h k (by simp), h x (by simp)]
  case entryStore t m s x => rw [h m (by simp), h s (by simp), h x (by simp)]
  case lookup t x k ok => rw [h x (by simp), h k (by simp)]
  case indexAddr t x i => rw [h x (by simp), h i (by simp)]
  case makeFunc fn first caps =>
    have e1 : first.toList.map ρ' = first.toList.map ρ := List.map_congr_left fun x hx => h x (by simp; exact .inl (by simpa using hx))
    have e2 : caps.toList.map ρ' = caps.toList.map ρ := List.map_congr_left fun x hx => h x (by simp; exact .inr (by simpa using hx))
    rw [e1, e2]
  case call c =>
    obtain ⟨callee, args, argTypes⟩ := c
    simp only [Call.operands] at h
    have e1 : args.toList.map ρ' = args.toList.map ρ := List.map_congr_left fun x hx => h x (by simp; exact .inr (by simpa using hx))
    cases callee with
    | value f => simp only [e1]; rw [h f (by simp)]
    | invoke r m => rfl
    | builtin b =>
      cases b <;> try rfl
      · simp only
        split
        · rename_i t u s x ht hx
          rw [h x (by simp; exact (by rw [← Array.mem_toList_iff, hx]; simp)), h s (by simp; exact (by rw [← Array.mem_toList_iff, hx]; simp))]
        · rfl
      · simp only
        split
        · rename_i t x ht hx
          rw [h x (by simp; exact (by rw [← Array.mem_toList_iff, hx]; simp))]
        · rfl
      · simp only
        split
        · rename_i t x ht hx
          rw [h x (by simp; exact (by rw [← Array.mem_toList_iff, hx]; simp))]
        · rfl
      · simp only
        split
        · rename_i x y hx
          rw [h x (by simp; exact (by rw [← Array.mem_toList_iff, hx]; simp)), h y (by simp; exact (by rw [← Array.mem_toList_iff, hx]; simp))]
        · rfl
      · simp only
        split
        · rename_i x y hx
          rw [h x (by simp; exact (by rw [← Array.mem_toList_iff, hx]; simp)), h y (by simp; exact (by rw [← Array.mem_toList_iff, hx]; simp))]
        · rfl

omit [Glob] in
theorem sem_pure {o : Oper} {id : Nat} {ρ : Operand → AV} (h : isR P o = false) : sem P H id o ρ = sem P H' id o ρ := by
  obtain ⟨dst, op, ty, pos, af, gd⟩ := o
  cases op <;> simp only [isR, reduceCtorEq] at h <;> try rfl
  case convert s d x =>
    unfold sem
    simp only
    split
    · rfl
    · unfold oStr
      split
      · rename_i hs _
        rw [hs] at h; simp at h
      · rfl

omit [Glob] in
theorem exEff_pure {o : Oper} {id : Nat} {ρ : Operand → AV} (h : isR P o = false) : exEff P C H id o ρ = exEff P C H' id o ρ := by
  unfold exEff
  rw [sem_pure (H' := H') h]
  cases hs : sem P H' id o ρ with
  | none => rfl
  | some out =>
    cases out with
    | call k as =>
      have hu : updOfC C o k = none := by
        cases k with
        | yld i => rfl
        | fn k =>
        show updOf C o k = none
        unfold updOf
        unfold isR at h
        split
        · rename_i c hc; rw [hc] at h; simp at h
        · rfl
      simp only [h, hu]
    | _ => rfl

omit [Glob] in
theorem exEff_congr {o : Oper} {id : Nat} {ρ ρ' : Operand → AV} (h : ∀ x ∈ o.op.operands, ρ' x = ρ x) : exEff P C H id o ρ' = exEff P C H id o ρ := by
  unfold exEff
  rw [sem_congr h]

omit [Glob] in
theorem stepE_congr {o : Oper} {id : Nat} (hn : σ'.nt = σ.nt) (h : ∀ t, t ∈ o.looksAt ops → σ'.tmps t = σ.tmps t) (hH : isR P o = true → H' = H) :
    stepE P C ops H' id o σ' = stepE P C ops H id o σ := by
  unfold stepE
  rw [want_congr hn h]
  have : exEff P C H' id o σ'.val = exEff P C H id o σ.val := by
    have e1 : exEff P C H' id o σ'.val = exEff P C H' id o σ.val := exEff_congr fun x hx => val_congr hn fun t e => by
      subst e
      refine h t ?_
      unfold Oper.looksAt
      exact List.mem_append.2 (.inl (List.mem_filterMap.2 ⟨.tmp t, by simpa using hx, rfl⟩))
    rw [e1]
    cases hr : isR P o with
    | true => rw [hH hr]
    | false => exact exEff_pure hr
  rw [this]
end

/-! setting objects apart from each other -/
def ids (l : List (Nat × HObj)) : List Nat := l.map (·.1)

theorem setAll_other : ∀ (l : List (Nat × HObj)) (H : Heap) (q : Nat), q ∉ ids l → setAll H l q = H q
  | [], H, q, _ => rfl
  | (i, o) :: l, H, q, h => by
    simp only [ids, List.map_cons, List.mem_cons, not_or] at h
    rw [setAll, setAll_other l _ q h.2, upd_ne _ _ h.1]

theorem setAll_upd : ∀ (l : List (Nat × HObj)) (H : Heap) (i : Nat) (o : Option HObj), i ∉ ids l → setAll (upd H i o) l = upd (setAll H l) i o
  | [], H, i, o, _ => rfl
  | (j, p) :: l, H, i, o, h => by
    simp only [ids, List.map_cons, List.mem_cons, not_or] at h
    rw [setAll, setAll, upd_comm _ _ _ h.1, setAll_upd l _ i o h.2]

theorem setAll_comm : ∀ (l k : List (Nat × HObj)) (H : Heap), (∀ i ∈ ids l, i ∉ ids k) → setAll (setAll H l) k = setAll (setAll H k) l
  | [], k, H, _ => rfl
  | (i, o) :: l, k, H, h => by
    rw [setAll, setAll, setAll_comm l k _ (fun j hj => h j (by simp [ids] at hj ⊢; exact .inr hj)), setAll_upd k H i (some o) (h i (by simp [ids]))]

theorem freshAll_ext : ∀ (l : List (Nat × HObj)) (H H' : Heap), (∀ i ∈ ids l, H' i = H i) → freshAll H' l = freshAll H l
  | [], H, H', _ => rfl
  | (i, o) :: l, H, H', h => by
    have h0 : H' i = H i := h i (by simp [ids])
    simp only [freshAll, h0]
    rw [freshAll_ext l (upd H i (some o)) (upd H' i (some o)) (fun j hj => by
      by_cases e : j = i
      · subst e; rw [upd_same, upd_same]
      · rw [upd_ne _ _ e, upd_ne _ _ e]; exact h j (by simp [ids] at hj ⊢; exact .inr hj))]

theorem freshAll_none : ∀ (l : List (Nat × HObj)) (H : Heap), freshAll H l = true → ∀ i ∈ ids l, H i = none
  | [], H, _, i, hi => by simp [ids] at hi
  | (j, o) :: l, H, h, i, hi => by
    simp only [freshAll, Bool.and_eq_true, Option.isNone_iff_eq_none] at h
    simp only [ids, List.map_cons, List.mem_cons] at hi
    rcases hi with rfl | hi
    · exact h.1
    · have := freshAll_none l _ h.2 i hi
      by_cases e : i = j
      · subst e; exact h.1
      · rw [upd_ne _ _ e] at this; exact this

theorem inSite_mem : ∀ {l : List (Nat × HObj)} {id : Nat}, inSite id l = true → ∀ i ∈ ids l, id ≤ i ∧ i < id + 16
  | [], id, _, i, hi => by simp [ids] at hi
  | (j, o) :: l, id, h, i, hi => by
    simp only [inSite, Bool.and_eq_true] at h
    simp only [ids, List.map_cons, List.mem_cons] at hi
    rcases hi with rfl | hi
    · exact ⟨Nat.le_of_ble_eq_true h.1.1, of_ltN h.1.2⟩
    · exact inSite_mem h.2 i hi

/-- what is set: nothing, new objects in one's own site, or one that is seen (and then the operation writes) -/
def EffOK (C : Cons) (Hh : Heap) (σ : St) (id : Nat) (o : Oper) (e : Eff) : Prop :=
  e.sets = [] ∨ e.new = true ∨ (isW C o = true ∧ ∃ j ob, e.sets = [(j, ob)] ∧ (Hh j).isSome = true ∧ tgtAt σ.val o = some j)

theorem oStore_wr {P : Program} {H : Heap} {t : TypeId} {a x : AV} {c : Bool} {j : Nat} {ob : HObj} {v : AV} (h : oStore P H t a x = some (.wr c j ob v)) : (H j).isSome = true ∧ avId a = some j := by
  unfold oStore at h
  split at h
  · split at h
    · rename_i hH
      split at h
      · have := (cond_some h).2
        cases this
        exact ⟨by rw [hH]; rfl, rfl⟩
      · simp at h
    · simp at h
  · split at h
    · rename_i hH
      split at h
      · split at h
        · have := (cond_some h).2
          cases this
          exact ⟨by rw [hH]; rfl, rfl⟩
        · simp at h
      · simp at h
    · simp at h
  · simp at h

theorem oAppend_wr {P : Program} {H : Heap} {id t : Nat} {s x : AV} {c : Bool} {j : Nat} {ob : HObj} {v : AV} (h : oAppend P H id t s x = some (.wr c j ob v)) : (H j).isSome = true ∧ avId s = some j := by
  unfold oAppend at h
  split at h
  case h_2 => simp at h
  split at h
  case h_2 => simp at h
  split at h
  case h_2 => simp at h
  split at h
  case h_2 => simp at h
  have h := (cond_out h).2
  split at h
  · split at h
    case h_2 => simp at h
    rename_i hH
    split at h
    case h_2 => simp at h
    have := (cond_some h).2
    cases this
    exact ⟨by rw [hH]; rfl, rfl⟩
  · split at h
    case h_2 => simp at h
    split at h
    case h_2 => simp at h
    have := (cond_some h).2
    simp at this
  · simp at h

theorem oAppendH_wr {P : Program} {H : Heap} {id t : Nat} {s x : AV} {c : Bool} {j : Nat} {ob : HObj} {v : AV} (h : oAppendH P H id t s x = some (.wr c j ob v)) : (H j).isSome = true ∧ avId s = some j := by
  unfold oAppendH at h
  split at h
  case h_2 => exact oAppend_wr h
  split at h
  case h_2 => simp at h
  split at h
  case h_2 => simp at h
  rename_i hH
  split at h
  case h_2 => simp at h
  have h := (cond_some h).2
  cases h
  exact ⟨by rw [hH]; rfl, rfl⟩

theorem updRow_some {u : UCon} {Hh : Heap} {i g : Nat} {part : Option Nat} {rest : List AV} {r : HObj × AV} (h : updRow u Hh i g part rest = some r) : (Hh i).isSome = true := by
  unfold updRow at h
  split at h
  · rename_i hH; rw [hH]; rfl
  · simp at h

theorem updOut_some {u : UCon} {Hh : Heap} {as : List AV} {i : Nat} {o : HObj} {v : AV} (h : updOut u Hh as = some (i, o, v)) : (Hh i).isSome = true ∧ ∃ x r, as = x :: r ∧ avId x = some i := by
  unfold updOut at h
  split at h
  · split at h
    · rename_i hr; cases h; exact ⟨updRow_some hr, _, _, rfl, rfl⟩
    · simp at h
  · obtain ⟨_, h⟩ := cond_out h
    split at h
    · rename_i hr; cases h; exact ⟨updRow_some hr, _, _, rfl, rfl⟩
    · simp at h
  · simp at h

def Out.writes : Out → Option Nat
  | .wr _ i _ _ => some i
  | .nxt _ i _ _ _ => some i
  | _ => none

theorem sem_writes {P : Program} {H : Heap} {id : Nat} {o : Oper} {ρ : Operand → AV} {out : Out} {j : Nat} (h : sem P H id o ρ = some out) (hw : out.writes = some j) :
    isW0 o = true ∧ (H j).isSome = true ∧ tgtAt ρ o = some j := by
  obtain ⟨dst, op, ty, pos, af, gd⟩ := o
  unfold sem at h
  have no : ∀ {o : Out} {a : Prop}, some o = some out → o.writes = none → a := by
    intro o a h1 h2
    cases h1; rw [h2] at hw; simp at hw
  cases op <;> simp only [reduceCtorEq] at h
  case move x => exact no h rfl
  case assign x => exact no h rfl
  case makeFunc fn first caps => exact no h rfl
  case store t a x =>
    cases out <;> simp only [Out.writes, reduceCtorEq, Option.some.injEq] at hw
    · subst hw; exact ⟨rfl, oStore_wr h⟩
    · unfold oStore at h; (repeat' split at h) <;> first | (simp at h; done) | (have := (cond_some h).2; simp at this)
  case next x s =>
    refine ⟨rfl, ?_⟩
    unfold oNext at h
    split at h
    case h_2 => simp at h
    split at h
    case h_2 => simp at h
    rename_i hH
    cases h
    simp only [Out.writes, Option.some.injEq] at hw
    subst hw
    exact ⟨by rw [hH]; rfl, by simp only [tgtAt]; simp_all [avId]⟩
  case pick c a b => split at h <;> first | exact no h rfl | simp at h
  case alloc t => unfold oAlloc at h; (repeat' split at h) <;> first | exact no h rfl | simp at h
  case box t x => unfold oBox at h; (repeat' split at h) <;> first | exact no h rfl | simp at h
  case load t a =>
    unfold oLoad at h; (repeat' split at h) <;> first | exact no h rfl | (simp at h; done) | skip
    all_goals (obtain ⟨_, h⟩ := cond_out h; (repeat' split at h) <;> first | exact no h rfl | simp at h)
  case fieldAddr s x f =>
    unfold oField at h
    split at h
    case h_2 => simp at h
    split at h
    case h_2 => simp at h
    split at h
    case h_2 => simp at h
    rename_i ti _
    cases h0 : Nat.beq ti.size 0 <;> rw [h0] at h <;> simp only [cond_true, cond_false, reduceCtorEq] at h
    (repeat' split at h) <;> first | exact no h rfl | (simp at h; done) | (exact no (cond_out h).2 rfl)
  case field s x f => unfold oPart at h; (repeat' split at h) <;> first | exact no h rfl | simp at h
  case nilCheck x => unfold oNil at h; (repeat' split at h) <;> first | exact no h rfl | (simp at h; done) | (exact no (cond_out h).2 rfl)
  case binOp op t x y yt =>
    unfold oBin at h; split at h
    · split at h <;> first | exact no h rfl | simp at h
    · have h := (cond_no h).2
      (repeat' split at h) <;> first | exact no h rfl | simp at h
    · simp at h
  case unOp op t x => unfold oUn at h; (repeat' split at h) <;> first | exact no h rfl | simp at h
  case convert s d x =>
    split at h
    · unfold oConv at h; (repeat' split at h) <;> first | exact no h rfl | simp at h
    · unfold oStr at h; (repeat' split at h) <;> first | exact no h rfl | simp at h
  case build t parts => unfold oBuild at h; (repeat' split at h) <;> first | exact no h rfl | simp at h
  case buildSlice t n parts =>
    unfold oBuildSlice at h
    split at h
    case h_2 => simp at h
    split at h
    case h_3 => simp at h
    case h_1 =>
      split at h
      case h_2 => simp at h
      split at h
      case h_2 => simp at h
      have h := (cond_out h).2
      split at h
      case h_2 => simp at h
      split at h
      · exact no h rfl
      · simp at h
    case h_2 =>
      split at h
      case h_2 => simp at h
      split at h
      case h_2 => simp at h
      have h := (cond_out h).2
      split at h
      · exact no h rfl
      · simp at h
  case makeSlice t l c =>
    unfold oMake at h
    (repeat' split at h) <;> first | exact no h rfl | (simp at h; done) | (exact no (cond_out h).2 rfl)
  case slice t x lo hi mx =>
    unfold oSliceH oSub oSlice3 oSlice at h
    (repeat' split at h) <;> first | exact no h rfl | (simp at h; done) | (exact no (cond_out h).2 rfl)
  case range t x => unfold oRange at h; (repeat' split at h) <;> first | exact no h rfl | simp at h
  case extract t i => unfold oExt at h; (repeat' split at h) <;> first | exact no h rfl | simp at h
  case index t x i => unfold oIndex at h; (repeat' split at h) <;> first | exact no h rfl | simp at h
  case makeMap t r =>
    cases r with
    | none => unfold oMakeMap at h; exact no (cond_out h).2 rfl
    | some _ => simp at h
  case lookup t x k ok => unfold oLookup at h; (repeat' split at h) <;> first | (simp at h; done) | (exact no (cond_out h).2 rfl)
  case mapEntry t m k =>
    refine ⟨rfl, ?_⟩
    unfold oMapEntry at h
    split at h
    case h_2 => simp at h
    split at h
    case h_2 => simp at h
    rename_i hH
    have h := (cond_some h).2
    subst h
    simp only [Out.writes, Option.some.injEq] at hw
    subst hw
    exact ⟨by rw [hH]; rfl, by simp only [tgtAt]; simp_all [avId]⟩
  case mapUpdate t m k x =>
    refine ⟨rfl, ?_⟩
    unfold oMapUpdate at h
    split at h
    case h_2 => simp at h
    split at h
    case h_2 => simp at h
    rename_i hH
    have h := (cond_some h).2
    subst h
    simp only [Out.writes, Option.some.injEq] at hw
    subst hw
    exact ⟨by rw [hH]; rfl, by simp only [tgtAt]; simp_all [avId]⟩
  case entryStore t m s x =>
    refine ⟨rfl, ?_⟩
    unfold oEntryStore at h
    split at h
    case h_2 => simp at h
    split at h
    case h_2 => simp at h
    rename_i hH
    cases h
    simp only [Out.writes, Option.some.injEq] at hw
    subst hw
    exact ⟨by rw [hH]; rfl, by simp only [tgtAt]; simp_all [avId]⟩
  case indexAddr t x i => unfold oAtH oAt at h; (repeat' split at h) <;> first | exact no h rfl | (simp at h; done) | (exact no (cond_out h).2 rfl)
  case call c =>
    obtain ⟨callee, args, argTypes⟩ := c
    simp only at h
    split at h
    · split at h
      · unfold oLenH oLen at h; (repeat' split at h) <;> first | exact no h rfl | (simp at h; done) | (exact no (cond_out h).2 rfl)
      · simp at h
    · split at h
      · refine ⟨rfl, ?_⟩
        unfold oClear at h
        split at h
        case h_2 => simp at h
        split at h
        case h_2 => simp at h
        split at h
        case h_2 => simp at h
        rename_i hH
        (repeat' split at h) <;> first | (simp at h; done) | skip
        all_goals
          have h := (cond_some h).2
          subst h
          simp only [Out.writes, Option.some.injEq] at hw
          subst hw
          exact ⟨by rw [hH]; rfl, by simp only [tgtAt]; simp_all [avId]⟩
      · simp at h
    · split at h
      · refine ⟨rfl, ?_⟩
        have h := (cond_out h).2
        cases out <;> simp only [Out.writes, reduceCtorEq, Option.some.injEq] at hw
        · subst hw; obtain ⟨g1, g2⟩ := oAppendH_wr h; exact ⟨g1, by simp only [tgtAt]; simp_all⟩
        · exfalso
          unfold oAppendH at h
          split at h
          · (repeat' split at h) <;> first | (simp at h; done) | (have := (cond_some h).2; simp at this)
          unfold oAppend at h
          split at h
          case h_2 => simp at h
          split at h
          case h_2 => simp at h
          split at h
          case h_2 => simp at h
          split at h
          case h_2 => simp at h
          have h := (cond_out h).2
          (repeat' split at h) <;> first | (simp at h; done) | (have := (cond_some h).2; simp at this)
      · simp at h
    · split at h
      · unfold oMin at h
        split at h
        · exact no (cond_out h).2 rfl
        · simp at h
      · simp at h
    · split at h
      · unfold oMax at h
        split at h
        · exact no (cond_out h).2 rfl
        · simp at h
      · simp at h
    · unfold oCall at h
      split at h
      case h_3 => simp at h
      case h_2 => exact no h rfl
      split at h
      case h_2 => simp at h
      split at h
      case h_2 => simp at h
      rename_i fn _ _ _ _
      cases hn : fn.name == "runtime.NumGoroutine" <;> rw [hn] at h <;> simp only [cond_true, cond_false, reduceCtorEq] at h
      exact no h rfl
    · simp at h

theorem sem_wr {P : Program} {H : Heap} {id : Nat} {o : Oper} {ρ : Operand → AV} {c : Bool} {j : Nat} {ob : HObj} {v u : AV} (h : sem P H id o ρ = some (.wr c j ob v) ∨ sem P H id o ρ = some (.nxt c j ob v u)) :
    isW0 o = true ∧ (H j).isSome = true ∧ tgtAt ρ o = some j := by
  rcases h with h | h
  · exact sem_writes h rfl
  · exact sem_writes h rfl

theorem upd_tgt {P : Program} {C : Cons} {H : Heap} {id : Nat} {o : Oper} {σ : St} {k : Callee} {as : List AV} {u : UCon} {x : AV} {r : List AV} (hs : sem P H id o σ.val = some (.call k as)) (hu : updOfC C o k = some u) (ha : as = x :: r) : tgtAt σ.val o = avId x := by
  cases k with
  | yld i => simp [updOfC] at hu
  | fn k =>
    simp only [updOfC] at hu
    unfold updOf at hu
    split at hu
    case h_2 => simp at hu
    rename_i c hc
    split at hu
    case h_2 => simp at hu
    rename_i k' hk
    unfold sem at hs
    rw [hc] at hs
    simp only [hk] at hs
    have hv : σ.val (.func k') = .fn (.func k') [] [] := rfl
    rw [hv] at hs
    unfold oCall at hs
    simp only at hs
    split at hs
    case h_2 => simp at hs
    split at hs
    case h_2 => simp at hs
    obtain ⟨_, hs⟩ := cond_no hs
    simp only [Option.some.injEq, Out.call.injEq, List.nil_append, List.append_nil] at hs
    unfold tgtAt
    rw [hc]
    simp only
    rw [← hs.2] at ha
    cases hl : c.args.toList with
    | nil => rw [hl] at ha; simp at ha
    | cons a l =>
      rw [hl] at ha
      simp only [List.map_cons, List.cons.injEq] at ha
      simp only
      rw [ha.1]

theorem stepE_ok {P : Program} {C : Cons} {ops : Array Oper} {Hh : Heap} {id : Nat} {o : Oper} {σ : St} {e : Eff} (h : stepE P C ops Hh id o σ = some e) : EffOK C Hh σ id o e := by
  unfold stepE at h
  split at h
  · unfold exEff at h
    split at h
    · obtain ⟨_, rfl⟩ := cond_some h; exact .inl rfl
    · obtain ⟨_, rfl⟩ := cond_some h; exact .inr (.inl rfl)
    · rename_i hs
      obtain ⟨_, rfl⟩ := cond_some h
      obtain ⟨h1, h2, h3⟩ := sem_wr (u := .junk) (.inl hs)
      exact .inr (.inr ⟨by unfold isW; rw [h1]; rfl, _, _, rfl, h2, h3⟩)
    · rename_i c i ob v u hs
      obtain ⟨h1, h2, h3⟩ := sem_wr (.inr hs)
      cases c with
      | true => simp only [cond_true, Option.some.injEq] at h; subst h; exact .inr (.inr ⟨by unfold isW; rw [h1]; rfl, _, _, rfl, h2, h3⟩)
      | false => simp only [cond_false, Option.some.injEq] at h; subst h; exact .inl rfl
    · split at h
      · rename_i u hu
        split at h
        · rename_i i ob v hout
          cases h
          obtain ⟨g1, x, r, g2, g3⟩ := updOut_some hout
          exact .inr (.inr ⟨by unfold isW; rw [updOfC_isUpd hu]; simp, i, ob, rfl, g1, by rw [upd_tgt (by assumption) hu g2]; exact g3⟩)
        · simp at h
      split at h
      · unfold conEff at h
        split at h
        · split at h
          · cases h; exact .inr (.inl rfl)
          · simp at h
        · simp at h
      · simp at h
    · simp at h
  · cases h; exact .inl rfl
  · simp at h

section
variable [Glob] {P : Program} {C : Cons} {F : Inl} {r : Option Nat} {N : Stable} {w w0 : World} {μ μ' : Mu} {S S' : Stable} {B : Nat} {σ σ' : St} {a : Act} {Q : Exit → Act → World → Prop}

omit [Glob] in
theorem effBd {Hh : Heap} {id : Nat} {o : Oper} {e : Eff} (sub : ∀ i o, Hh i = some o → σ.heap i = some o) (hok : EffOK C Hh σ id o e) (hBd : Bd σ) (q : Nat) (hq : setAll σ.heap e.sets q ≠ none) :
    q ∈ σ.ids ++ cond e.new (e.sets.map (·.1)) [] := by
  rcases setAll_or _ _ q hq with h | h
  · rcases hok with h0 | h0 | ⟨h0, j, ob, hs, hj⟩
    · rw [h0] at h; simp at h
    · rw [h0]; exact List.mem_append.2 (.inr h)
    · obtain ⟨hj, _⟩ := hj
      rw [hs] at h
      simp only [List.map_cons, List.map_nil, List.mem_singleton] at h
      subst h
      refine List.mem_append.2 (.inl (hBd q ?_))
      cases ho : Hh q with
      | none => rw [ho] at hj; simp at hj
      | some o' => rw [sub _ _ ho]; simp
  · exact List.mem_append.2 (.inl (hBd q h))

theorem exOp_bd (hF : InlOK P F) {ops : Array Oper} {hide : Heap → Heap} (hs : ∀ H i o, hide H i = some o → H i = some o) {id i : Nat} (h : exOp P C F ops hide id i σ = some σ') (hBd : Bd σ) :
    Bd (σ'.addIds (opNew P C ops (hide σ.heap) id i σ)) := by
  unfold exOp at h
  unfold opNew
  intro q hq
  simp only [St.addIds] at hq ⊢
  cases ho : ops[i]? with
  | none => rw [ho] at h; simp only [Option.some.injEq] at h; subst h; exact List.mem_append.2 (.inl (hBd q hq))
  | some o =>
    rw [ho] at h
    simp only at h ⊢
    cases hw : want ops σ o with
    | none => rw [hw] at h; simp at h
    | some b =>
      rw [hw] at h
      cases b with
      | false =>
        simp only at h ⊢
        obtain ⟨e1, e2⟩ := put_keeps h
        rw [e1] at hq; rw [e2]
        exact List.mem_append.2 (.inl (hBd q hq))
      | true =>
        simp only at h ⊢
        cases he : exEff P C (hide σ.heap) id o σ.val with
        | some e =>
          rw [he] at h
          simp only at h ⊢
          obtain ⟨e1, e2⟩ := eff_keeps h
          rw [e1] at hq; rw [e2]
          have hok := stepE_ok (P := P) (C := C) (ops := ops) (Hh := hide σ.heap) (id := id) (o := o) (σ := σ) (e := e) (by unfold stepE; rw [hw]; exact he)
          exact effBd (hs σ.heap) hok hBd q hq
        | none =>
          rw [he] at h
          simp only at h ⊢
          split at h
          · rename_i v H' L' hi
            obtain ⟨e1, e2⟩ := put_keeps h
            rw [e1] at hq; rw [e2]
            unfold exInl at hi
            split at hi
            · split at hi
              · simp at hi
              · exact List.mem_append.2 (.inl ((hF _ _ _ _ _ _ _ _ hi hBd).1 q hq))
            · simp at hi
          · simp at h

theorem exOps_bd (hF : InlOK P F) {ops : Array Oper} {base : Nat} : ∀ (l : List Nat) (σ σ' : St), exOps P C F ops base l σ = some σ' → Bd σ → Bd σ'
  | [], σ, σ', h, hB => by simp only [exOps, Option.some.injEq] at h; subst h; exact hB
  | i :: l, σ, σ', h, hB => by
    simp only [exOps] at h
    split at h
    · rename_i σ1 h1
      exact exOps_bd hF l _ σ' h (exOp_bd hF (fun H i o h => h) h1 hB)
    · simp at h

omit [Glob] in
theorem AR.addIds {L : List Nat} (A : AR N μ S σ a) : AR N μ S (σ.addIds L) a := ⟨A.defers, A.size, A.tmp⟩

theorem exOps_ok (hC : TabsOK P C) (hF : InlOK P F) {ops : Array Oper} {base : Nat} : ∀ (l : List Nat) (σ σ' : St) (a : Act) (w : World) (μ : Mu) (S : Stable),
    exOps P C F ops base l σ = some σ' → Bd σ → AR N μ S σ a → Rel μ S σ.heap B w0 w →
    (∀ a' w' μ' S', AR N μ' S' σ' a' → Rel μ' S' σ'.heap B w0 w' → Carry B μ S σ.heap μ' S' σ'.heap → Q .normal a' w') → wpOpsIn (WF r) 0 P ops Q l a w
  | [], σ, σ', a, w, μ, S, h, hB, A, R, hK => by
    simp only [exOps, Option.some.injEq] at h; subst h
    exact hK a w μ S A R Carry.refl
  | i :: l, σ, σ', a, w, μ, S, h, hB, A, R, hK => by
    simp only [exOps] at h
    split at h
    · rename_i σ1 h1
      rw [wpOpsIn_cons]
      refine exOp_ok hC hF (fun H i o h => h) h1 (.inl hB) A R fun a1 w1 μ1 S1 A1 R1 C1 => ?_
      exact exOps_ok hC hF l _ σ' a1 w1 μ1 S1 h (exOp_bd hF (fun H i o h => h) h1 hB) A1.addIds R1 fun a' w' μ' S' A' R' C' => hK a' w' μ' S' A' R' (C1.trans C')
    · simp at h

omit [Glob] in
theorem exHs_bd {ops : Array Oper} {m : List Nat} {W : List (Option Nat)} {base : Nat} : ∀ (l : List Nat) (σ σ' : St) (L : List Nat), exHs P C ops m W base l σ = some σ' → Bd (σ.addIds L) → Bd (σ'.addIds (L ++ hsNew P C ops m W base l σ))
  | [], σ, σ', L, h, hB => by
    simp only [exHs, Option.some.injEq] at h; subst h
    intro q hq
    have := hB q hq
    simpa [hsNew, St.addIds] using this
  | i :: l, σ, σ', L, h, hB => by
    simp only [exHs] at h
    split at h
    · rename_i σ1 h1
      have hB1 : Bd (σ1.addIds (L ++ opNew P C ops (hideF base ops.size (m.getD i 0) (oth m W ops.size i) σ.heap) (base + i * 16) i σ)) := by
        intro q hq
        -- one operation, in a state with the numbers L more
        have h1' := h1
        unfold exH at h1'
        obtain ⟨_, h1'⟩ := cond_out h1'
        unfold exOp at h1'
        unfold opNew
        simp only [St.addIds] at hq ⊢
        have old : σ.heap q ≠ none → q ∈ σ.ids ++ L := fun h => hB q h
        cases ho : ops[i]? with
        | none =>
          rw [ho] at h1'; simp only [Option.some.injEq] at h1'; subst h1'
          have := old hq
          simp only [List.append_nil]; exact this
        | some o =>
          rw [ho] at h1'
          simp only at h1' ⊢
          cases hw : want ops σ o with
          | none => rw [hw] at h1'; simp at h1'
          | some b =>
            rw [hw] at h1'
            cases b with
            | false =>
              simp only at h1' ⊢
              obtain ⟨e1, e2⟩ := put_keeps h1'
              rw [e1] at hq; rw [e2]
              simp only [List.append_nil]; exact old hq
            | true =>
              simp only at h1' ⊢
              cases he : exEff P C (hideF base ops.size (m.getD i 0) (oth m W ops.size i) σ.heap) (base + i * 16) o σ.val with
              | some e =>
                rw [he] at h1'
                simp only at h1' ⊢
                obtain ⟨e1, e2⟩ := eff_keeps h1'
                rw [e1] at hq; rw [e2]
                have hok := stepE_ok (P := P) (C := C) (ops := ops) (Hh := hideF base ops.size (m.getD i 0) (oth m W ops.size i) σ.heap) (id := base + i * 16) (o := o) (σ := σ) (e := e) (by unfold stepE; rw [hw]; exact he)
                have := effBd (σ := σ.addIds L) (id := base + i * 16) (fun i o h => by
                  unfold hideF at h
                  cases hv : (vis base ops.size _ i && !hasN _ i) with
                  | true => rw [hv] at h; exact h
                  | false => rw [hv] at h; simp at h) hok hB q hq
                rw [← List.append_assoc]; exact this
              | none =>
                rw [he] at h1'
                simp only at h1'
                split at h1'
                · rename_i hi
                  unfold exInl at hi
                  split at hi
                  · split at hi
                    · simp at hi
                    · simp [noInl] at hi
                  · simp at hi
                · simp at h1'
      have := exHs_bd l σ1 σ' _ h hB1
      simp only [hsNew, h1]
      rw [← List.append_assoc]; exact this
    · simp at h

omit [Glob] in
theorem exAny_bd {ops : Array Oper} {base : Nat} (h : exAny P C ops base σ = some σ') (hB : Bd σ) : Bd σ' := by
  unfold exAny at h
  cases hr : regionOK P C ops (masks ops) with
  | false => rw [hr] at h; simp at h
  | true =>
    rw [hr] at h
    simp only [cond_true] at h
    split at h
    · rename_i σ1 h1
      cases h
      have := exHs_bd (List.range ops.size) σ σ1 [] h1 (by intro q hq; have := hB q hq; simpa [St.addIds] using this)
      simpa using this
    · simp at h
end
end Go.Sy

/- That operations may come in whatever order their edges allow. -/
namespace Go.Sy
open Go Go.RowKit
set_option linter.unusedSimpArgs false
set_option linter.unusedVariables false

section
variable [Glob] {P : Program} {C : Cons} {ops : Array Oper} {σ σ' σ1 σ2 : St} {m : List Nat} {W : List (Option Nat)} {base : Nat}

omit [Glob] in
theorem hide_some {base n mask : Nat} {ot : List Nat} {H : Heap} {q : Nat} {o : HObj} (h : hideF base n mask ot H q = some o) : vis base n mask q = true ∧ H q = some o ∧ hasN ot q = false := by
  unfold hideF at h
  cases hv : vis base n mask q with
  | true =>
    rw [hv] at h
    cases ho : hasN ot q with
    | true => rw [ho] at h; simp at h
    | false => rw [ho] at h; exact ⟨rfl, h, rfl⟩
  | false => rw [hv] at h; simp at h

omit [Glob] in
/-- what an operation will write is hidden from those that may come ahead of it and behind it -/
theorem oth_has {n x i j : Nat} (hx : x < n) (hne : x ≠ i) (h1 : Nat.testBit (m.getD i 0) x = false) (h2 : Nat.testBit (m.getD x 0) i = false) (hW : W.getD x none = some j) : hasN (oth m W n i) j = true := by
  cases W with
  | nil => simp at hW
  | cons w0 W0 =>
  unfold hasN oth
  rw [List.any_eq_true]
  refine ⟨j, List.mem_filterMap.2 ⟨x, List.mem_range.2 hx, ?_⟩, by simp⟩
  have hb : Nat.beq x i = false := by
    cases hb : Nat.beq x i with
    | false => rfl
    | true => exact absurd (Nat.eq_of_beq_eq_true hb) hne
  rw [hb, h1, h2]
  exact hW

omit [Glob] in
theorem stat_ok {i x : Nat} {ox : Oper} (hx : ops[x]? = some ox) (h : statOK P ops m i = true) (hne : x ≠ i) (h1 : Nat.testBit (m.getD i 0) x = false) (h2 : Nat.testBit (m.getD x 0) i = false) : isR P ox = false := by
  unfold statOK at h
  have := List.all_eq_true.1 h x (List.mem_range.2 (Array.getElem?_eq_some_iff.1 hx).1)
  have hb : Nat.beq x i = false := by
    cases hb : Nat.beq x i with
    | false => rfl
    | true => exact absurd (Nat.eq_of_beq_eq_true hb) hne
  rw [hb, h1, h2, hx] at this
  simpa using this

omit [Glob] in
theorem tgtOK_W {i j x : Nat} {o ox : Oper} (hi : ops[i]? = some o) (hx : ops[x]? = some ox) (h : tgtOK P C ops m W i σ = true) (hw : isW C o = true) (ht : tgtAt σ.val o = some j) (hr : isR P ox = true) (hne : x ≠ i)
    (h1 : Nat.testBit (m.getD i 0) x = false) (h2 : Nat.testBit (m.getD x 0) i = false) : W.getD i none = some j := by
  unfold tgtOK at h
  rw [hi] at h
  simp only [hw, cond_true, ht, Bool.or_eq_true] at h
  rcases h with h | h
  · cases hg : W.getD i none with
    | none => rw [hg] at h; simp [eqO] at h
    | some k => rw [hg] at h; simp only [eqO] at h; rw [Nat.eq_of_beq_eq_true h]
  · rw [stat_ok hx h hne h1 h2] at hr; simp at hr

omit [Glob] in
theorem tgtAt_congr {o : Oper} {ρ ρ' : Operand → AV} (h : ∀ x ∈ o.op.operands, ρ' x = ρ x) : tgtAt ρ' o = tgtAt ρ o := by
  obtain ⟨dst, op, ty, pos, af, gd⟩ := o
  unfold tgtAt
  cases op <;> simp only [Op.operands] at h <;> simp only
  case store t a x => rw [h a (by simp)]
  case next x s => rw [h x (by simp)]
  case mapEntry t m k => rw [h m (by simp)]
  case mapUpdate t m k x => rw [h m (by simp)]
  case entryStore t m s x => rw [h m (by simp)]
  case call c =>
    cases hl : c.args.toList with
    | nil => rfl
    | cons a l =>
      refine congrArg avId (h a ?_)
      have : a ∈ c.args := by rw [← Array.mem_toList_iff, hl]; simp
      unfold Call.operands
      cases c.callee <;> simp [this]

omit [Glob] in
theorem tgtOK_congr {i : Nat} {o : Oper} (hi : ops[i]? = some o) (hn : σ'.nt = σ.nt) (h : ∀ t, t ∈ o.looksAt ops → σ'.tmps t = σ.tmps t) : tgtOK P C ops m W i σ' = tgtOK P C ops m W i σ := by
  unfold tgtOK
  rw [hi]
  simp only
  rw [tgtAt_congr (ρ := σ.val) (ρ' := σ'.val) fun x hx => val_congr hn fun t e => by
    subst e
    refine h t ?_
    unfold Oper.looksAt
    exact List.mem_append.2 (.inl (List.mem_filterMap.2 ⟨.tmp t, by simpa using hx, rfl⟩))]

omit [Glob] in
/-- what stands in another operation's site is not seen -/
theorem not_vis {base n mask x q : Nat} (hx : x < n) (h1 : base + x * 16 ≤ q) (h2 : q < base + x * 16 + 16) (hm : Nat.testBit mask x = false) : vis base n mask q = false := by
  unfold vis
  have a1 : Nat.ble base q = true := Nat.ble_eq_true_of_le (by omega)
  have a2 : ltN q (base + n * 16) = true := ltN_true (by omega)
  have a3 : (q - base) / 16 = x := by omega
  rw [a1, a2, a3]
  exact hm

omit [Glob] in
theorem eff_cases {σ σ' : St} {id : Nat} {dst : Option Tmp} {e : Eff} (h : σ.eff id dst e = some σ') :
    (e.new = true → freshAll σ.heap e.sets = true ∧ inSite id e.sets = true) ∧ (σ.with (setAll σ.heap e.sets)).put dst e.v = some σ' := by
  unfold St.eff at h
  cases hn : e.new with
  | false => rw [hn] at h; exact ⟨fun h => by simp at h, h⟩
  | true =>
    rw [hn] at h
    cases hb : (freshAll σ.heap e.sets && inSite id e.sets) with
    | false => rw [hb] at h; simp at h
    | true =>
      rw [hb] at h
      simp only [Bool.and_eq_true] at hb
      exact ⟨fun _ => hb, h⟩

omit [Glob] in
theorem eff_mk {σ σ' : St} {id : Nat} {dst : Option Tmp} {e : Eff} (h1 : e.new = true → freshAll σ.heap e.sets = true ∧ inSite id e.sets = true)
    (h2 : (σ.with (setAll σ.heap e.sets)).put dst e.v = some σ') : σ.eff id dst e = some σ' := by
  unfold St.eff
  cases hn : e.new with
  | false => exact h2
  | true => rw [(h1 hn).1, (h1 hn).2]; exact h2

omit [Glob] in
theorem put_facts {σ σ' : St} {H : Heap} {dst : Option Tmp} {v : AV} (h : (σ.with H).put dst v = some σ') :
    σ'.nt = σ.nt ∧ σ'.heap = H ∧ (∀ t, dst ≠ some t → σ'.tmps t = σ.tmps t) := by
  cases dst with
  | none => simp only [St.put, Option.some.injEq] at h; subst h; exact ⟨rfl, rfl, fun _ _ => rfl⟩
  | some d =>
    obtain ⟨_, rfl⟩ := cond_some h
    exact ⟨rfl, rfl, fun t ht => upd_ne _ _ (fun e => ht (by rw [e]))⟩

omit [Glob] in
theorem put_swap {σ σ1 σ2 : St} {H1 H2 H3 : Heap} {d1 d2 : Option Tmp} {v1 v2 : AV} (h1 : (σ.with H1).put d1 v1 = some σ1) (h2 : (σ1.with H2).put d2 v2 = some σ2)
    (hd : ∀ d, d1 = some d → d2 ≠ some d) : ∃ σ3, (σ.with H3).put d2 v2 = some σ3 ∧ (σ3.with H2).put d1 v1 = some σ2 := by
  cases d1 with
  | none =>
    simp only [St.put, Option.some.injEq] at h1; subst h1
    cases d2 with
    | none => simp only [St.put, Option.some.injEq] at h2; subst h2; exact ⟨_, rfl, rfl⟩
    | some d => obtain ⟨c, rfl⟩ := cond_some h2; exact ⟨⟨σ.nt, upd σ.tmps d v2, H3, σ.ids⟩, by simp only [St.put, St.with] at c ⊢; rw [c]; rfl, rfl⟩
  | some d =>
    obtain ⟨c1, rfl⟩ := cond_some h1
    cases d2 with
    | none =>
      simp only [St.put, Option.some.injEq] at h2; subst h2
      exact ⟨_, rfl, by simp only [St.put, St.with] at c1 ⊢; rw [c1]; rfl⟩
    | some e =>
      obtain ⟨c2, rfl⟩ := cond_some h2
      simp only [St.with] at c1 c2
      refine ⟨⟨σ.nt, upd σ.tmps e v2, H3, σ.ids⟩, by simp only [St.put, St.with]; rw [c2]; rfl, ?_⟩
      simp only [St.put, St.with]
      rw [c1]
      have hne : d ≠ e := fun h => hd d rfl (by rw [h])
      simp only [cond_true, Option.some.injEq, St.mk.injEq, true_and, and_true]
      exact (upd_comm σ.tmps v1 v2 hne).symm

omit [Glob] in
theorem swap {x i : Nat} {ox oi : Oper} (hx : ops[x]? = some ox) (hi : ops[i]? = some oi) (hind : indep P C ops m x i ox oi = true) (hxi : x ≠ i)
    (h1 : exH P C ops m W base x σ = some σ1) (h2 : exH P C ops m W base i σ1 = some σ2) :
    ∃ σ3, exH P C ops m W base i σ = some σ3 ∧ exH P C ops m W base x σ3 = some σ2 := by
  have hxn : x < ops.size := (Array.getElem?_eq_some_iff.1 hx).1
  have hin : i < ops.size := (Array.getElem?_eq_some_iff.1 hi).1
  unfold indep at hind
  simp only [Bool.and_eq_true, Bool.not_eq_true', Bool.and_eq_false_iff] at hind
  obtain ⟨⟨hap, hb1⟩, hb2⟩ := hind
  obtain ⟨p1, p2, p3⟩ := Oper.apart_spec hap
  unfold exH at h1 h2 ⊢
  obtain ⟨t1, h1⟩ := cond_out h1
  obtain ⟨t2, h2⟩ := cond_out h2
  rw [exOp_stepE hx] at h1
  rw [exOp_stepE hi] at h2
  cases he1 : stepE P C ops (hideF base ops.size (m.getD x 0) (oth m W ops.size x) σ.heap) (base + x * 16) ox σ with
  | none => rw [he1] at h1; simp at h1
  | some ex =>
    rw [he1] at h1
    simp only at h1
    cases he2 : stepE P C ops (hideF base ops.size (m.getD i 0) (oth m W ops.size i) σ1.heap) (base + i * 16) oi σ1 with
    | none => rw [he2] at h2; simp at h2
    | some ei =>
      rw [he2] at h2
      simp only at h2
      obtain ⟨q1, q2⟩ := eff_cases h1
      obtain ⟨r1, r2⟩ := eff_cases h2
      obtain ⟨f1, f2, f3⟩ := put_facts q2
      have okx := stepE_ok he1
      have oki := stepE_ok he2
      -- the second one comes to the same ahead of the first one
      have hH : isR P oi = true → hideF base ops.size (m.getD i 0) (oth m W ops.size i) σ.heap = hideF base ops.size (m.getD i 0) (oth m W ops.size i) σ1.heap := by
        intro hr
        funext q
        unfold hideF
        cases hv : (vis base ops.size (m.getD i 0) q && !hasN (oth m W ops.size i) q) with
        | false => rfl
        | true =>
          simp only [cond_true]
          simp only [Bool.and_eq_true, Bool.not_eq_true'] at hv
          obtain ⟨hv, hv2⟩ := hv
          rw [f2]
          symm
          refine setAll_other _ _ _ fun hq => ?_
          rcases okx with h0 | h0 | ⟨h0, j, ob, hs, hj, ht⟩
          · rw [h0] at hq; simp [ids] at hq
          · have := inSite_mem (q1 h0).2 q hq
            have := not_vis (mask := m.getD i 0) hxn this.1 this.2 hb1
            rw [hv] at this; simp at this
          · rw [hs] at hq
            simp only [ids, List.map_cons, List.map_nil, List.mem_singleton] at hq
            subst hq
            rw [oth_has hxn hxi hb1 hb2 (tgtOK_W hx hi t1 h0 ht hr (Ne.symm hxi) hb2 hb1)] at hv2
            simp at hv2
      have hsi : stepE P C ops (hideF base ops.size (m.getD i 0) (oth m W ops.size i) σ.heap) (base + i * 16) oi σ = some ei := by
        rw [← he2]
        refine stepE_congr f1.symm (fun t ht => ?_) hH
        exact (f3 t (fun e => p1 t e ht)).symm
      -- what both set lies apart
      have hdis : ∀ q ∈ ids ex.sets, q ∉ ids ei.sets := by
        intro q hq hq2
        rcases okx with h0 | h0 | ⟨h0, j, ob, hs, hj, ht⟩
        · rw [h0] at hq; simp [ids] at hq
        · have a1 := inSite_mem (q1 h0).2 q hq
          rcases oki with k0 | k0 | ⟨k0, j, ob, ks, kj, kt⟩
          · rw [k0] at hq2; simp [ids] at hq2
          · have a2 := inSite_mem (r1 k0).2 q hq2
            omega
          · rw [ks] at hq2
            simp only [ids, List.map_cons, List.map_nil, List.mem_singleton] at hq2
            subst hq2
            cases ho : hideF base ops.size (m.getD i 0) (oth m W ops.size i) σ1.heap q with
            | none => rw [ho] at kj; simp at kj
            | some o =>
              have := (hide_some ho).1
              rw [not_vis (mask := m.getD i 0) hxn a1.1 a1.2 hb1] at this; simp at this
        · rw [hs] at hq
          simp only [ids, List.map_cons, List.map_nil, List.mem_singleton] at hq
          subst hq
          have hjs : (σ.heap q).isSome = true := by
            cases ho : hideF base ops.size (m.getD x 0) (oth m W ops.size x) σ.heap q with
            | none => rw [ho] at hj; simp at hj
            | some o => rw [(hide_some ho).2.1]; rfl
          rcases oki with k0 | k0 | ⟨k0, j2, ob2, ks, kj, kt⟩
          · rw [k0] at hq2; simp [ids] at hq2
          · have := freshAll_none _ _ (r1 k0).1 q hq2
            rw [f2, hs] at this
            simp only [setAll, upd_same] at this
            simp at this
          · rw [ks] at hq2
            simp only [ids, List.map_cons, List.map_nil, List.mem_singleton] at hq2
            subst hq2
            cases ho : hideF base ops.size (m.getD i 0) (oth m W ops.size i) σ1.heap q with
            | none => rw [ho] at kj; simp at kj
            | some o =>
              have := (hide_some ho).2.2
              rw [oth_has hxn hxi hb1 hb2 (tgtOK_W hx hi t1 h0 ht (isW_isR k0) (Ne.symm hxi) hb2 hb1)] at this
              simp at this
      obtain ⟨σ3, g1, g2⟩ := put_swap (H3 := setAll σ.heap ei.sets) q2 r2 p2
      obtain ⟨l1, l2, l3⟩ := put_facts g1
      have hside : σ.eff (base + i * 16) oi.dst ei = some σ3 := eff_mk (fun hn => ⟨by
        rw [← (r1 hn).1, f2]
        symm
        exact freshAll_ext _ _ _ fun q hq => setAll_other _ _ _ fun hq2 => hdis q hq2 hq, (r1 hn).2⟩) g1
      have t2' : tgtOK P C ops m W i σ = true := by rw [← t2]; exact tgtOK_congr hi f1.symm fun t ht => (f3 t (fun e => p1 t e ht)).symm
      have t1' : tgtOK P C ops m W x σ3 = true := by rw [← t1]; exact tgtOK_congr hx l1 fun t ht => l3 t (fun e => p3 t e ht)
      refine ⟨σ3, by rw [t2', exOp_stepE hi, hsi]; exact hside, ?_⟩
      -- and the first one to the same behind the second one
      have hH2 : isR P ox = true → hideF base ops.size (m.getD x 0) (oth m W ops.size x) σ3.heap = hideF base ops.size (m.getD x 0) (oth m W ops.size x) σ.heap := by
        intro hr
        funext q
        unfold hideF
        cases hv : (vis base ops.size (m.getD x 0) q && !hasN (oth m W ops.size x) q) with
        | false => rfl
        | true =>
          simp only [cond_true]
          simp only [Bool.and_eq_true, Bool.not_eq_true'] at hv
          obtain ⟨hv, hv2⟩ := hv
          rw [l2]
          refine setAll_other _ _ _ fun hq => ?_
          rcases oki with h0 | h0 | ⟨h0, j, ob, hs, hj, ht⟩
          · rw [h0] at hq; simp [ids] at hq
          · have := inSite_mem (r1 h0).2 q hq
            have := not_vis (mask := m.getD x 0) hin this.1 this.2 hb2
            rw [hv] at this; simp at this
          · rw [hs] at hq
            simp only [ids, List.map_cons, List.map_nil, List.mem_singleton] at hq
            subst hq
            rw [oth_has hin (Ne.symm hxi) hb2 hb1 (tgtOK_W hi hx t2 h0 ht hr hxi hb1 hb2)] at hv2
            simp at hv2
      have hsx : stepE P C ops (hideF base ops.size (m.getD x 0) (oth m W ops.size x) σ3.heap) (base + x * 16) ox σ3 = some ex := by
        rw [← he1]
        refine stepE_congr l1 (fun t ht => l3 t (fun e => p3 t e ht)) hH2
      rw [t1', exOp_stepE hx, hsx]
      simp only [cond_true]
      refine eff_mk (fun hn => ⟨by
        rw [← (q1 hn).1, l2]
        exact freshAll_ext _ _ _ fun q hq => setAll_other _ _ _ fun hq2 => hdis q hq hq2, (q1 hn).2⟩) ?_
      rw [l2, ← setAll_comm _ _ _ hdis, ← f2]
      exact g2

omit [Glob] in
theorem front {i : Nat} {oi : Oper} (hi : ops[i]? = some oi) : ∀ (p s : List Nat) (σ : St), (∀ x ∈ p, x ≠ i ∧ ∃ ox, ops[x]? = some ox ∧ indep P C ops m x i ox oi = true) →
    exHs P C ops m W base (p ++ i :: s) σ = some σ' → ∃ σ1, exH P C ops m W base i σ = some σ1 ∧ exHs P C ops m W base (p ++ s) σ1 = some σ'
  | [], s, σ, _, h => by
    simp only [List.nil_append, exHs] at h
    split at h
    · rename_i σ1 h1; exact ⟨σ1, h1, h⟩
    · simp at h
  | x :: p, s, σ, hp, h => by
    simp only [List.cons_append, exHs] at h
    split at h
    · rename_i σx hx
      obtain ⟨σ1, k1, k2⟩ := front hi p s σx (fun y hy => hp y (by simp [hy])) h
      obtain ⟨hne, ox, hox, hind⟩ := hp x (by simp)
      obtain ⟨σ3, q1, q2⟩ := swap hox hi hind hne hx k1
      exact ⟨σ3, q1, by simp only [List.cons_append, exHs, q2]; exact k2⟩
    · simp at h

/-! which operations an operation stands behind -/
omit [Glob] in
theorem maskFold_bit (m : List Nat) (x : Nat) : ∀ (l : List Edge) (s : Nat), Nat.testBit (l.foldl (fun s e => cond (Region.binds .any e) (s ||| 2 ^ e.on ||| m.getD e.on 0) s) s) x = true →
    Nat.testBit s x = true ∨ ∃ e ∈ l, Region.binds .any e = true ∧ (x = e.on ∨ Nat.testBit (m.getD e.on 0) x = true)
  | [], s, h => .inl h
  | e :: l, s, h => by
    simp only [List.foldl_cons] at h
    rcases maskFold_bit m x l _ h with h | ⟨e', h1, h2⟩
    · cases hb : Region.binds .any e with
      | false => rw [hb] at h; exact .inl h
      | true =>
        rw [hb] at h
        simp only [cond_true, Nat.testBit_or, Bool.or_eq_true, Nat.testBit_two_pow] at h
        rcases h with (h | h) | h
        · exact .inl h
        · exact .inr ⟨e, by simp, hb, .inl (by simpa using Eq.symm (by simpa using h))⟩
        · exact .inr ⟨e, by simp, hb, .inr h⟩
    · exact .inr ⟨e', by simp [h1], h2⟩

structure RegOK (P : Program) (C : Cons) (ops : Array Oper) (m : List Nat) : Prop where
  mixed : P.follows .mixedOrders = true
  mask : ∀ i o, ops[i]? = some o → m.getD i 0 = maskOf m o
  edge : ∀ i o, ops[i]? = some o → ∀ e ∈ o.after.toList, Region.binds .any e = true → e.on < i
  pair : ∀ x i, x < i → ∀ ox oi, ops[x]? = some ox → ops[i]? = some oi → Nat.testBit (m.getD i 0) x = true ∨ indep P C ops m x i ox oi = true

omit [Glob] in
theorem regionOK_spec (h : regionOK P C ops m = true) : RegOK P C ops m := by
  unfold regionOK at h
  simp only [Bool.and_eq_true, List.all_eq_true, List.mem_range] at h
  obtain ⟨h1, h2⟩ := h
  have key : ∀ i o, ops[i]? = some o → (Nat.beq (m.getD i 0) (maskOf m o) = true ∧ edgesOK o i = true) ∧ ∀ x, x < i → pairOK P C ops m x i = true := by
    intro i o ho
    have := h2 i (Array.getElem?_eq_some_iff.1 ho).1
    rw [ho] at this
    simpa only [Bool.and_eq_true, List.all_eq_true, List.mem_range] using this
  refine ⟨h1, fun i o ho => Nat.eq_of_beq_eq_true (key i o ho).1.1, fun i o ho e he hb => ?_, fun x i hx ox oi hox hoi => ?_⟩
  · have := (key i o ho).1.2
    unfold edgesOK at this
    rw [List.all_eq_true] at this
    have := this e he
    rw [hb] at this
    exact of_ltN this
  · have := (key i oi hoi).2 x hx
    unfold pairOK at this
    rw [hox, hoi] at this
    simpa only [Bool.or_eq_true] using this

/-- those that are not done yet -/
def rem (n : Nat) (L : Array Bool) : List Nat := (List.range n).filter fun i => !L.getD i true

def Closed (m : List Nat) (L : Array Bool) : Prop := ∀ i, L.getD i false = true → ∀ x, Nat.testBit (m.getD i 0) x = true → L.getD x false = true

omit [Glob] in
theorem ready_spec {L : Array Bool} {i : Nat} (h : i ∈ Region.ready .any ops L) :
    i < ops.size ∧ L.getD i true = false ∧ ∃ o, ops[i]? = some o ∧ ∀ e ∈ o.after.toList, Region.binds .any e = true → L.getD e.on false = true := by
  unfold Region.ready at h
  simp only [List.mem_filter, List.mem_range, Bool.and_eq_true, Bool.not_eq_true'] at h
  obtain ⟨h1, h2, h3⟩ := h
  refine ⟨h1, h2, ops[i], by simp [h1], fun e he hb => ?_⟩
  simp only [h1, getElem?_pos, Option.map_some, Option.getD_some, Array.all_eq_true_iff_forall_mem, Bool.or_eq_true, Bool.not_eq_true'] at h3
  have := h3 e (by simpa using he)
  rw [hb] at this
  simpa using this

omit [Glob] in
theorem ready_mk {L : Array Bool} {i : Nat} {o : Oper} (ho : ops[i]? = some o) (h2 : L.getD i true = false) (h3 : ∀ e ∈ o.after.toList, Region.binds .any e = true → L.getD e.on false = true) :
    i ∈ Region.ready .any ops L := by
  unfold Region.ready
  simp only [List.mem_filter, List.mem_range, Bool.and_eq_true, Bool.not_eq_true']
  refine ⟨(Array.getElem?_eq_some_iff.1 ho).1, h2, ?_⟩
  rw [ho]
  simp only [Option.map_some, Option.getD_some, Array.all_eq_true_iff_forall_mem, Bool.or_eq_true, Bool.not_eq_true']
  intro e he
  cases hb : Region.binds .any e with
  | false => exact .inl rfl
  | true => exact .inr (h3 e (by simpa using he) hb)

omit [Glob] in
theorem getD_set {L : Array Bool} {i : Nat} (d : Bool) (h : i < L.size) (j : Nat) : (L.setIfInBounds i true).getD j d = if j = i then true else L.getD j d := by
  simp only [Array.getD_eq_getD_getElem?]
  by_cases e : j = i
  · subst e; simp [h]
  · rw [Array.getElem?_setIfInBounds_ne (Ne.symm e), if_neg e]

omit [Glob] in
/-- Those that are left, with one among them: what stands ahead of it, and behind. -/
theorem rem_split {n : Nat} {L : Array Bool} {i : Nat} (hs : L.size = n) (hi : i < n) (hl : L.getD i true = false) :
    ∃ p s, rem n L = p ++ i :: s ∧ rem n (L.setIfInBounds i true) = p ++ s ∧ (∀ x ∈ p, x < i ∧ L.getD x true = false) := by
  have hr : List.range n = List.range i ++ i :: (List.range' (i + 1) (n - i - 1)) := by
    rw [List.range_eq_range', List.range_eq_range', show n = i + (1 + (n - i - 1)) from by omega, ← List.range'_append_1, Nat.zero_add, ← List.range'_append_1]
    simp only [List.range'_succ, List.range'_zero, List.singleton_append]
    congr 3
    omega
  refine ⟨(List.range i).filter fun j => !L.getD j true, (List.range' (i + 1) (n - i - 1)).filter fun j => !L.getD j true, ?_, ?_, fun x hx => ?_⟩
  · unfold rem
    rw [hr, List.filter_append, List.filter_cons_of_pos (by simp [hl])]
  · unfold rem
    rw [hr, List.filter_append, List.filter_cons_of_neg (by rw [getD_set true (by omega)]; simp)]
    congr 1
    · refine List.filter_congr fun x hx => ?_
      have : x < i := List.mem_range.1 hx
      rw [getD_set true (by omega), if_neg (by omega)]
    · refine List.filter_congr fun x hx => ?_
      have := List.mem_range'_1.1 hx
      rw [getD_set true (by omega), if_neg (by omega)]
  · simp only [List.mem_filter, List.mem_range, Bool.not_eq_true'] at hx
    exact hx

theorem exAny_wp (hC : TabsOK P C) {r : Option Nat} {N : Stable} {B : Nat} {w0 : World} {Q : Exit → Act → World → Prop} (hr : RegOK P C ops m) :
    ∀ (fuel : Nat) (L : Array Bool) (σ : St) (a : Act) (w : World) (μ : Mu) (S : Stable), L.size = ops.size → (rem ops.size L).length ≤ fuel → Closed m L →
      exHs P C ops m W base (rem ops.size L) σ = some σ' → AR N μ S σ a → Rel μ S σ.heap B w0 w →
      (∀ a' w' μ' S', AR N μ' S' σ' a' → Rel μ' S' σ'.heap B w0 w' → Carry B μ S σ.heap μ' S' σ'.heap → Q .normal a' w') →
      wpAnyIn (WF r) 0 P .any ops Q fuel L a w := by
  intro fuel
  -- where nothing is ready, nothing is left
  have none_left : ∀ (L : Array Bool), Region.ready .any ops L = [] → rem ops.size L = [] := by
    intro L hL
    have all : ∀ i, i < ops.size → L.getD i true = true := by
      intro i
      induction i using Nat.strongRecOn with
      | _ i ih =>
        intro hi
        cases hd : L.getD i true with
        | true => rfl
        | false =>
          have ho : ops[i]? = some ops[i] := by simp [hi]
          have := ready_mk ho hd fun e he hb => by
            have hlt := hr.edge i _ ho e he hb
            have := ih e.on hlt (by omega)
            rw [Array.getD_eq_getD_getElem?] at this ⊢
            cases hx : L[e.on]? with
            | some b => rw [hx] at this; simpa using this
            | none =>
              -- past the end: the operation itself is past the end, too
              rw [hx] at this
              exfalso
              have h1 : L.size ≤ e.on := by simpa using hx
              have h2 : L.getD i true = true := by rw [Array.getD_eq_getD_getElem?]; rw [Array.getElem?_eq_none (by omega)]; rfl
              rw [h2] at hd; simp at hd
          rw [hL] at this; simp at this
    unfold rem
    rw [List.filter_eq_nil_iff]
    intro i hi
    rw [all i (List.mem_range.1 hi)]; simp
  induction fuel with
  | zero =>
    intro L σ a w μ S hs hf hcl h A R hK
    have hnil : rem ops.size L = [] := List.eq_nil_of_length_eq_zero (by omega)
    rw [hnil] at h
    simp only [exHs, Option.some.injEq] at h; subst h
    refine ⟨?_, hK a w μ S A R Carry.refl⟩
    cases hrd : Region.ready .any ops L with
    | nil => rfl
    | cons i l =>
      have := ready_spec (L := L) (i := i) (ops := ops) (by rw [hrd]; simp)
      obtain ⟨p, s, h1, _⟩ := rem_split hs this.1 this.2.1
      rw [hnil] at h1; simp at h1
  | succ fuel ih =>
    intro L σ a w μ S hs hf hcl h A R hK
    refine ⟨fun hrd => ?_, fun i hi => ?_⟩
    · rw [none_left L hrd] at h
      simp only [exHs, Option.some.injEq] at h; subst h
      exact hK a w μ S A R Carry.refl
    · obtain ⟨hin, hli, oi, hoi, hed⟩ := ready_spec hi
      obtain ⟨p, s, e1, e2, hp⟩ := rem_split hs hin hli
      rw [e1] at h
      have hind : ∀ x ∈ p, x ≠ i ∧ ∃ ox, ops[x]? = some ox ∧ indep P C ops m x i ox oi = true := by
        intro x hx
        obtain ⟨hlt, hlx⟩ := hp x hx
        have hox : ops[x]? = some ops[x] := by simp [show x < ops.size from by omega]
        refine ⟨by omega, _, hox, ?_⟩
        rcases hr.pair x i hlt _ _ hox hoi with hb | hb
        · exfalso
          rw [hr.mask i oi hoi] at hb
          rcases maskFold_bit m x _ _ hb with h0 | ⟨e, he, hbd, h0⟩
          · simp at h0
          · have hle := hed e he hbd
            have hLx : L.getD x false = true := by
              rcases h0 with rfl | h0
              · exact hle
              · exact hcl e.on hle x h0
            have hsz : x < L.size := by omega
            simp [Array.getD_eq_getD_getElem?, hsz] at hLx hlx
            rw [hLx] at hlx; simp at hlx
        · exact hb
      obtain ⟨σ1, k1, k2⟩ := front hoi p s σ hind h
      unfold exH at k1
      obtain ⟨_, k1⟩ := cond_out k1
      refine exOp_ok hC (F := noInl) (fun _ _ _ _ _ _ _ _ h => by simp [noInl] at h) (fun H j o h => (hide_some h).2.1) k1 (.inr rfl) A R fun a1 w1 μ1 S1 A1 R1 C1 => ?_
      have hsz : i < L.size := by omega
      refine ih (L.setIfInBounds i true) σ1 a1 w1 μ1 S1 (by simp [hs]) ?_ ?_ (by rw [e2]; exact k2) A1 R1 (fun a' w' μ' S' A' R' C' => hK a' w' μ' S' A' R' (C1.trans C'))
      · rw [e1] at hf
        rw [e2]
        simp at hf ⊢; omega
      · intro j hj x hx
        rw [getD_set false hsz] at hj ⊢
        by_cases e : x = i
        · rw [if_pos e]
        · rw [if_neg e]
          by_cases ej : j = i
          · subst ej
            rw [hr.mask j oi hoi] at hx
            rcases maskFold_bit m x _ _ hx with h0 | ⟨e', he, hbd, h0⟩
            · simp at h0
            · have hle := hed e' he hbd
              rcases h0 with rfl | h0
              · exact hle
              · exact hcl e'.on hle x h0
          · rw [if_neg ej] at hj
            exact hcl j hj x hx

/-- A region that draws its order. -/
theorem exAny_ok (hC : TabsOK P C) {r : Option Nat} {N : Stable} {B : Nat} {w w0 : World} {a : Act} {μ : Mu} {S : Stable} {Q : Exit → Act → World → Prop} {id : Nat} (h : exAny P C ops base σ = some σ') (A : AR N μ S σ a) (R : Rel μ S σ.heap B w0 w)
    (hK : ∀ a' w' μ' S', AR N μ' S' σ' a' → Rel μ' S' σ'.heap B w0 w' → Carry B μ S σ.heap μ' S' σ'.heap → Q .normal a' w') : (Code.region id ops true).wpIn (WF r) 0 P Q a w := by
  unfold exAny at h
  cases hr : regionOK P C ops (masks ops) with
  | false => rw [hr] at h; simp at h
  | true =>
    rw [hr] at h
    have hr := regionOK_spec hr
    simp only [cond_true] at h
    split at h
    case h_2 => simp at h
    rename_i σ1 h1
    cases h
    refine wpIn_region_any hr.mixed ?_
    have hrem : rem ops.size (Array.replicate ops.size false) = List.range ops.size := by
      unfold rem
      rw [List.filter_eq_self]
      intro i hi
      have := List.mem_range.1 hi
      simp [Array.getD_eq_getD_getElem?, this]
    have R' : Rel μ S σ.heap B w0 w.drew := ⟨R.below.drew, R.size, R.st, R.dom, fun i o ho => by
      obtain ⟨l, h1, h2⟩ := R.obj i o ho
      refine ⟨l, h1, ?_⟩
      cases o <;> exact h2, R.sep, R.pre⟩
    refine exAny_wp hC hr ops.size _ σ a w.drew μ S (by simp) (by rw [hrem]; simp) ?_ (by rw [hrem]; exact h1) A R' (fun a' w' μ' S' A' R' C' => hK a' w' μ' S' A'.addIds R' C')
    intro i hi x hx
    by_cases hlt : i < ops.size
    · simp [Array.getD_eq_getD_getElem?, hlt] at hi
    · simp [Array.getD_eq_getD_getElem?, hlt] at hi
end
end Go.Sy

/- What stands at the head of a loop's round: temporaries and objects that go on, and nothing else; rows under fixed numbers. -/
namespace Go.Sy
open Go Go.RowKit
set_option linter.unusedSimpArgs false
set_option linter.unusedVariables false

def mem (L : List Nat) (i : Nat) : Bool := L.any (Nat.beq i)

theorem mem_iff {L : List Nat} {i : Nat} : mem L i = true ↔ i ∈ L := by
  unfold mem
  rw [List.any_eq_true]
  exact ⟨fun ⟨x, h1, h2⟩ => by rw [Nat.eq_of_beq_eq_true h2]; exact h1, fun h => ⟨i, h, by simp⟩⟩

def distinct : List Nat → Bool
  | [] => true
  | i :: l => !(l.any fun j => Nat.beq i j) && distinct l

mutual
def AV.refsIn (L : List Nat) : AV → Bool
  | .ptr i _ => mem L i
  | .elp i _ _ _ => mem L i
  | .sl i _ => mem L i
  | .sub i _ _ _ => mem L i
  | .bsl i _ => mem L i
  | .yld i => mem L i
  | .mp i => mem L i
  | .fn _ a b => refsAll L a && refsAll L b
  | .agg l => refsAll L l
  | .tup l => refsAll L l
  | _ => true
def refsAll (L : List Nat) : List AV → Bool
  | [] => true
  | a :: l => a.refsIn L && refsAll L l
end

def clean (L : List Nat) (a : AV) : AV := cond (a.refsIn L) a .junk

def cleanObj (L : List Nat) : HObj → HObj
  | .box t cs => .box t (cs.map (clean L))
  | .row t e g xs => .row t e g xs
  | .siter s pos => .siter s pos
  | .loop k r st ts => .loop k r st (ts.map (clean L))
  | .map es => .map es

/-- where a row stands that a loop carries: in a temporary, or in a box's cell -/
inductive Pl where
  | t (slot : Nat)
  | c (box off : Nat)

structure RowH where
  at' : Pl
  id : Nat
  te : TypeId
  e : Ty

structure Hint where
  keep : List Nat
  ids : List Nat
  rows : List RowH

/-- what goes on at each round's head, and behind the loop, by how it was left (0: an exit of the block, 1: a return) -/
structure LoopH where
  top : Hint
  out : Option Hint
  ret : Option Hint

def lkT : List (Nat × AV) → Nat → AV
  | [], _ => .junk
  | (t, v) :: l, q => cond (Nat.beq q t) v (lkT l q)

def lkH : List (Nat × Option HObj) → Heap
  | [], _ => none
  | (i, o) :: l, q => cond (Nat.beq q i) o (lkH l q)

/-- a row that a loop carries: where it comes from, and what it holds -/
structure Src where
  id : Nat
  src : Option Nat
  te : TypeId
  e : Ty
  xs : List e.T

def nthJ : List AV → Nat → AV
  | [], _ => .junk
  | a :: _, 0 => a
  | _ :: l, n + 1 => nthJ l n

def boxAt : Option HObj → Nat → AV
  | some (.box _ cs), off => nthJ cs off
  | _, _ => .junk

def St.valAt (σ : St) : Pl → AV
  | .t s => σ.val (.tmp s)
  | .c i off => boxAt (σ.heap i) off

/-- the temporaries that hold a loop's rows -/
def rowT : List RowH → List (Nat × AV)
  | [] => []
  | r :: rs => match r.at' with
    | .t s => (s, AV.sl r.id 0) :: rowT rs
    | .c _ _ => rowT rs

/-- the cells that hold a loop's rows -/
def rowC : List RowH → Nat → List AV → List AV
  | [], _, cs => cs
  | r :: rs, i, cs => match r.at' with
    | .t _ => rowC rs i cs
    | .c b off => rowC rs i (cond (Nat.beq b i) (cs.set off (AV.sl r.id 0)) cs)

def headObj (rs : List RowH) (L : List Nat) (i : Nat) : HObj → HObj
  | .box t cs => .box t (rowC rs i (cs.map (clean L)))
  | o => cleanObj L o

def srcOf (σ : St) (r : RowH) : Option Src :=
  match σ.valAt r.at' with
  | .lit (.slice none 0 0) => some ⟨r.id, none, r.te, r.e, []⟩
  | .sl a g => match σ.heap a with
    | some (.row te e g' xs) => cond (Nat.beq g g' && Nat.beq te r.te) (match castL (e := e) (e' := r.e) xs with
      | some ys => some ⟨r.id, some a, r.te, r.e, ys⟩
      | none => none) none
    | _ => none
  | _ => none

def srcs (σ : St) : List RowH → Option (List Src)
  | [] => some []
  | r :: rs => match srcOf σ r, srcs σ rs with
    | some s, some l => some (s :: l)
    | _, _ => none

def Src.list (l : List Src) : List Nat := l.filterMap (·.src)

def head (od : List Nat) (h : Hint) (σ : St) : Option St :=
  match srcs σ h.rows with
  | none => none
  | some l => cond (distinct (Src.list l) && distinct (l.map (·.id)) && l.all (fun s => !mem (od ++ h.ids) s.id) && (Src.list l).all (fun a => !mem (od ++ h.ids) a))
      (some ⟨σ.nt, lkT (rowT h.rows ++ h.keep.map (fun t => (t, clean (od ++ h.ids) (σ.val (.tmp t))))),
        lkH (l.map (fun s => (s.id, some (.row s.te s.e 0 s.xs))) ++ (od ++ h.ids).map (fun i => (i, (σ.heap i).map (headObj h.rows (od ++ h.ids) i)))),
        (od ++ h.ids) ++ l.map (·.id)⟩) none

section
variable [Glob] {N : Stable} {w w0 : World} {μ μ' μo : Mu} {S So : Stable} {H H' Ho : Heap} {B : Nat} {L : List Nat} {σ σ' : St} {a : Act}

/-- two states agree on the objects of a list -/
structure Ag (L : List Nat) (μ : Mu) (H : Heap) (μ' : Mu) (H' : Heap) : Prop where
  mu : ∀ i ∈ L, μ' i = μ i
  ob : ∀ i ∈ L, ∀ t e g xs, H' i = some (.row t e g xs) → H i = some (.row t e g xs)

omit [Glob] in
theorem Ag.row {L : List Nat} (h : Ag L μ H μ' H') {i : Nat} (hi : i ∈ L) {t : TypeId} {e : Ty} {g : Nat} {xs : List e.T} (hr : H' i = some (.row t e g xs)) : H i = some (.row t e g xs) := h.ob i hi t e g xs hr

omit [Glob] in
theorem headObj_row {rs : List RowH} {L : List Nat} {i : Nat} {o : Option HObj} {t : TypeId} {e : Ty} {g : Nat} {xs : List e.T} (hr : o.map (headObj rs L i) = some (.row t e g xs)) : o = some (.row t e g xs) := by
  cases o with
  | none => simp at hr
  | some o =>
    simp only [Option.map_some, Option.some.injEq] at hr
    cases o with
    | row t' e' g' xs' => simp only [headObj, cleanObj] at hr; rw [hr]
    | _ => simp [headObj, cleanObj] at hr

omit [Glob] in
mutual
theorem VR_ag (h : Ag L μ H μ' H') : ∀ (a : AV) (v : Value), a.refsIn L = true → VR μ S H a v → VR μ' S H' a v
  | .lit _, v, _, hr => by simp only [VR] at hr ⊢; exact hr
  | .ptr i off, v, hl, hr => by
    simp only [AV.refsIn] at hl
    have hi := mem_iff.1 hl
    simp only [VR] at hr ⊢
    obtain ⟨b, c, h1, h2, h3⟩ := hr
    exact ⟨b, c, by rw [h.mu i hi]; exact h1, fun t e g xs hH => h2 t e g xs (h.row hi hH), h3⟩
  | .elc e x off, v, _, hr => by simp only [VR] at hr ⊢; exact hr
  | .elp i g k off, v, hl, hr => by
    simp only [AV.refsIn] at hl
    have hi := mem_iff.1 hl
    simp only [VR] at hr ⊢
    obtain ⟨h0, l, h1, h2⟩ := hr
    exact ⟨h0, l, by rw [h.mu i hi]; exact h1, fun t e gc xs hH => h2 t e gc xs (h.row hi hH)⟩
  | .cont e xs, v, _, hr => by simp only [VR] at hr ⊢; exact hr
  | .sl i g, v, hl, hr => by
    simp only [AV.refsIn] at hl
    have hi := mem_iff.1 hl
    simp only [VR] at hr ⊢
    obtain ⟨h0, l, h1, h2⟩ := hr
    exact ⟨h0, l, by rw [h.mu i hi]; exact h1, fun t e gc xs hH => h2 t e gc xs (h.row hi hH)⟩
  | .sub i g lo hi, v, hl, hr => by
    simp only [AV.refsIn] at hl
    have hi := mem_iff.1 hl
    simp only [VR] at hr ⊢
    obtain ⟨h0, l, h1, h2⟩ := hr
    exact ⟨h0, l, by rw [h.mu i hi]; exact h1, fun t e gc xs hH => h2 t e gc xs (h.row hi hH)⟩
  | .bsl i n, v, hl, hr => by
    simp only [AV.refsIn] at hl
    have hi := mem_iff.1 hl
    simp only [VR] at hr ⊢
    obtain ⟨b, c, h1, h2, h3⟩ := hr
    exact ⟨b, c, by rw [h.mu i hi]; exact h1, fun t e g xs hH => h2 t e g xs (h.row hi hH), h3⟩
  | .yld i, v, hl, hr => by
    simp only [AV.refsIn] at hl
    have hi := mem_iff.1 hl
    simp only [VR] at hr ⊢
    obtain ⟨b, c, h1, h2, h3⟩ := hr
    exact ⟨b, c, by rw [h.mu i hi]; exact h1, fun t e g xs hH => h2 t e g xs (h.row hi hH), h3⟩
  | .mp i, v, hl, hr => by
    simp only [AV.refsIn] at hl
    have hi := mem_iff.1 hl
    simp only [VR] at hr ⊢
    obtain ⟨b, c, h1, h2, h3⟩ := hr
    exact ⟨b, c, by rw [h.mu i hi]; exact h1, fun t e g xs hH => h2 t e g xs (h.row hi hH), h3⟩
  | .fn f fi ca, v, hl, hr => by
    simp only [AV.refsIn, Bool.and_eq_true] at hl
    simp only [VR] at hr ⊢
    obtain ⟨x, y, h1, h2, h3⟩ := hr
    exact ⟨x, y, h1, VRs_ag h fi _ hl.1 h2, VRs_ag h ca _ hl.2 h3⟩
  | .agg cs, v, hl, hr => by
    simp only [AV.refsIn] at hl
    simp only [VR] at hr ⊢
    obtain ⟨x, h1, h2⟩ := hr
    exact ⟨x, h1, VRs_ag h cs _ hl h2⟩
  | .tup cs, v, hl, hr => by
    simp only [AV.refsIn] at hl
    simp only [VR] at hr ⊢
    obtain ⟨x, h1, h2⟩ := hr
    exact ⟨x, h1, VRs_ag h cs _ hl h2⟩
  | .cel, _, _, hr => by simpa only [VR] using hr
  | .junk, _, _, _ => by simp only [VR]
theorem VRs_ag (h : Ag L μ H μ' H') : ∀ (as : List AV) (vs : List Value), refsAll L as = true → VRs μ S H as vs → VRs μ' S H' as vs
  | [], vs, _, hr => by simp only [VRs] at hr ⊢; exact hr
  | a :: as, vs, hl, hr => by
    simp only [refsAll, Bool.and_eq_true] at hl
    simp only [VRs] at hr ⊢
    obtain ⟨v, r, h1, h2, h3⟩ := hr
    exact ⟨v, r, h1, VR_ag h a v hl.1 h2, VRs_ag h as r hl.2 h3⟩
end

omit [Glob] in
theorem clean_VR (h : Ag L μ H μ' H') {a : AV} {v : Value} (hr : VR μ S H a v) : VR μ' S H' (clean L a) v := by
  unfold clean
  cases hl : a.refsIn L with
  | true => exact VR_ag h a v hl hr
  | false => simp only [cond_false, VR]

omit [Glob] in
theorem clean_VRs (h : Ag L μ H μ' H') : ∀ {as : List AV} {vs : List Value}, VRs μ S H as vs → VRs μ' S H' (as.map (clean L)) vs
  | [], vs, hr => by simp only [VRs] at hr; subst hr; simp [VRs]
  | a :: as, vs, hr => by
    simp only [VRs] at hr
    obtain ⟨v, r, rfl, h2, h3⟩ := hr
    simp only [List.map_cons, VRs]
    exact ⟨v, r, rfl, clean_VR h h2, clean_VRs h h3⟩

omit [Glob] in
mutual
/-- what a value refers to is there -/
theorem VR_refs (h : ∀ i, μ i ≠ none → i ∈ L) : ∀ (a : AV) (v : Value), VR μ S H a v → a.refsIn L = true
  | .lit _, v, _ => rfl
  | .ptr i off, v, hr => by
    simp only [VR] at hr
    obtain ⟨b, c, h1, _⟩ := hr
    simp only [AV.refsIn]; exact mem_iff.2 (h i (by rw [h1]; simp))
  | .elc e x off, v, _ => rfl
  | .elp i g k off, v, hr => by
    simp only [VR] at hr
    obtain ⟨_, l, h1, _⟩ := hr
    simp only [AV.refsIn]; exact mem_iff.2 (h i (by rw [h1]; simp))
  | .cont e xs, v, _ => rfl
  | .sl i g, v, hr => by
    simp only [VR] at hr
    obtain ⟨_, l, h1, _⟩ := hr
    simp only [AV.refsIn]; exact mem_iff.2 (h i (by rw [h1]; simp))
  | .sub i g lo hi, v, hr => by
    simp only [VR] at hr
    obtain ⟨_, l, h1, _⟩ := hr
    simp only [AV.refsIn]; exact mem_iff.2 (h i (by rw [h1]; simp))
  | .bsl i n, v, hr => by
    simp only [VR] at hr
    obtain ⟨b, c, h1, _⟩ := hr
    simp only [AV.refsIn]; exact mem_iff.2 (h i (by rw [h1]; simp))
  | .yld i, v, hr => by
    simp only [VR] at hr
    obtain ⟨b, c, h1, _⟩ := hr
    simp only [AV.refsIn]; exact mem_iff.2 (h i (by rw [h1]; simp))
  | .mp i, v, hr => by
    simp only [VR] at hr
    obtain ⟨b, c, h1, _⟩ := hr
    simp only [AV.refsIn]; exact mem_iff.2 (h i (by rw [h1]; simp))
  | .fn f fi ca, v, hr => by
    simp only [VR] at hr
    obtain ⟨x, y, h1, h2, h3⟩ := hr
    simp only [AV.refsIn, Bool.and_eq_true]
    exact ⟨VRs_refs h fi _ h2, VRs_refs h ca _ h3⟩
  | .agg cs, v, hr => by
    simp only [VR] at hr
    obtain ⟨x, _, h2⟩ := hr
    simp only [AV.refsIn]; exact VRs_refs h cs _ h2
  | .tup cs, v, hr => by
    simp only [VR] at hr
    obtain ⟨x, _, h2⟩ := hr
    simp only [AV.refsIn]; exact VRs_refs h cs _ h2
  | .cel, _, _ => rfl
  | .junk, _, _ => rfl
theorem VRs_refs (h : ∀ i, μ i ≠ none → i ∈ L) : ∀ (as : List AV) (vs : List Value), VRs μ S H as vs → refsAll L as = true
  | [], vs, _ => rfl
  | a :: as, vs, hr => by
    simp only [VRs] at hr
    obtain ⟨v, r, _, h2, h3⟩ := hr
    simp only [refsAll, Bool.and_eq_true]
    exact ⟨VR_refs h a v h2, VRs_refs h as r h3⟩
end

omit [Glob] in
theorem lkT_VR {μ : Mu} {S : Stable} {H : Heap} {f : Nat → Value} : ∀ (l : List (Nat × AV)), (∀ p ∈ l, VR μ S H p.2 (f p.1)) → ∀ t, VR μ S H (lkT l t) (f t)
  | [], _, t => by simp only [lkT, VR]
  | (q, v) :: l, h, t => by
    simp only [lkT]
    cases hb : Nat.beq t q with
    | true =>
      have := Nat.eq_of_beq_eq_true hb
      subst this
      exact h (t, v) (by simp)
    | false => exact lkT_VR l (fun p hp => h p (by simp [hp])) t

omit [Glob] in
theorem lkH_map {f : Nat → Option HObj} : ∀ (l : List Nat) (q : Nat), lkH (l.map fun i => (i, f i)) q = cond (mem l q) (f q) none
  | [], q => rfl
  | i :: l, q => by
    simp only [List.map_cons, lkH]
    cases hb : Nat.beq q i with
    | true =>
      have := Nat.eq_of_beq_eq_true hb
      subst this
      have : mem (q :: l) q = true := mem_iff.2 (by simp)
      rw [this]; rfl
    | false =>
      have hne : q ≠ i := fun e => by subst e; simp at hb
      rw [lkH_map l q]
      have : mem (i :: l) q = mem l q := by
        rw [Bool.eq_iff_iff, mem_iff, mem_iff]; simp [hne]
      rw [this]; rfl

omit [Glob] in
theorem lkH_src {g : Src → Option HObj} {rest : List (Nat × Option HObj)} : ∀ (l : List Src) (s : Src), s ∈ l → distinct (l.map (·.id)) = true → lkH (l.map (fun s => (s.id, g s)) ++ rest) s.id = g s
  | [], s, h, _ => by simp at h
  | p :: l, s, h, hd => by
    simp only [List.map_cons, distinct, Bool.and_eq_true, Bool.not_eq_true'] at hd
    simp only [List.map_cons, List.cons_append, lkH]
    rcases List.mem_cons.1 h with rfl | h
    · simp
    · have hne : Nat.beq s.id p.id = false := by
        cases hb : Nat.beq s.id p.id with
        | false => rfl
        | true =>
          have e := Nat.eq_of_beq_eq_true hb
          have := List.any_eq_false.1 hd.1 s.id (List.mem_map.2 ⟨s, h, rfl⟩)
          rw [e] at this; simp at this
      rw [hne]
      exact lkH_src l s h hd.2

omit [Glob] in
theorem lkH_rest {g : Src → Option HObj} {rest : List (Nat × Option HObj)} : ∀ (l : List Src) (q : Nat), q ∉ l.map (·.id) → lkH (l.map (fun s => (s.id, g s)) ++ rest) q = lkH rest q
  | [], q, _ => rfl
  | p :: l, q, h => by
    simp only [List.map_cons, List.mem_cons, not_or] at h
    simp only [List.map_cons, List.cons_append, lkH]
    have hne : Nat.beq q p.id = false := by
      cases hb : Nat.beq q p.id with
      | false => rfl
      | true => exact absurd (Nat.eq_of_beq_eq_true hb) h.1
    rw [hne]
    exact lkH_rest l q h.2

def Src.loc (μ : Mu) (s : Src) : Option Lc :=
  match s.src with
  | none => some ⟨none, 0⟩
  | some a => μ a

def muH (l : List Src) (L : List Nat) (μ : Mu) : Mu := fun q =>
  match l.find? (fun s => Nat.beq s.id q) with
  | some s => s.loc μ
  | none => cond (mem L q) (μ q) none

omit [Glob] in
theorem muH_src : ∀ (l : List Src) (s : Src), s ∈ l → distinct (l.map (·.id)) = true → muH l L μ s.id = s.loc μ := by
  intro l s hs hd
  unfold muH
  have : l.find? (fun p => Nat.beq p.id s.id) = some s := by
    induction l with
    | nil => simp at hs
    | cons p l ih =>
      simp only [List.map_cons, distinct, Bool.and_eq_true, Bool.not_eq_true'] at hd
      rcases List.mem_cons.1 hs with rfl | hs
      · simp
      · have hne : Nat.beq p.id s.id = false := by
          cases hb : Nat.beq p.id s.id with
          | false => rfl
          | true =>
            have e := Nat.eq_of_beq_eq_true hb
            have := List.any_eq_false.1 hd.1 s.id (List.mem_map.2 ⟨s, hs, rfl⟩)
            rw [e] at this; simp at this
        rw [List.find?_cons, hne]
        exact ih hs hd.2
  rw [this]

omit [Glob] in
theorem muH_rest {l : List Src} {q : Nat} (h : q ∉ l.map (·.id)) : muH l L μ q = cond (mem L q) (μ q) none := by
  unfold muH
  have : l.find? (fun p => Nat.beq p.id q) = none := by
    rw [List.find?_eq_none]
    intro p hp hb
    exact h (List.mem_map.2 ⟨p, hp, Nat.eq_of_beq_eq_true hb⟩)
  rw [this]

/-- a source is what it says -/
structure SrcOK (H : Heap) (s : Src) : Prop where
  nil : s.src = none → s.xs = []
  row : ∀ a, s.src = some a → ∃ g, H a = some (.row s.te s.e g s.xs)

omit [Glob] in
theorem nthJ_VR : ∀ {as : List AV} {vs : List Value}, VRs μ S H as vs → ∀ (n : Nat), VR μ S H (nthJ as n) (vs.getD n undef)
  | [], vs, h, n => by simp only [nthJ, VR]
  | a :: as, vs, h, n => by
    simp only [VRs] at h
    obtain ⟨v, r, rfl, h1, h2⟩ := h
    cases n with
    | zero => simpa [nthJ] using h1
    | succ n => simpa [nthJ] using nthJ_VR h2 n

theorem valAt_VR (A : AR N μ S σ a) (R : Rel μ S σ.heap B w0 w) (p : Pl) : ∃ v, VR μ S σ.heap (σ.valAt p) v := by
  cases p with
  | t s => exact ⟨_, A.val (.tmp s)⟩
  | c i off =>
    simp only [St.valAt]
    cases ho : σ.heap i with
    | none => exact ⟨undef, by simp only [boxAt, VR]⟩
    | some o =>
      cases o with
      | box t cs =>
        obtain ⟨l, _, b, vs, _, _, _, _, h5⟩ := R.obj i _ ho
        exact ⟨_, nthJ_VR h5 off⟩
      | _ => exact ⟨undef, by simp only [boxAt, VR]⟩

omit [Glob] in
theorem srcOf_ok {r : RowH} {s : Src} {v : Value} (hv : VR μ S σ.heap (σ.valAt r.at') v) (h : srcOf σ r = some s) :
    s.id = r.id ∧ SrcOK σ.heap s ∧ ∃ l, s.loc μ = some l ∧ ∀ v, VR μ S σ.heap (σ.valAt r.at') v → v = .slice l.addr s.xs.length l.cap := by
  unfold srcOf at h
  split at h
  · rename_i hx
    cases h
    refine ⟨rfl, ⟨fun _ => rfl, fun a h => by simp at h⟩, ⟨none, 0⟩, rfl, fun v hv => ?_⟩
    rw [hx] at hv
    simp only [VR] at hv
    exact hv
  · rename_i i g hx
    split at h
    · rename_i te e g' xs hH
      cases hb : (Nat.beq g g' && Nat.beq te r.te) with
      | false => rw [hb] at h; simp at h
      | true =>
        rw [hb] at h
        simp only [cond_true] at h
        simp only [Bool.and_eq_true] at hb
        have hgg := Nat.eq_of_beq_eq_true hb.1
        have htt := Nat.eq_of_beq_eq_true hb.2
        split at h
        · rename_i ys hc
          obtain ⟨he, hys⟩ := castL_eq hc
          obtain ⟨sl, id0, te0, e0⟩ := r
          simp only at htt he hys
          subst htt
          subst he
          simp only at hys
          subst hys
          cases h
          have hv' := hv
          rw [hx] at hv'
          simp only [VR] at hv'
          obtain ⟨_, l, hm, h3⟩ := hv'
          refine ⟨rfl, ⟨fun h => by simp at h, fun a h => by cases h; exact ⟨g', hH⟩⟩, l, hm, fun v hv => ?_⟩
          rw [hx] at hv
          simp only [VR] at hv
          obtain ⟨_, l', hm', h3'⟩ := hv
          rw [hm] at hm'
          cases hm'
          exact (h3' _ _ _ _ hH).2 hgg
        · simp at h
    · simp at h
  · simp at h

theorem srcs_ok (A : AR N μ S σ a) (R : Rel μ S σ.heap B w0 w) : ∀ {rs : List RowH} {l : List Src}, srcs σ rs = some l →
    (∀ s ∈ l, SrcOK σ.heap s ∧ (s.loc μ).isSome = true) ∧ (∀ r ∈ rs, ∃ s ∈ l, s.id = r.id ∧ ∃ lc, s.loc μ = some lc ∧ ∀ v, VR μ S σ.heap (σ.valAt r.at') v → v = .slice lc.addr s.xs.length lc.cap)
  | [], l, h => by simp only [srcs, Option.some.injEq] at h; subst h; simp
  | r :: rs, l, h => by
    simp only [srcs] at h
    split at h
    · rename_i s l' h1 h2
      cases h
      obtain ⟨v, hv⟩ := valAt_VR A R r.at'
      obtain ⟨k1, k2, lc, k3, k4⟩ := srcOf_ok hv h1
      obtain ⟨q1, q2⟩ := srcs_ok A R h2
      refine ⟨fun p hp => ?_, fun p hp => ?_⟩
      · rcases List.mem_cons.1 hp with rfl | hp
        · exact ⟨k2, by rw [k3]; rfl⟩
        · exact q1 p hp
      · rcases List.mem_cons.1 hp with rfl | hp
        · exact ⟨s, by simp, k1, lc, k3, k4⟩
        · obtain ⟨s', a1, a2⟩ := q2 p hp
          exact ⟨s', by simp [a1], a2⟩
    · simp at h

omit [Glob] in
theorem rowC_VRs {i : Nat} {vs : List Value} : ∀ (rs : List RowH) {cs : List AV}, (∀ r ∈ rs, ∀ off, r.at' = .c i off → ∀ v, vs[off]? = some v → VR μ S H (.sl r.id 0) v) → VRs μ S H cs vs → VRs μ S H (rowC rs i cs) vs
  | [], cs, _, h => h
  | r :: rs, cs, hr, h => by
    have ih : ∀ {cs : List AV}, VRs μ S H cs vs → VRs μ S H (rowC rs i cs) vs := fun h => rowC_VRs rs (fun p hp => hr p (by simp [hp])) h
    simp only [rowC]
    split
    · exact ih h
    · rename_i b off hat
      cases hb : Nat.beq b i with
      | false => exact ih h
      | true =>
        have e := Nat.eq_of_beq_eq_true hb
        subst e
        refine ih ?_
        simp only [cond_true]
        cases hv : vs[off]? with
        | some v =>
          have := VRs_set h off _ v (hr r (by simp) off hat v hv)
          have e2 : vs.set off v = vs := by
            obtain ⟨hlt, he⟩ := List.getElem?_eq_some_iff.1 hv
            rw [← he]; exact List.set_getElem_self hlt
          rw [e2] at this
          exact this
        | none =>
          have hl : vs.length ≤ off := List.getElem?_eq_none_iff.1 hv
          rw [List.set_eq_of_length_le (by rw [VRs_length h]; exact hl)]
          exact h

omit [Glob] in
theorem rowT_mem {p : Nat × AV} : ∀ {rs : List RowH}, p ∈ rowT rs → ∃ r ∈ rs, r.at' = .t p.1 ∧ p.2 = .sl r.id 0
  | [], h => by simp [rowT] at h
  | r :: rs, h => by
    simp only [rowT] at h
    split at h
    · rename_i s hs
      rcases List.mem_cons.1 h with rfl | h
      · exact ⟨r, by simp, hs, rfl⟩
      · obtain ⟨q, h1, h2⟩ := rowT_mem h; exact ⟨q, by simp [h1], h2⟩
    · obtain ⟨q, h1, h2⟩ := rowT_mem h; exact ⟨q, by simp [h1], h2⟩

omit [Glob] in
theorem src_unique {l : List Src} (hd : distinct (Src.list l) = true) : ∀ {s p : Src}, s ∈ l → p ∈ l → ∀ {a : Nat}, s.src = some a → p.src = some a → distinct (l.map (·.id)) = true → s.id = p.id := by
  induction l with
  | nil => intro s p hs; simp at hs
  | cons q l ih =>
    intro s p hs hp a h1 h2 hi
    simp only [List.map_cons, distinct, Bool.and_eq_true, Bool.not_eq_true'] at hi
    have hd' : distinct (Src.list l) = true ∧ ∀ b, q.src = some b → b ∉ Src.list l := by
      unfold Src.list at hd
      cases hq : q.src with
      | none => rw [List.filterMap_cons, hq] at hd; exact ⟨hd, fun b h => by simp at h⟩
      | some b =>
        rw [List.filterMap_cons, hq] at hd
        simp only [distinct, Bool.and_eq_true, Bool.not_eq_true'] at hd
        refine ⟨hd.2, fun c hc hm => ?_⟩
        cases hc
        have := List.any_eq_false.1 hd.1 b hm
        simp at this
    have inl : ∀ {x : Src}, x ∈ l → x.src = some a → a ∈ Src.list l := fun hx hxa => List.mem_filterMap.2 ⟨_, hx, hxa⟩
    rcases List.mem_cons.1 hs with e1 | hs' <;> rcases List.mem_cons.1 hp with e2 | hp'
    · rw [e1, e2]
    · exact absurd (inl hp' h2) (hd'.2 a (by rw [← e1]; exact h1))
    · exact absurd (inl hs' h1) (hd'.2 a (by rw [← e2]; exact h2))
    · exact ih hd'.1 hs' hp' h1 h2 hi.2

theorem head_ok {od : List Nat} {h : Hint} (hh : head od h σ = some σ') (A : AR N μ S σ a) (R : Rel μ S σ.heap B w0 w) (hod : ∀ i, μo i ≠ none → i ∈ od) (Co : Carry B μo So Ho μ S σ.heap) :
    ∃ μ', AR N μ' S σ' a ∧ Rel μ' S σ'.heap B w0 w ∧ Carry B μo So Ho μ' S σ'.heap ∧ Bd σ' := by
  unfold head at hh
  split at hh
  · simp at hh
  · rename_i l hl
    obtain ⟨hc, rfl⟩ := cond_some hh
    simp only [Bool.and_eq_true, List.all_eq_true, Bool.not_eq_true'] at hc
    obtain ⟨⟨⟨hd1, hd2⟩, hd3⟩, hd4⟩ := hc
    obtain ⟨s1, s2⟩ := srcs_ok A R hl
    -- numbers of rows lie apart from the others
    have notL : ∀ s ∈ l, s.id ∉ od ++ h.ids := fun s hs hm => by
      have := hd3 s hs
      rw [mem_iff.2 hm] at this; simp at this
    have srcNotL : ∀ s ∈ l, ∀ x, s.src = some x → x ∉ od ++ h.ids := fun s hs x hx hm => by
      have := hd4 x (List.mem_filterMap.2 ⟨s, hs, hx⟩)
      rw [mem_iff.2 hm] at this; simp at this
    have inIds : ∀ q, q ∈ od ++ h.ids → q ∉ l.map (·.id) := fun q hq hm => by
      obtain ⟨s, hs, rfl⟩ := List.mem_map.1 hm
      exact notL s hs hq
    let μ' : Mu := muH l (od ++ h.ids) μ
    let H' : Heap := lkH (l.map (fun s => (s.id, some (.row s.te s.e 0 s.xs))) ++ (od ++ h.ids).map (fun i => (i, (σ.heap i).map (headObj h.rows (od ++ h.ids) i))))
    have F1 : ∀ s ∈ l, H' s.id = some (.row s.te s.e 0 s.xs) := fun s hs => lkH_src l s hs hd2
    have F2 : ∀ q, q ∉ l.map (·.id) → H' q = cond (mem (od ++ h.ids) q) ((σ.heap q).map (headObj h.rows (od ++ h.ids) q)) none := fun q hq => by
      show lkH _ q = _
      rw [lkH_rest l q hq, lkH_map]
    have M1 : ∀ s ∈ l, μ' s.id = s.loc μ := fun s hs => muH_src l s hs hd2
    have M2 : ∀ q, q ∉ l.map (·.id) → μ' q = cond (mem (od ++ h.ids) q) (μ q) none := fun q hq => muH_rest hq
    have ag : Ag (od ++ h.ids) μ σ.heap μ' H' := ⟨fun i hi => by rw [M2 i (inIds i hi), mem_iff.2 hi]; rfl, fun i hi t e g xs hr => by
      rw [F2 i (inIds i hi), mem_iff.2 hi] at hr
      exact headObj_row hr⟩
    have cases_ : ∀ q l', μ' q = some l' → (∃ s ∈ l, s.id = q ∧ s.loc μ = some l') ∨ (q ∈ od ++ h.ids ∧ q ∉ l.map (·.id) ∧ μ q = some l') := fun q l' hq => by
      by_cases hm : q ∈ l.map (·.id)
      · obtain ⟨s, hs, rfl⟩ := List.mem_map.1 hm
        rw [M1 s hs] at hq
        exact .inl ⟨s, hs, rfl, hq⟩
      · rw [M2 q hm] at hq
        cases hb : mem (od ++ h.ids) q with
        | true => rw [hb] at hq; exact .inr ⟨mem_iff.1 hb, hm, hq⟩
        | false => rw [hb] at hq; simp at hq
    have slR : ∀ r ∈ h.rows, ∀ v, VR μ S σ.heap (σ.valAt r.at') v → VR μ' S H' (.sl r.id 0) v := by
      intro r hr v hv
      obtain ⟨s, hs, e1, lc, e2, e3⟩ := s2 r hr
      have e3' := e3 v hv
      simp only [VR]
      refine ⟨⟨_, _, _, e3'⟩, lc, by rw [← e1]; exact (M1 s hs).trans e2, fun t1 e1' g1 xs1 hH => ?_⟩
      have hH2 : H' r.id = some (.row t1 e1' g1 xs1) := hH
      rw [← e1, F1 s hs] at hH2
      injection hH2 with hH2
      injection hH2 with k1 k2 k3 k4
      refine ⟨Nat.zero_le _, fun _ => ?_⟩
      rw [e3']
      subst k2
      cases k4
      rfl
    refine ⟨μ', ⟨A.defers, A.size, fun t ht => ?_⟩, ⟨R.below, R.size, R.st, fun q => ?_, fun q o hq => ?_, fun i j li lj b hij hi hj hb => ?_, R.pre⟩, ⟨fun x v hv => ?_, Co.st, Co.sub⟩, fun q hq => ?_⟩
    · refine lkT_VR (f := fun t => a.tmps.getD t undef) _ (fun p hp => ?_) t
      rcases List.mem_append.1 hp with hp | hp
      · obtain ⟨r, hr, hat, hpe⟩ := rowT_mem hp
        rw [hpe]
        refine slR r hr _ ?_
        rw [hat]
        exact A.val (.tmp p.1)
      · obtain ⟨t', ht', rfl⟩ := List.mem_map.1 hp
        exact clean_VR ag (A.val (.tmp t'))
    · by_cases hm : q ∈ l.map (·.id)
      · obtain ⟨s, hs, rfl⟩ := List.mem_map.1 hm
        show (H' s.id).isSome = (μ' s.id).isSome
        rw [F1 s hs, M1 s hs, (s1 s hs).2]; rfl
      · show (H' q).isSome = (μ' q).isSome
        rw [F2 q hm, M2 q hm]
        cases mem (od ++ h.ids) q with
        | true => simp only [cond_true, Option.isSome_map]; exact R.dom q
        | false => rfl
    · by_cases hm : q ∈ l.map (·.id)
      · obtain ⟨s, hs, rfl⟩ := List.mem_map.1 hm
        have hq' : H' s.id = some o := hq
        rw [F1 s hs] at hq'
        cases hq'
        obtain ⟨ok, hsome⟩ := s1 s hs
        cases hsrc : s.src with
        | none =>
          have hloc : s.loc μ = some ⟨none, 0⟩ := by unfold Src.loc; rw [hsrc]
          refine ⟨_, (M1 s hs).trans hloc, ?_, .inl ⟨rfl, rfl⟩⟩
          rw [ok.nil hsrc]; exact ⟨Nat.le_refl _, Nat.zero_le _⟩
        | some x =>
          obtain ⟨g, hx⟩ := ok.row x hsrc
          obtain ⟨lx, k1, k2⟩ := R.obj x _ hx
          have hloc : s.loc μ = some lx := by unfold Src.loc; rw [hsrc]; exact k1
          exact ⟨lx, (M1 s hs).trans hloc, k2⟩
      · have hq' : H' q = some o := hq
        rw [F2 q hm] at hq'
        cases hb : mem (od ++ h.ids) q with
        | false => rw [hb] at hq'; simp at hq'
        | true =>
          rw [hb] at hq'
          simp only [cond_true] at hq'
          cases ho : σ.heap q with
          | none => rw [ho] at hq'; simp at hq'
          | some o' =>
            rw [ho] at hq'
            simp only [Option.map_some, Option.some.injEq] at hq'
            subst hq'
            obtain ⟨lq, k1, k2⟩ := R.obj q o' ho
            refine ⟨lq, by show μ' q = _; rw [M2 q hm, hb]; exact k1, ?_⟩
            cases o' with
            | box t cs =>
              obtain ⟨b, vs, a1, a2, a3, a4, a5⟩ := k2
              refine ⟨b, vs, a1, a2, a3, a4, rowC_VRs h.rows (fun r hr off hat v hv => slR r hr v ?_) (clean_VRs ag a5)⟩
              have := nthJ_VR a5 off
              rw [hat]
              simp only [St.valAt, ho, boxAt]
              rw [List.getD_eq_getElem?_getD, hv] at this
              exact this
            | siter s pos => exact k2
            | map es => exact k2
            | loop k r st ts =>
              obtain ⟨b, fn, ss, pe, vs, ps, asn, body, df, q1, q2, q3, q4, q5, q6, q7⟩ := k2
              exact ⟨b, fn, ss, pe, vs, ps, asn, body, df, q1, q2, q3, q4, q5, q6, clean_VRs ag q7⟩
            | row t e g xs => exact k2
    · rcases cases_ i li hi with ⟨s, hs, e1, e2⟩ | ⟨h1, h2, h3⟩ <;> rcases cases_ j lj hj with ⟨p, hp, f1, f2⟩ | ⟨k1, k2, k3⟩
      · unfold Src.loc at e2 f2
        cases hs1 : s.src with
        | none => rw [hs1] at e2; cases e2; simp at hb
        | some x =>
          rw [hs1] at e2
          cases hp1 : p.src with
          | none => rw [hp1] at f2; cases f2; simp
          | some y =>
            rw [hp1] at f2
            by_cases exy : x = y
            · subst exy
              exact absurd (src_unique hd1 hs hp hs1 hp1 hd2) (by rw [e1, f1]; exact hij)
            · exact R.sep x y li lj b exy e2 f2 hb
      · unfold Src.loc at e2
        cases hs1 : s.src with
        | none => rw [hs1] at e2; cases e2; simp at hb
        | some x =>
          rw [hs1] at e2
          exact R.sep x j li lj b (fun e => srcNotL s hs x hs1 (e ▸ k1)) e2 k3 hb
      · unfold Src.loc at f2
        cases hp1 : p.src with
        | none => rw [hp1] at f2; cases f2; simp
        | some y =>
          rw [hp1] at f2
          exact R.sep i y li lj b (fun e => srcNotL p hp y hp1 (e ▸ h1)) h3 f2 hb
      · exact R.sep i j li lj b hij h3 k3 hb
    · have h1 := VR_refs hod x v hv
      exact VR_ag ag x v (by
        have := VR_refs (L := od ++ h.ids) (fun i hi => List.mem_append.2 (.inl (hod i hi))) x v hv
        exact this) (Co.vr x v hv)
    · by_cases hm : q ∈ l.map (·.id)
      · exact List.mem_append.2 (.inr hm)
      · have hq' : H' q ≠ none := hq
        rw [F2 q hm] at hq'
        cases hb : mem (od ++ h.ids) q with
        | true => exact List.mem_append.2 (.inl (mem_iff.1 hb))
        | false => rw [hb] at hq'; simp at hq'

omit [Glob] in
theorem lkH_keys : ∀ (l : List (Nat × Option HObj)) (q : Nat), lkH l q ≠ none → q ∈ l.map (·.1)
  | [], q, h => absurd rfl h
  | (i, o) :: l, q, h => by
    simp only [lkH] at h
    cases hb : Nat.beq q i with
    | true => rw [Nat.eq_of_beq_eq_true hb]; simp
    | false =>
      rw [hb] at h
      have := lkH_keys l q h
      simp only [List.map_cons, List.mem_cons]; exact .inr this

omit [Glob] in
theorem head_bd {od : List Nat} {h : Hint} (hh : head od h σ = some σ') : Bd σ' := by
  unfold head at hh
  split at hh
  · simp at hh
  · obtain ⟨_, rfl⟩ := cond_some hh
    intro q hq
    have := lkH_keys _ q hq
    simp only [List.map_append, List.map_map, List.mem_append, List.mem_map, Function.comp_apply] at this ⊢
    rcases this with ⟨s, h1, h2⟩ | ⟨i, h1, h2⟩ | ⟨i, h1, h2⟩
    · exact .inr ⟨s, h1, h2⟩
    · subst h2; exact .inl (.inl h1)
    · subst h2; exact .inl (.inr h1)
end
end Go.Sy

/- The record of a range over a function, and the mark that it leaves. -/
namespace Go.Sy
open Go Go.RowKit
set_option linter.unusedSimpArgs false
set_option linter.unusedVariables false

/-- what the cells of one memory say, those of another one say -/
def CellsSub (S S' : Stable) : Prop := ∀ a v, cellS S a = some v → cellS S' a = some v

theorem Rd_cells {S S' : Stable} (h : CellsSub S S') : ∀ (t : Ty) (x : t.T) (cs : List Value), Rd S t x cs → Rd S' t x cs
  | .int _, _, _, hr => hr
  | .bool, _, _, hr => hr
  | .str, _, _, hr => hr
  | .row e, xs, cs, hr => by
    obtain ⟨a, cap, h1, h2, h3⟩ := hr
    refine ⟨a, cap, h1, h2, fun j x hj => ?_⟩
    obtain ⟨ad, c, e1, e2, e3⟩ := h3 j x hj
    exact ⟨ad, c, e1, Rd_cells h e x c e2, fun m v hv => h _ _ (e3 m v hv)⟩
  | .pair a b, x, cs, hr => by
    obtain ⟨c, d, h1, h2, h3⟩ := hr
    exact ⟨c, d, h1, Rd_cells h a _ _ h2, Rd_cells h b _ _ h3⟩
  | .one a, x, cs, hr => Rd_cells h a x cs hr
  | .fnc _, _, _, hr => hr

section
variable {μ : Mu} {S S' : Stable} {H : Heap}
mutual
theorem VR_cells (h : CellsSub S S') : ∀ (a : AV) (v : Value), VR μ S H a v → VR μ S' H a v
  | .lit _, v, hr => by simp only [VR] at hr ⊢; exact hr
  | .ptr i off, v, hr => by simp only [VR] at hr ⊢; exact hr
  | .elc e x off, v, hr => by
    simp only [VR] at hr ⊢
    obtain ⟨ad, c, h1, h2, h3⟩ := hr
    exact ⟨ad, c, Rd_cells h _ _ _ h1, fun m u hm => h _ _ (h2 m u hm), h3⟩
  | .elp i g k off, v, hr => by simp only [VR] at hr ⊢; exact hr
  | .cont e xs, v, hr => by simp only [VR] at hr ⊢; exact Rd_cells h (.row e) xs [v] hr
  | .sl i g, v, hr => by simp only [VR] at hr ⊢; exact hr
  | .sub i g lo hi, v, hr => by simp only [VR] at hr ⊢; exact hr
  | .bsl i n, v, hr => by simp only [VR] at hr ⊢; exact hr
  | .yld i, v, hr => by simp only [VR] at hr ⊢; exact hr
  | .mp i, v, hr => by simp only [VR] at hr ⊢; exact hr
  | .fn f fi ca, v, hr => by
    simp only [VR] at hr ⊢
    obtain ⟨x, y, h1, h2, h3⟩ := hr
    exact ⟨x, y, h1, VRs_cells h fi _ h2, VRs_cells h ca _ h3⟩
  | .agg cs, v, hr => by
    simp only [VR] at hr ⊢
    obtain ⟨x, h1, h2⟩ := hr
    exact ⟨x, h1, VRs_cells h cs _ h2⟩
  | .tup cs, v, hr => by
    simp only [VR] at hr ⊢
    obtain ⟨x, h1, h2⟩ := hr
    exact ⟨x, h1, VRs_cells h cs _ h2⟩
  | .cel, _, hr => by simpa only [VR] using hr
  | .junk, _, _ => by simp only [VR]
theorem VRs_cells (h : CellsSub S S') : ∀ (as : List AV) (vs : List Value), VRs μ S H as vs → VRs μ S' H as vs
  | [], vs, hr => by simp only [VRs] at hr ⊢; exact hr
  | a :: as, vs, hr => by
    simp only [VRs] at hr ⊢
    obtain ⟨v, r, h1, h2, h3⟩ := hr
    exact ⟨v, r, h1, VR_cells h a v h2, VRs_cells h as r h3⟩
end
end

section
variable [Glob] {P : Program} {w w' w0 : World} {μ μ' μo : Mu} {S S' So N : Stable} {H H' Ho : Heap} {B : Nat}

/-- memory that stays, one block less -/
def cutS (S : Stable) (D : Nat) : Stable := fun b => cond (Nat.beq b D) none (S b)

omit [Glob] in
theorem cutS_ne {S : Stable} {D b : Nat} (h : b ≠ D) : cutS S D b = S b := by
  unfold cutS
  cases hb : Nat.beq b D with
  | true => exact absurd (Nat.eq_of_beq_eq_true hb) h
  | false => rfl
omit [Glob] in
theorem cutS_same {S : Stable} {D : Nat} : cutS S D D = none := by simp [cutS]

omit [Glob] in
theorem cutS_cells {S : Stable} {D : Nat} {x : Option (List Deferred)} (h : S D = some (.deferred x)) : CellsSub S (cutS S D) := by
  intro a v hv
  unfold cellS at hv ⊢
  by_cases e : a.block = D
  · rw [e, h] at hv; simp at hv
  · rw [cutS_ne e]; exact hv

/-- the mark's block is taken: nothing else is known less -/
theorem Rel.take (R : Rel μ S H B w0 w) {D : Nat} (hD : S D = some (.deferred (some []))) (hB : B ≤ D) (hN : ∀ b o, N b = some o → S b = some o) (hND : N D = none) (hp : Glob.pre N) :
    Rel μ (cutS S D) H B w0 (w.putObj D (.deferred none)) := by
  have hlt := R.st_lt hD
  have hsub : ∀ b o, N b = some o → cutS S D b = some o := fun b o h => by
    have : b ≠ D := fun e => by subst e; rw [hND] at h; simp at h
    rw [cutS_ne this]; exact hN b o h
  have hbl : Below B w (w.putObj D (.deferred none)) := below_put hB _
  refine ⟨R.below.trans hbl, by simpa using R.size, fun b o h => ?_, R.dom, fun i o hi => ?_, R.sep, Glob.mono _ _ hsub hp⟩
  · have : b ≠ D := fun e => by subst e; rw [cutS_same] at h; simp at h
    rw [cutS_ne this] at h
    rw [World.putObj_heap_other this]; exact R.st b o h
  · obtain ⟨l, h1, h2⟩ := R.obj i o hi
    refine ⟨l, h1, ?_⟩
    have hne : ∀ b, l.blk = some b → b ≠ D := fun b hb e => by
      have := (R.ge h1 hb).2
      rw [e, hD] at this; simp at this
    have hc := cutS_cells hD
    cases o with
    | box t cells =>
      obtain ⟨b, cs, q1, q2, q3, q4, q5⟩ := h2
      exact ⟨b, cs, q1, q2, by rw [cutS_ne (hne b q1)]; exact q3, by rw [World.putObj_heap_other (hne b q1)]; exact q4, VRs_cells hc _ _ q5⟩
    | siter s pos =>
      obtain ⟨b, q1, q2, q3, q4⟩ := h2
      exact ⟨b, q1, q2, by rw [cutS_ne (hne b q1)]; exact q3, by rw [World.putObj_heap_other (hne b q1)]; exact q4⟩
    | map es =>
      obtain ⟨b, q1, q2, q3, q4⟩ := h2
      exact ⟨b, q1, q2, by rw [cutS_ne (hne b q1)]; exact q3, by rw [World.putObj_heap_other (hne b q1)]; exact q4⟩
    | loop k r st ts =>
      obtain ⟨b, fn, ss, pe, vs, ps, asn, body, df, q1, q2, q3, q4, q5, q6, q7⟩ := h2
      exact ⟨b, fn, ss, pe, vs, ps, asn, body, df, q1, q2, by rw [cutS_ne (hne b q1)]; exact q3, q4, q5, by rw [World.putObj_heap_other (hne b q1)]; exact q6, VRs_cells hc _ _ q7⟩
    | row t e g xs =>
      obtain ⟨q0, q1⟩ := h2
      refine ⟨q0, ?_⟩
      rcases q1 with q1 | ⟨b, cs, a1, a2, a3, a4, a5, a6⟩
      · exact .inl q1
      · exact .inr ⟨b, cs, a1, a2, by rw [cutS_ne (hne b a1)]; exact a3, by rw [World.putObj_heap_other (hne b a1)]; exact a4, a5, fun j x hj => by
          obtain ⟨c, k1, k2⟩ := a6 j x hj
          exact ⟨c, Rd_cells hc _ _ _ k1, k2⟩⟩

/-- memory that stays, one block more -/
def addS (S : Stable) (D : Nat) (o : Obj) : Stable := fun b => cond (Nat.beq b D) (some o) (S b)

omit [Glob] in
theorem addS_ne {S : Stable} {D b : Nat} {o : Obj} (h : b ≠ D) : addS S D o b = S b := by
  unfold addS
  cases hb : Nat.beq b D with
  | true => exact absurd (Nat.eq_of_beq_eq_true hb) h
  | false => rfl
omit [Glob] in
theorem addS_same {S : Stable} {D : Nat} {o : Obj} : addS S D o D = some o := by simp [addS]

/-- a block is laid that stays -/
theorem Rel.mark (R : Rel μ S H B w0 w) (o : Obj) : Rel μ (addS S w.heap.size o) H B w0 (w.alloc o) ∧ Carry B μ S H μ (addS S w.heap.size o) H := by
  have hsub : ∀ b o', S b = some o' → addS S w.heap.size o b = some o' := fun b o' h => by
    rw [addS_ne (by have := R.st_lt h; omega)]; exact h
  have E : Ext μ S H μ (addS S w.heap.size o) H := ⟨fun _ _ h => .inl h, hsub, fun _ t _ g xs _ h => ⟨t, g, xs, h, Nat.le_refl _, fun _ => rfl⟩⟩
  refine ⟨⟨R.below.alloc R.size o, by have := R.size; simp; omega, fun b o' h => ?_, R.dom, fun i o' hi => ?_, R.sep, Glob.mono _ _ hsub R.pre⟩, fun a v h => VR_mono E a v h, fun b hb => ?_, hsub⟩
  · by_cases e : b = w.heap.size
    · subst e; rw [addS_same] at h; cases h; exact alloc_heap_new w o
    · rw [addS_ne e] at h
      rw [alloc_heap_lt w o (R.st_lt h)]; exact R.st b o' h
  · obtain ⟨l, h1, h2⟩ := R.obj i o' hi
    exact ⟨l, h1, ObjR_mono E (fun b hb => alloc_heap_lt w o (R.lt h1 hb)) (fun b hb => by
      have := R.lt h1 hb
      rw [addS_ne (by omega)]; exact (R.ge h1 hb).2) h2⟩
  · by_cases e : b = w.heap.size
    · subst e; exact .inr R.size
    · rw [addS_ne e] at hb; exact .inl hb

omit [Glob] in
theorem Ext.loop {i k r : Nat} {st : LSt} {ts : List AV} : Ext μ S H μ S (upd H i (some (.loop k r st ts))) := by
  refine ⟨fun _ _ h => .inl h, fun _ _ h => h, fun j t0 e g xs _ hH => ?_⟩
  by_cases ej : j = i
  · subst ej; rw [upd_same] at hH; simp at hH
  · rw [upd_ne _ _ ej] at hH; exact ⟨t0, g, xs, hH, Nat.le_refl _, fun _ => rfl⟩

/-- the record's block, and what it holds -/
theorem Rel.loop (R : Rel μ S H B w0 w) {i k r b : Nat} {cp : Nat} {st : LSt} {ts : List AV} (h : H i = some (.loop k r st ts)) (hm : μ i = some ⟨some b, cp⟩) :
    ∃ L : Loop, w.heap[b]? = some (.loop L) ∧ Glob.rng k r = some (L.params, L.assign, L.body) ∧ st.Is L.state L.pending ∧ VRs μ S H ts L.tmps.toList := by
  obtain ⟨l, h1, h2⟩ := R.obj i _ h
  rw [hm] at h1; cases h1
  obtain ⟨b', fn, ss, pe, vs, ps, asn, body, df, q1, q2, q3, q4, q5, q6, q7⟩ := h2
  cases q1
  exact ⟨⟨ss, pe, fn, vs, ps, asn, body, df⟩, q6, q4, q5, q7⟩

/-- the record is turned -/
theorem Rel.setLoop (R : Rel μ S H B w0 w) {i k r b : Nat} {cp : Nat} {st st' : LSt} {ts : List AV} (h : H i = some (.loop k r st ts)) (hm : μ i = some ⟨some b, cp⟩) {L L' : Loop}
    (hL : w.heap[b]? = some (.loop L)) (hc : L'.params = L.params ∧ L'.assign = L.assign ∧ L'.body = L.body ∧ L'.tmps = L.tmps) (hst : st'.Is L'.state L'.pending) :
    Rel μ S (upd H i (some (.loop k r st' ts))) B w0 (w.putObj b (.loop L')) ∧ Ext μ S H μ S (upd H i (some (.loop k r st' ts))) := by
  obtain ⟨l, h1, h2⟩ := R.obj i _ h
  rw [hm] at h1; cases h1
  obtain ⟨b', fn, ss, pe, vs, ps, asn, body, df, q1, q2, q3, q4, q5, q6, q7⟩ := h2
  cases q1
  rw [hL] at q6; cases q6
  obtain ⟨c1, c2, c3, c4⟩ := hc
  obtain ⟨ss', pe', fn', vs', ps', asn', body', df'⟩ := L'
  simp only at c1 c2 c3 c4 hst
  subst c1 c2 c3 c4
  have E : Ext μ S H μ S (upd H i (some (.loop k r st' ts))) := Ext.loop
  refine ⟨R.wr hm rfl _ (below_put (Nat.le_refl _) _) (by simp) (fun k hk => World.putObj_heap_other hk) E ?_, E⟩
  exact ⟨b, fn', ss', pe', _, _, _, _, df', rfl, q2, q3, q4, hst, World.putObj_heap_same (R.lt hm rfl), VRs_mono E _ _ q7⟩

/-- leaving with marks -/
theorem leaves_marks {F : Fence} {fn : Func} {tmps : Array Value} {Rs : Ending → World → Prop} (hN : Glob.pre N) : ∀ (ms : List Nat) (S : Stable) (w : World), Rel μ S H B w0 w → Mark S N ms → (∀ b o, N b = some o → S b = some o) → (∀ D ∈ ms, B ≤ D) →
    (∀ (S' : Stable) (w' : World), Rel μ S' H B w0 w' → CellsSub S S' → (∀ b o, N b = some o → S' b = some o) → (∀ b, S' b ≠ none → S b ≠ none) → ∃ v, (results fn tmps).run P w' = .ok v w' ∧ Rs (.returned v) w') →
    LeavesInM F 0 P fn tmps Rs (ms.map fun D => ⟨.collected D, #[]⟩) .returning w
  | [], S, w, R, hm, hsub, hB, hK => hK S w R (fun _ _ h => h) hsub (fun _ h => h)
  | D :: ms, S, w, R, hm, hsub, hB, hK => by
    obtain ⟨hnd, hms⟩ := hm
    obtain ⟨hND, hSD⟩ := hms D (by simp)
    have hw := R.st _ _ hSD
    refine ⟨by simp, .inl ⟨D, _, rfl, run_takeDeferred hw, ?_⟩⟩
    have R1 := R.take hSD (hB D (by simp)) hsub hND hN
    have hnd' := List.nodup_cons.1 hnd
    refine leaves_marks hN ms _ _ R1 ⟨hnd'.2, fun D' hD' => ⟨(hms D' (by simp [hD'])).1, ?_⟩⟩ (fun b o h => ?_) (fun D' hD' => hB D' (by simp [hD'])) (fun S' w' R' hc h1 h2 => ?_)
    · rw [cutS_ne (fun e => by subst e; exact hnd'.1 hD')]; exact (hms D' (by simp [hD'])).2
    · rw [cutS_ne (fun e => by subst e; rw [hND] at h; simp at h)]; exact hsub b o h
    · refine hK S' w' R' (fun a v h => hc _ _ (cutS_cells hSD _ _ h)) h1 (fun b hb => ?_)
      have := h2 b hb
      unfold cutS at this
      intro hn
      rw [hn] at this
      apply this
      cases Nat.beq b D <;> rfl

omit [Glob] in
theorem VRs_range {f : Nat → AV} : ∀ (vs : List Value) (k : Nat), (∀ t, t < vs.length → VR μ S H (f (k + t)) (vs.getD t undef)) → VRs μ S H ((List.range' k vs.length).map f) vs
  | [], k, h => by simp [VRs]
  | v :: vs, k, h => by
    simp only [List.length_cons, List.range'_succ, List.map_cons, VRs]
    refine ⟨v, vs, rfl, by simpa using h 0 (by simp), VRs_range vs (k + 1) fun t ht => ?_⟩
    have := h (t + 1) (by simp; omega)
    rw [show k + 1 + t = k + (t + 1) by omega]
    simpa using this

/-- arguments put into temporaries -/
def setPs : List AV → List Tmp → List AV → List AV
  | ts, p :: ps, a :: as => setPs (ts.set p a) ps as
  | ts, _, _ => ts

omit [Glob] in
theorem setPs_VRs : ∀ {ts : List AV} {vs : Array Value} {ps : List Tmp} {as : List AV} {us : List Value}, VRs μ S H ts vs.toList → VRs μ S H as us →
    VRs μ S H (setPs ts ps as) ((ps.zip us).foldl (fun tmps (t, a) => tmps.setIfInBounds t a) vs).toList
  | ts, vs, [], as, us, h, h' => by simpa [setPs] using h
  | ts, vs, p :: ps, [], us, h, h' => by
    simp only [VRs] at h'; subst h'
    simpa [setPs] using h
  | ts, vs, p :: ps, a :: as, us, h, h' => by
    simp only [VRs] at h'
    obtain ⟨v, r, rfl, h2, h3⟩ := h'
    simp only [setPs, List.zip_cons_cons, List.foldl_cons]
    refine setPs_VRs ?_ h3
    rw [Array.toList_setIfInBounds]
    exact VRs_set h p a v h2
end
end Go.Sy

/- A scope in which the run jumps back to one label, inside a fence: round by round. -/
namespace Go.Sy
open Go Go.RowKit
set_option linter.unusedSimpArgs false
set_option linter.unusedVariables false

section
variable {P : Program} {b : Frame} {a : Act} {k : List Item} {cs : List Frame} {w : World}

theorem stepR_scope {c : Code} : step P (lone (b.atR a (.code (.scope c) :: k)) cs w) = .next (lone (b.atR a (.code c :: .inScope c :: k)) cs w) :=
  step_lone_go (by simp [stepG, stepG.exec, Frame.atR])
theorem stepR_inScope {c : Code} : step P (lone (b.atR a (.inScope c :: k)) cs w) = .next (lone (b.atR a k) cs w) :=
  step_lone_go (by simp [stepG, stepG.exec, Frame.atR])
end

/-- as Q; by a goto to l: J; by no other goto -/
def jumpQ (l : Nat) (J : Act → World → Prop) (Q : Exit → Act → World → Prop) : Exit → Act → World → Prop
  | .goto l', a, w => l' = l ∧ J a w
  | e, a, w => Q e a w

def scopeR (F : Fence) (n : Nat) (P : Program) (l : Nat) (r : Code) (Q : Exit → Act → World → Prop) : Nat → Act → World → Prop
  | 0, _, _ => False
  | m + 1, a, w => r.wpIn F n P (jumpQ l (scopeR F n P l r Q m) Q) a w

theorem wpIn_scope_rounds {F : Fence} {n : Nat} {P : Program} {Q : Exit → Act → World → Prop} {a : Act} {w : World} {c r : Code} {l : Nat} (m : Nat) (hf : 0 < m → findLabel c l = some r)
    (h : c.wpIn F n P (jumpQ l (scopeR F n P l r Q m) Q) a w) : (Code.scope c).wpIn F n P Q a w := by
  intro b k cs hro hb hr
  have hx : ∀ i, exitTo i (.inScope c :: k) = exitTo i k := fun i => by simp [exitTo]
  have key : ∀ m a w, (0 < m → findLabel c l = some r) → scopeR F n P l r Q m a w →
      ∃ e a' w', Q e a' w' ∧ ArrivesIn (Machine.fenced P F) P (lone (b.atR a (.code r :: .inScope c :: k)) cs w) b k cs e a' w' := by
    intro m
    induction m with
    | zero => intro a w _ h; exact h.elim
    | succ m ih =>
      intro a w hf h
      obtain ⟨e, a₁, w₁, hq, harr⟩ := h b (.inScope c :: k) cs hro hb hr
      cases e with
      | normal => exact ⟨.normal, a₁, w₁, hq, StepsIn.trans harr (.one (fenced_calm hb hr rfl) stepR_inScope)⟩
      | exit i => exact ⟨.exit i, a₁, w₁, hq, fun k' hk => harr.1 k' (by rw [hx]; exact hk), fun hr' hk => harr.2 hr' (by rw [hx]; exact hk)⟩
      | goto l' =>
        obtain ⟨rfl, hJ⟩ := hq
        obtain ⟨e₂, a₂, w₂, hq₂, harr₂⟩ := ih a₁ w₁ (fun _ => hf (Nat.succ_pos _)) hJ
        have hg : gotoIn l' (.inScope c :: k) = some (.code r :: .inScope c :: k) := by simp [gotoIn, hf (Nat.succ_pos _)]
        exact ⟨e₂, a₂, w₂, hq₂, .of_steps (harr.1 _ hg) harr₂⟩
      | ret => exact ⟨_, a₁, w₁, hq, harr⟩
      | panic ch => exact ⟨_, a₁, w₁, hq, harr⟩
      | outgrown => exact ⟨_, a₁, w₁, hq, harr⟩
  have h0 : (lone (b.atR a (.code (.scope c) :: k)) cs w).fenced P F := fenced_calm hb hr rfl
  obtain ⟨e, a₁, w₁, hq, harr⟩ := h b (.inScope c :: k) cs hro hb hr
  cases e with
  | normal => exact ⟨.normal, a₁, w₁, hq, .head h0 stepR_scope (StepsIn.trans harr (.one (fenced_calm hb hr rfl) stepR_inScope))⟩
  | exit i => exact ⟨.exit i, a₁, w₁, hq, fun k' hk => .head h0 stepR_scope (harr.1 k' (by rw [hx]; exact hk)), fun hr' hk => let ⟨k₁, h1, h2⟩ := harr.2 hr' (by rw [hx]; exact hk); ⟨k₁, h1, .head h0 stepR_scope h2⟩⟩
  | goto l' =>
    obtain ⟨rfl, hJ⟩ := hq
    cases m with
    | zero => exact hJ.elim
    | succ m =>
      obtain ⟨e₂, a₂, w₂, hq₂, harr₂⟩ := key (m + 1) a₁ w₁ hf hJ
      have hg : gotoIn l' (.inScope c :: k) = some (.code r :: .inScope c :: k) := by simp [gotoIn, hf (Nat.succ_pos _)]
      exact ⟨e₂, a₂, w₂, hq₂, .of_steps (.head h0 stepR_scope (harr.1 _ hg)) harr₂⟩
  | ret => exact ⟨_, a₁, w₁, hq, .of_steps (.one h0 stepR_scope) harr⟩
  | panic ch => exact ⟨_, a₁, w₁, hq, .of_steps (.one h0 stepR_scope) harr⟩
  | outgrown => exact ⟨_, a₁, w₁, hq, .of_steps (.one h0 stepR_scope) harr⟩

/-- no label stands on the way -/
def noLab : Code → Bool
  | .seq x y => noLab x && noLab y
  | .label _ => false
  | _ => true

theorem noLab_find {l : Nat} : ∀ {c : Code}, noLab c = true → findLabel c l = none
  | .seq x y, h => by
    simp only [noLab, Bool.and_eq_true] at h
    simp [findLabel, noLab_find h.1, noLab_find h.2]
  | .label _, h => by simp [noLab] at h
  | .skip, _ => rfl
  | .region _ _ _, _ => rfl
  | .cond _ _ _, _ => rfl
  | .block _ _, _ => rfl
  | .loop _, _ => rfl
  | .exit _, _ => rfl
  | .ret, _ => rfl
  | .rangeFunc _ _ _ _, _ => rfl
  | .scope _, _ => rfl
  | .goto _, _ => rfl
  | .refuse _, _ => rfl

def labOf : Code → Option Nat
  | .label l => some l
  | _ => none

theorem labOf_eq {c : Code} {l : Nat} (h : labOf c = some l) : c = .label l := by
  cases c <;> simp_all [labOf]

/-- the way of a scope's code: labels stand but at the way's last part -/
def spineOK : Code → Bool
  | .seq x y => match labOf x with
    | some _ => true
    | none => noLab x && spineOK y
  | .label _ => false
  | _ => true

def spineLab : Code → Option (Nat × Code)
  | .seq x y => match labOf x with
    | some l => some (l, .seq .skip y)
    | none => spineLab y
  | _ => none

theorem spine_find : ∀ {c : Code} {l : Nat} {r : Code}, spineOK c = true → spineLab c = some (l, r) → findLabel c l = some r
  | .seq x y, l, r, h, hs => by
    simp only [spineOK, spineLab] at h hs
    cases hl : labOf x with
    | some l' =>
      rw [hl] at hs
      simp only [Option.some.injEq, Prod.mk.injEq] at hs
      obtain ⟨rfl, rfl⟩ := hs
      have := labOf_eq hl
      subst this
      simp [findLabel]
    | none =>
      rw [hl] at h hs
      simp only [Bool.and_eq_true] at h
      simp only at hs
      simp [findLabel, noLab_find h.1, spine_find h.2 hs]
  | .skip, _, _, _, hs => by simp [spineLab] at hs
  | .region _ _ _, _, _, _, hs => by simp [spineLab] at hs
  | .cond _ _ _, _, _, _, hs => by simp [spineLab] at hs
  | .block _ _, _, _, _, hs => by simp [spineLab] at hs
  | .loop _, _, _, _, hs => by simp [spineLab] at hs
  | .exit _, _, _, _, hs => by simp [spineLab] at hs
  | .label _, _, _, _, hs => by simp [spineLab] at hs
  | .ret, _, _, _, hs => by simp [spineLab] at hs
  | .rangeFunc _ _ _ _, _, _, _, hs => by simp [spineLab] at hs
  | .scope _, _, _, _, hs => by simp [spineLab] at hs
  | .goto _, _, _, _, hs => by simp [spineLab] at hs
  | .refuse _, _, _, _, hs => by simp [spineLab] at hs
end Go.Sy

/- Code and functions, and a contract out of a run. -/
namespace Go.Sy
open Go Go.RowKit
set_option linter.unusedSimpArgs false
set_option linter.unusedVariables false

inductive Ex where
  | nrm
  | exit (id : Nat)
  | goto (l : Nat)
  | ret

def Jmp.ex : Jmp → Ex
  | .ret => .ret
  | .exit i => .exit i
  | .goto l => .goto l

def Ex.to : Ex → Exit
  | .nrm => .normal
  | .exit i => .exit i
  | .goto l => .goto l
  | .ret => .ret

def exLoop : Nat → (St → Option (Ex × St)) → St → Option (Ex × St)
  | 0, _, _ => none
  | n + 1, f, σ => match f σ with
    | some (.nrm, σ') => exLoop n f σ'
    | some (.exit i, σ') => some (.exit i, σ')
    | some (.goto i, σ') => some (.goto i, σ')
    | some (.ret, σ') => some (.ret, σ')
    | none => none

/-- where a region's new objects stand: 256 operations at most, sixteen objects each -/
def site (base id : Nat) : Nat := base + id * 4096

abbrev Hints := Nat → Nat → Option LoopH

def hintOf (Hn : Hints) (base : Nat) (x : Code) : Option LoopH :=
  match firstReg x with
  | some r => Hn base r
  | none => none

def exRound (od : List Nat) (h : Option LoopH) (f : St → Option (Ex × St)) (σ : St) : Option (Ex × St) :=
  match h with
  | none => f σ
  | some h => match head od h.top σ with
    | some σ' => f σ'
    | none => none

/-- what is left behind a loop -/
def exOut (od : List Nat) (h : Option LoopH) : Option (Ex × St) → Option (Ex × St)
  | some (e, σ) => match h with
    | none => some (e, σ)
    | some h => match e with
      | .exit i => match h.out with
        | some h' => match head od h' σ with
          | some σ' => some (.exit i, σ')
          | none => none
        | none => some (.exit i, σ)
      | .ret => match h.ret with
        | some h' => match head od h' σ with
          | some σ' => some (.ret, σ')
          | none => none
        | none => some (.ret, σ)
      | e => some (e, σ)
  | none => none

/-- the temporaries that a code looks at -/
def opsUse (ops : Array Oper) : List Nat := ops.toList.flatMap fun o => o.op.operands.toList.flatMap fun x => match x with
  | .tmp t => [t]
  | _ => []

def usesOf : Code → List Nat
  | .region _ ops _ => opsUse ops
  | .seq x y => usesOf x ++ usesOf y
  | .cond c x y => (match c with
    | .tmp t => [t]
    | _ => []) ++ (usesOf x ++ usesOf y)
  | .block _ x => usesOf x
  | .loop x => usesOf x
  | _ => []

/-- a function that can be called by its value -/
def callable (P : Program) (k : Nat) : Bool := match P.funcs[k]? with
  | some fn => match fn.body with
    | some _ => !(fn.name == "runtime.NumGoroutine")
    | none => false
  | none => false

/-- what a record keeps of the temporaries -/
def liveT (σ : St) (x : RCode) : List AV := (List.range' 0 σ.nt).map fun t => cond (mem (usesOf x.2.1 ++ usesOf x.2.2) t) (σ.tmps t) .junk

/-- the record is laid, and the function called -/
def rngIn (σ : St) (base fid r : Nat) (x : RCode) : Option (St × Nat) :=
  cond ((σ.heap (site base r)).isNone) (some (⟨σ.nt, σ.tmps, upd σ.heap (site base r) (some (.loop fid r .ready (liveT σ x))), σ.ids ++ [site base r]⟩, site base r)) none

/-- the function has returned: the pending jump -/
def rngOut (σ : St) (i : Nat) (H : Heap) (L : List Nat) : Option (Ex × St) :=
  match H i with
  | some (.loop k r .ready ts) => some (.nrm, ⟨σ.nt, σ.tmps, upd H i (some (.loop k r .over ts)), L⟩)
  | some (.loop k r (.done j) ts) => some (j.ex, ⟨σ.nt, σ.tmps, upd H i (some (.loop k r .over ts)), L⟩)
  | _ => none

def exRange (P : Program) (F : Inl) (base : Nat) (rf : Option Nat) (g : Operand) (body : Code) (σ : St) : Option (Ex × St) :=
  match rf, σ.val g, firstReg body with
  | some fid, .fn (.func k) first caps, some r => match rangeIn P fid r with
    | some x => match rngIn σ base fid r x with
      | some (σ1, i) => match callable P k, F (i + 1) (.fn k) (first ++ [.yld i] ++ caps) σ1.heap σ1.ids with
        | true, some (_, H, L) => rngOut σ i H L
        | _, _ => none
      | none => none
    | none => none
  | _, _, _ => none

/-- the number by which a loop by a label is left -/
def endN : Nat := 1000000007

/-- a goto goes on with the loop, the end leaves it -/
def flipX (l : Nat) : Ex → Option Ex
  | .nrm => some (.exit endN)
  | .goto i => cond (Nat.beq i l) (some .nrm) none
  | .exit i => cond (Nat.beq i endN) none (some (.exit i))
  | .ret => some .ret

def flipE (l : Nat) : Option (Ex × St) → Option (Ex × St)
  | some (e, σ) => match flipX l e with
    | some e' => some (e', σ)
    | none => none
  | none => none

def unX : Ex → Option Ex
  | .exit i => cond (Nat.beq i endN) (some .nrm) (some (.exit i))
  | .ret => some .ret
  | _ => none

def unflip : Option (Ex × St) → Option (Ex × St)
  | some (e, σ) => match unX e with
    | some e' => some (e', σ)
    | none => none
  | none => none

def noGoto : Option (Ex × St) → Option (Ex × St)
  | some (.goto _, _) => none
  | r => r

/-- sc: on the way of a scope, on which a label may stand -/
def exCode (P : Program) (C : Cons) (Hn : Hints) (F : Inl) (lf base : Nat) (od : List Nat) (rf : Option Nat) : Bool → Code → St → Option (Ex × St)
  | _, .skip, σ => some (.nrm, σ)
  | _, .region id ops draw, σ =>
    match cond draw (exAny P C ops (site base id) σ) (exOps P C F ops (site base id) (List.range ops.size) σ) with
    | some σ' => some (.nrm, σ')
    | none => none
  | false, .seq x y, σ => match exCode P C Hn F lf base od rf false x σ with
    | some (.nrm, σ') => exCode P C Hn F lf base od rf false y σ'
    | some (.exit i, σ') => some (.exit i, σ')
    | some (.goto i, σ') => some (.goto i, σ')
    | some (.ret, σ') => some (.ret, σ')
    | none => none
  | true, .seq x y, σ => match labOf x with
    | some l => unflip (exOut od (hintOf Hn base y) (exLoop lf (exRound od (hintOf Hn base y) fun σ => flipE l (exCode P C Hn F lf base od rf false y σ)) σ))
    | none => match exCode P C Hn F lf base od rf false x σ with
      | some (.nrm, σ') => exCode P C Hn F lf base od rf true y σ'
      | some (.exit i, σ') => some (.exit i, σ')
      | some (.ret, σ') => some (.ret, σ')
      | _ => none
  | _, .cond c x y, σ => match σ.val c with
    | .lit (.bool b) => cond b (exCode P C Hn F lf base od rf false x σ) (exCode P C Hn F lf base od rf false y σ)
    | _ => none
  | _, .block id x, σ => match exCode P C Hn F lf base od rf false x σ with
    | some (.exit i, σ') => cond (Nat.beq i id) (some (.nrm, σ')) (some (.exit i, σ'))
    | r => r
  | _, .loop x, σ => exOut od (hintOf Hn base x) (exLoop lf (exRound od (hintOf Hn base x) (exCode P C Hn F lf base od rf false x)) σ)
  | _, .exit id, σ => some (.exit id, σ)
  | _, .label _, σ => some (.nrm, σ)
  | _, .ret, σ => some (.ret, σ)
  | _, .rangeFunc g _ _ body, σ => exRange P F base rf g body σ
  | _, .scope x, σ => cond (spineOK x) (noGoto (exCode P C Hn F lf base od rf true x σ)) none
  | _, .goto l, σ => some (.goto l, σ)
  | _, _, _ => none

def resOf (P : Program) (σ : St) : ResultVar → Option AV
  | .tmp t => cond (ltN t σ.nt) (some (σ.tmps t)) none
  | .cell a t => match σ.val (.tmp a) with
    | .ptr i off => match σ.heap i with
      | some (.box _ cs) => cut P t cs off
      | _ => none
    | _ => none

def resAll (P : Program) (σ : St) : List ResultVar → Option (List AV)
  | [] => some []
  | r :: rs => match resOf P σ r, resAll P σ rs with
    | some v, some vs => some (v :: vs)
    | _, _ => none

def nthAV : List AV → Nat → AV
  | [], _ => .lit undef
  | a :: _, 0 => a
  | _ :: l, n + 1 => nthAV l n

def exEnd (P : Program) (rs : List ResultVar) : Option (Ex × St) → Option (AV × Heap × List Nat)
  | some (.nrm, σ) => match resAll P σ rs with
    | some vs => some (resAV vs, σ.heap, σ.ids)
    | none => none
  | some (.ret, σ) => match resAll P σ rs with
    | some vs => some (resAV vs, σ.heap, σ.ids)
    | none => none
  | _ => none

/-- a round: its record, its code, its first state -/
def rndIn (P : Program) (i : Nat) (as : List AV) (H : Heap) (L : List Nat) : Option (Nat × Nat × RCode × St) :=
  match H i with
  | some (.loop k r .ready ts) => match rangeIn P k r with
    | some x => cond (Nat.beq x.1.size as.length) (some (k, r, x, ⟨ts.length, nthAV (setPs ts x.1.toList as), H, L⟩)) none
    | none => none
  | _ => none

/-- the round begins -/
def rndBusy (i k r : Nat) (σ : St) : Option St :=
  match σ.heap i with
  | some (.loop k' r' .ready ts) => cond (Nat.beq k' k && Nat.beq r' r) (some ⟨σ.nt, σ.tmps, upd σ.heap i (some (.loop k r .busy ts)), σ.ids⟩) none
  | _ => none

def Ex.st : Ex → LSt
  | .nrm => .ready
  | .ret => .done .ret
  | .exit i => .done (.exit i)
  | .goto l => .done (.goto l)

def Ex.on : Ex → Bool
  | .nrm => true
  | _ => false

/-- the round ends -/
def rndOut (i k r : Nat) (e : Ex) (σ : St) : Option (AV × Heap × List Nat) :=
  match σ.heap i with
  | some (.loop k' r' .busy ts) => cond (Nat.beq k' k && Nat.beq r' r) (some (.lit (.bool e.on), upd σ.heap i (some (.loop k r e.st ts)), σ.ids)) none
  | _ => none

def exRnd (i k r : Nat) (asn body : St → Option (Ex × St)) (σ : St) : Option (AV × Heap × List Nat) :=
  match asn σ with
  | some (.nrm, σ1) => match rndBusy i k r σ1 with
    | some σ2 => match body σ2 with
      | some (e, σ3) => rndOut i k r e σ3
      | none => none
    | none => none
  | _ => none

def exFun (P : Program) (C : Cons) (Hn : Hints) (lf : Nat) : Nat → Inl
  | 0 => fun _ _ _ _ _ => none
  | n + 1 => fun base c as H L => match c with
    | .fn k => match P.funcs[k]? with
      | some fn => match fn.body with
        | some c => cond (Nat.ble as.length fn.ntmps) (exEnd P fn.results.toList (exCode P C Hn (exFun P C Hn lf n) lf (Nat.succ base * 4294967296) L (some k) false c ⟨fn.ntmps, nthAV as, H, L⟩)) none
        | none => none
      | none => none
    | .yld i => match rndIn P i as H L with
      | some (k, r, x, σ) => exRnd i k r (exCode P C Hn (exFun P C Hn lf n) lf (Nat.succ base * 4294967296) L none false x.2.1) (exCode P C Hn (exFun P C Hn lf n) lf (Nat.succ base * 4294967296) L none false x.2.2) σ
      | none => none

section
variable [Glob] {P : Program} {C : Cons} {F : Inl} {rd : Option Nat} {N : Stable} {B lf base : Nat} {w0 : World}

omit [Glob] in
theorem exLoop_bd {f : St → Option (Ex × St)} (hf : ∀ σ e σ', f σ = some (e, σ') → Bd σ → Bd σ') : ∀ (n : Nat) (σ : St) (e : Ex) (σ' : St), exLoop n f σ = some (e, σ') → Bd σ → Bd σ'
  | 0, σ, e, σ', h, _ => by simp [exLoop] at h
  | n + 1, σ, e, σ', h, hB => by
    simp only [exLoop] at h
    split at h
    · rename_i σ1 h1; exact exLoop_bd hf n σ1 e σ' h (hf _ _ _ h1 hB)
    · rename_i h1; cases h; exact hf _ _ _ h1 hB
    · rename_i h1; cases h; exact hf _ _ _ h1 hB
    · rename_i h1; cases h; exact hf _ _ _ h1 hB
    · simp at h

omit [Glob] in
theorem exOut_cases {od : List Nat} {h : Option LoopH} {r : Option (Ex × St)} {e : Ex} {σ' : St} (hr : exOut od h r = some (e, σ')) :
    r = some (e, σ') ∨ ∃ σ h', r = some (e, σ) ∧ head od h' σ = some σ' := by
  unfold exOut at hr
  split at hr
  · rename_i e0 σ
    split at hr
    · exact .inl hr
    · split at hr
      · split at hr
        · rename_i h' _
          split at hr
          · rename_i σ1 h1; cases hr; exact .inr ⟨σ, h', rfl, h1⟩
          · simp at hr
        · exact .inl hr
      · split at hr
        · rename_i h' _
          split at hr
          · rename_i σ1 h1; cases hr; exact .inr ⟨σ, h', rfl, h1⟩
          · simp at hr
        · exact .inl hr
      · exact .inl hr
  · simp at hr

omit [Glob] in
theorem rngOut_bd {σ σ' : St} {i : Nat} {H : Heap} {L : List Nat} {e : Ex} (h : rngOut σ i H L = some (e, σ')) (hb : ∀ q, H q ≠ none → q ∈ L) : Bd σ' := by
  have key : ∀ o, H i ≠ none → ∀ q, upd H i o q ≠ none → q ∈ L := by
    intro o hi q hq
    by_cases eq : q = i
    · subst eq; exact hb q hi
    · rw [upd_ne _ _ eq] at hq; exact hb q hq
  unfold rngOut at h
  split at h
  · rename_i hH; cases h; exact key _ (by rw [hH]; simp)
  · rename_i hH; cases h; exact key _ (by rw [hH]; simp)
  · simp at h

theorem exRange_bd {g : Operand} {body : Code} {rf : Option Nat} {σ σ' : St} {e : Ex} (hF : InlOK P F) (h : exRange P F base rf g body σ = some (e, σ')) (hB : Bd σ) : Bd σ' := by
  unfold exRange at h
  split at h
  · rename_i fid k first caps r hg hr
    split at h
    · rename_i x hx
      split at h
      · rename_i σ1 i hin
        split at h
        · rename_i v H L hc hcall
          obtain ⟨hi, e1⟩ := cond_some hin
          cases e1
          have := (hF _ _ _ _ _ _ _ _ hcall (fun q hq => by
            show q ∈ σ.ids ++ [site base r]
            by_cases eq : q = site base r
            · subst eq; simp
            · simp only at hq; rw [upd_ne _ _ eq] at hq; simp [hB q hq])).1
          exact rngOut_bd h this
        · simp at h
      · simp at h
    · simp at h
  · simp at h

theorem exCode_bd {Hn : Hints} {od : List Nat} {rf : Option Nat} (hF : InlOK P F) : ∀ (sc : Bool) (c : Code) (σ : St) (e : Ex) (σ' : St), exCode P C Hn F lf base od rf sc c σ = some (e, σ') → Bd σ → Bd σ'
  | sc, .skip, σ, e, σ', h, hB => by simp only [exCode] at h; cases h; exact hB
  | sc, .region id ops draw, σ, e, σ', h, hB => by
    simp only [exCode] at h
    split at h
    · rename_i σ1 h1
      cases h
      cases draw with
      | true => exact exAny_bd h1 hB
      | false => exact exOps_bd hF _ _ _ h1 hB
    · simp at h
  | false, .seq x y, σ, e, σ', h, hB => by
    simp only [exCode] at h
    split at h
    · rename_i σ1 h1; exact exCode_bd hF false y σ1 e σ' h (exCode_bd hF false x σ _ σ1 h1 hB)
    · rename_i h1; cases h; exact exCode_bd hF false x σ _ _ h1 hB
    · rename_i h1; cases h; exact exCode_bd hF false x σ _ _ h1 hB
    · rename_i h1; cases h; exact exCode_bd hF false x σ _ _ h1 hB
    · simp at h
  | true, .seq x y, σ, e, σ', h, hB => by
    simp only [exCode] at h
    split at h
    · rename_i l hl
      have fl : ∀ σ e σ', flipE l (exCode P C Hn F lf base od rf false y σ) = some (e, σ') → Bd σ → Bd σ' := by
        intro σ e σ' h hB
        unfold flipE at h
        split at h
        · rename_i e1 σ1 h1
          split at h
          · cases h; exact exCode_bd hF false y σ _ _ h1 hB
          · simp at h
        · simp at h
      unfold unflip at h
      split at h
      · rename_i e1 σ1 h1
        split at h
        · cases h
          rcases exOut_cases h1 with h | ⟨σ2, h', h, hh⟩
          · refine exLoop_bd (fun σ e σ' h hB => ?_) lf σ _ _ h hB
            unfold exRound at h
            split at h
            · exact fl σ e σ' h hB
            · split at h
              · rename_i σ1 h1; exact fl σ1 e σ' h (head_bd h1)
              · simp at h
          · exact head_bd hh
        · simp at h
      · simp at h
    · split at h
      · rename_i σ1 h1; exact exCode_bd hF true y σ1 e σ' h (exCode_bd hF false x σ _ σ1 h1 hB)
      · rename_i h1; cases h; exact exCode_bd hF false x σ _ _ h1 hB
      · rename_i h1; cases h; exact exCode_bd hF false x σ _ _ h1 hB
      · simp at h
  | sc, .cond c x y, σ, e, σ', h, hB => by
    simp only [exCode] at h
    split at h
    · rename_i b hb
      cases b with
      | true => exact exCode_bd hF false x σ e σ' h hB
      | false => exact exCode_bd hF false y σ e σ' h hB
    · simp at h
  | sc, .block id x, σ, e, σ', h, hB => by
    simp only [exCode] at h
    split at h
    · rename_i i σ1 h1
      have := exCode_bd hF false x σ _ σ1 h1 hB
      cases hb : Nat.beq i id <;> rw [hb] at h <;> cases h <;> exact this
    · exact exCode_bd hF false x σ e σ' h hB
  | sc, .loop x, σ, e, σ', h, hB => by
    simp only [exCode] at h
    rcases exOut_cases h with h | ⟨σ1, h', h, hh⟩
    · refine exLoop_bd (fun σ e σ' h hB => ?_) lf σ e σ' h hB
      unfold exRound at h
      split at h
      · exact exCode_bd hF false x σ e σ' h hB
      · split at h
        · rename_i σ1 h1; exact exCode_bd hF false x σ1 e σ' h (head_bd h1)
        · simp at h
    · exact head_bd hh
  | sc, .exit id, σ, e, σ', h, hB => by simp only [exCode] at h; cases h; exact hB
  | sc, .label l, σ, e, σ', h, hB => by simp only [exCode] at h; cases h; exact hB
  | sc, .ret, σ, e, σ', h, hB => by simp only [exCode] at h; cases h; exact hB
  | sc, .rangeFunc g ps asn body, σ, e, σ', h, hB => by simp only [exCode] at h; exact exRange_bd hF h hB
  | sc, .scope x, σ, e, σ', h, hB => by
    simp only [exCode] at h
    cases hs : spineOK x with
    | false => rw [hs] at h; simp at h
    | true =>
      rw [hs] at h
      simp only [cond_true] at h
      unfold noGoto at h
      split at h
      · simp at h
      · exact exCode_bd hF true x σ e σ' h hB
  | sc, .goto l, σ, e, σ', h, hB => by simp only [exCode] at h; cases h; exact hB
  | sc, .refuse _, σ, e, σ', h, hB => by simp [exCode] at h

section
variable {μo : Mu} {So : Stable} {Ho : Heap}

theorem exLoop_ok {f : St → Option (Ex × St)} {x : Code} (hf : ∀ σ e σ', f σ = some (e, σ') → Bd σ → Bd σ')
    (ih : ∀ (σ : St) (e : Ex) (σ' : St) (a : Act) (w : World) (μ : Mu) (S : Stable) (Q : Exit → Act → World → Prop), f σ = some (e, σ') → Bd σ → AR So μ S σ a → Rel μ S σ.heap B w0 w → Carry B μo So Ho μ S σ.heap →
      (∀ a' w' μ' S', AR So μ' S' σ' a' → Rel μ' S' σ'.heap B w0 w' → Carry B μo So Ho μ' S' σ'.heap → Q e.to a' w') → x.wpIn (WF rd) 0 P Q a w) :
    ∀ (n : Nat) (σ : St) (e : Ex) (σ' : St) (a : Act) (w : World) (μ : Mu) (S : Stable) (Q : Exit → Act → World → Prop), exLoop n f σ = some (e, σ') → Bd σ → AR So μ S σ a → Rel μ S σ.heap B w0 w → Carry B μo So Ho μ S σ.heap →
      (∀ a' w' μ' S', AR So μ' S' σ' a' → Rel μ' S' σ'.heap B w0 w' → Carry B μo So Ho μ' S' σ'.heap → Q e.to a' w') → Code.roundsIn (WF rd) 0 P x Q n a w := by
  intro n
  induction n with
  | zero => intro σ e σ' a w μ S Q h; simp [exLoop] at h
  | succ n ihn =>
    intro σ e σ' a w μ S Q h hB A R Co hK
    rw [roundsIn_succ]
    simp only [exLoop] at h
    split at h
    · rename_i σ1 h1
      refine ih σ .nrm σ1 a w μ S _ h1 hB A R Co fun a1 w1 μ1 S1 A1 R1 C1 => ?_
      exact ihn σ1 e σ' a1 w1 μ1 S1 Q h (hf _ _ _ h1 hB) A1 R1 C1 hK
    · rename_i i σ1 h1; cases h; exact ih σ (.exit i) _ a w μ S _ h1 hB A R Co hK
    · rename_i i σ1 h1; cases h; exact ih σ (.goto i) _ a w μ S _ h1 hB A R Co hK
    · rename_i σ1 h1; cases h; exact ih σ .ret _ a w μ S _ h1 hB A R Co hK
    · simp at h

/-- each range of the code is the one that is found by its key -/
def RngOK (P : Program) (rf : Option Nat) (c : Code) : Prop := ∀ fid, rf = some fid → ∀ x ∈ rangesOf c, ∀ r y, RCode.is x r = true → rangeIn P fid r = some y → y = x

omit [Glob] in
theorem RngOK.left {rf : Option Nat} {x y : Code} (h : RngOK P rf (.seq x y)) : RngOK P rf x := fun fid hf z hz => h fid hf z (by simp [rangesOf, hz])
omit [Glob] in
theorem RngOK.right {rf : Option Nat} {x y : Code} (h : RngOK P rf (.seq x y)) : RngOK P rf y := fun fid hf z hz => h fid hf z (by simp [rangesOf, hz])
omit [Glob] in
theorem RngOK.cleft {rf : Option Nat} {c : Operand} {x y : Code} (h : RngOK P rf (.cond c x y)) : RngOK P rf x := fun fid hf z hz => h fid hf z (by simp [rangesOf, hz])
omit [Glob] in
theorem RngOK.cright {rf : Option Nat} {c : Operand} {x y : Code} (h : RngOK P rf (.cond c x y)) : RngOK P rf y := fun fid hf z hz => h fid hf z (by simp [rangesOf, hz])
omit [Glob] in
theorem RngOK.block {rf : Option Nat} {id : Nat} {x : Code} (h : RngOK P rf (.block id x)) : RngOK P rf x := h
omit [Glob] in
theorem RngOK.scope {rf : Option Nat} {x : Code} (h : RngOK P rf (.scope x)) : RngOK P rf x := h
omit [Glob] in
theorem RngOK.loop {rf : Option Nat} {x : Code} (h : RngOK P rf (.loop x)) : RngOK P rf x := h
omit [Glob] in
theorem RngOK.none {c : Code} : RngOK P none c := fun _ h => by simp at h
omit [Glob] in
theorem RngOK.top {k : Nat} {fn : Func} {c : Code} (hfn : P.funcs[k]? = some fn) (hc : fn.body = some c) : RngOK P (some k) c := by
  intro fid hf x hx r y hr hy
  cases hf
  unfold rangeIn at hy
  rw [hfn] at hy
  simp only [hc] at hy
  exact lookR_mem hy hx hr

omit [Glob] in
theorem liveT_VRs {σ : St} {x : RCode} {tmps : Array Value} {μ : Mu} {S : Stable} {H : Heap} (hs : tmps.size = σ.nt) (h : ∀ t, t < σ.nt → VR μ S H (σ.tmps t) (tmps.getD t undef)) : VRs μ S H (liveT σ x) tmps.toList := by
  unfold liveT
  rw [show σ.nt = tmps.toList.length by simp [hs]]
  refine VRs_range _ 0 fun t ht => ?_
  have ht : t < σ.nt := by rw [← hs]; simpa using ht
  rw [Nat.zero_add]
  cases mem (usesOf x.2.1 ++ usesOf x.2.2) t with
  | false => simp only [cond_false, VR]
  | true =>
    simp only [cond_true]
    have := h t ht
    rw [Array.getD_eq_getD_getElem?] at this
    rw [List.getD_eq_getElem?_getD, Array.getElem?_toList]
    exact this

theorem rng_lay (hC : TabsOK P C) {σ : St} {a : Act} {w : World} {μ : Mu} {S : Stable} {fid r i : Nat} {ps : Array Tmp} {asn body : Code} (hx : rangeIn P fid r = some (ps, asn, body)) (hi0 : σ.heap i = none)
    (A : AR N μ S σ a) (R : Rel μ S σ.heap B w0 w) (fnid : FuncId) :
    ∃ μ1 S1, Rel μ1 S1 (upd σ.heap i (some (.loop fid r .ready (liveT σ (ps, asn, body))))) B w0
        ((w.alloc (.deferred (some []))).alloc (.loop { state := .ready, pending := none, fn := fnid, tmps := a.tmps, params := ps, assign := asn, body := body, defers := w.heap.size })) ∧
      Carry B μ S σ.heap μ1 S1 (upd σ.heap i (some (.loop fid r .ready (liveT σ (ps, asn, body))))) ∧
      VR μ1 S1 (upd σ.heap i (some (.loop fid r .ready (liveT σ (ps, asn, body))))) (.yld i) (.func (.yield (w.heap.size + 1)) #[] #[]) ∧ S1 w.heap.size = some (.deferred (some [])) := by
  obtain ⟨RD, CD⟩ := R.mark (.deferred (some []))
  have hm : μ i = none := by
    have := R.dom i
    rw [hi0] at this
    cases hm : μ i with
    | none => rfl
    | some _ => rw [hm] at this; simp at this
  have E0 : Ext μ (addS S w.heap.size (.deferred (some []))) σ.heap (upd μ i (some ⟨some (w.alloc (.deferred (some []))).heap.size, 0⟩)) (addS S w.heap.size (.deferred (some []))) (upd σ.heap i (some (.loop fid r .ready (liveT σ (ps, asn, body))))) := Ext.new hm
  obtain ⟨R1, E1⟩ := RD.new hi0 (.loop { state := .ready, pending := none, fn := fnid, tmps := a.tmps, params := ps, assign := asn, body := body, defers := w.heap.size })
    (.loop fid r .ready (liveT σ (ps, asn, body))) ⟨some (w.alloc (.deferred (some []))).heap.size, 0⟩ rfl ⟨_, fnid, .ready, none, a.tmps, ps, asn, body, w.heap.size, rfl, RD.size, st_new RD, by rw [hC.2.2]; exact hx, ⟨rfl, rfl⟩, alloc_heap_new _ _,
      liveT_VRs A.size fun t ht => VR_mono E0 _ _ (CD.vr _ _ (A.tmp t ht))⟩
  refine ⟨_, _, R1, CD.trans (Carry.of (B := B) E1), ?_, addS_same⟩
  simp only [VR]
  exact ⟨_, _, upd_same _ _ _, fun t e g xs h => by rw [upd_same] at h; simp at h, by simp⟩

omit [Glob] in
theorem Carry.vrs {μ μ' : Mu} {S S' : Stable} {H H' : Heap} (h : Carry B μ S H μ' S' H') {as : List AV} {us : Array Value} (hv : VRs μ S H as us.toList) : VRs μ' S' H' as us.toList := by
  have := h.vr (.tup as) (.tuple us) (by simp only [VR]; exact ⟨us, rfl, hv⟩)
  simp only [VR] at this
  obtain ⟨x, h1, h2⟩ := this
  cases h1
  exact h2

omit [Glob] in
theorem resolve_range {a : Act} {g : Operand} {k l : Nat} {x y : Array Value} {w : World} (h : a.eval g = .func (.func k) x y) :
    (resolve a.eval (rangeCall g l) 0).run P w = .ok { target := .fn (.func k) y, args := x ++ #[.func (.yield l) #[] #[]] } w := by
  show (Deferred.ofValue (a.eval g) _).run P w = _
  rw [h]
  simp [Deferred.ofValue, rangeCall, Act.eval]

theorem rng_end {σ σ' : St} {e : Ex} {a : Act} {w3 : World} {μ μ2 : Mu} {S S2 : Stable} {i b cp : Nat} {H2 : Heap} {L2 : List Nat} {Q : Exit → Act → World → Prop} (h : rngOut σ i H2 L2 = some (e, σ'))
    (hm2 : μ2 i = some ⟨some b, cp⟩) (R2 : Rel μ2 S2 H2 B w0 w3) (AD : ∀ {H3 : Heap} (E : Ext μ2 S2 H2 μ2 S2 H3), AR N μ2 S2 ⟨σ.nt, σ.tmps, H3, L2⟩ a) (CT : Carry B μ S σ.heap μ2 S2 H2)
    (hK : ∀ w' μ' S', AR N μ' S' σ' a → Rel μ' S' σ'.heap B w0 w' → Carry B μ S σ.heap μ' S' σ'.heap → Q e.to a w') (u : Value) : rangePost (WF none) 0 P b Q a (.returned u) w3 := by
  unfold rngOut at h
  split at h
  · rename_i k' r' ts hH
    cases h
    obtain ⟨L, hL, hr1, hst, hvs⟩ := R2.loop hH hm2
    obtain ⟨R4, E4⟩ := R2.setLoop (st' := .over) (L' := { L with state := .exhausted }) hH hm2 hL ⟨rfl, rfl, rfl, rfl⟩ trivial
    refine ⟨none, _, ?_, hK _ μ2 S2 (AD E4) R4 (CT.trans (Carry.of E4))⟩
    rw [← hst.2]
    exact run_endLoop hL (by rw [hst.1]; simp)
  · rename_i k' r' j ts hH
    cases h
    obtain ⟨L, hL, hr1, hst, hvs⟩ := R2.loop hH hm2
    obtain ⟨R4, E4⟩ := R2.setLoop (st' := .over) (L' := { L with state := .exhausted }) hH hm2 hL ⟨rfl, rfl, rfl, rfl⟩ trivial
    refine ⟨some j.code, _, by rw [← hst.2]; exact run_endLoop hL (by rw [hst.1]; simp), ?_⟩
    have fin := hK _ μ2 S2 (AD E4) R4 (CT.trans (Carry.of E4))
    cases j with
    | ret => exact wpIn_ret fin
    | exit i => exact wpIn_exit fin
    | goto l => exact wpIn_goto fin
  · simp at h

omit [Glob] in
theorem callable_ok {k : Nat} (hcb : callable P k = true) : ∃ fn c, P.funcs[k]? = some fn ∧ fn.body = some c ∧ (fn.name == "runtime.NumGoroutine") = false := by
  unfold callable at hcb
  split at hcb
  · rename_i fn hfn
    split at hcb
    · rename_i c hc; exact ⟨fn, c, hfn, hc, by simpa using hcb⟩
    · simp at hcb
  · simp at hcb

omit [Glob] in
theorem invoke_fn {k : Nat} (hcb : callable P k = true) (x y : Array Value) (w : World) : (invoke (.fn (.func k) y) x).run P w = .ok (.enter k (x ++ y)) w := by
  obtain ⟨fn, cb, hfn, hbody, hname⟩ := callable_ok hcb
  simp only [invoke, callFunc, Sem.run_bind, Sem.run_pure, Result.andThen_ok, run_program, hfn, hname, Bool.false_eq_true, if_false, hbody, Option.isNone_some]

theorem exRange_ok {g : Operand} {ps : Array Tmp} {asn body : Code} {rf : Option Nat} {σ σ' : St} {e : Ex} {a : Act} {w : World} {μ : Mu} {S : Stable} {Q : Exit → Act → World → Prop} (hrf : rf ≠ none → rd = none) (hC : TabsOK P C) (hF : InlOK P F)
    (hg : RngOK P rf (.rangeFunc g ps asn body)) (h : exRange P F base rf g body σ = some (e, σ')) (hB : Bd σ) (A : AR N μ S σ a) (R : Rel μ S σ.heap B w0 w) (hsub : ∀ b o, N b = some o → S b = some o)
    (hK : ∀ a' w' μ' S', AR N μ' S' σ' a' → Rel μ' S' σ'.heap B w0 w' → Carry B μ S σ.heap μ' S' σ'.heap → Q e.to a' w') : (Code.rangeFunc g ps asn body).wpIn (WF rd) 0 P Q a w := by
  unfold exRange at h
  split at h
  case h_2 => simp at h
  rename_i fid k first caps r hgv hfr
  split at h
  case h_2 => simp at h
  rename_i x hx
  have hxe : x = (ps, asn, body) := hg fid rfl (ps, asn, body) (by simp [rangesOf]) r x (by simp [RCode.is, hfr]) hx
  subst hxe
  split at h
  case h_2 => simp at h
  rename_i σ1 i hin
  obtain ⟨hi0, e1⟩ := cond_some hin
  cases e1
  split at h
  case h_2 => simp at h
  rename_i v H2 L2 hcb hcall
  have hrd : rd = none := hrf (by simp)
  subst hrd
  have hv := A.val g
  rw [hgv] at hv
  simp only [VR] at hv
  obtain ⟨x1, y1, hge, hf1, hf2⟩ := hv
  have hi0 : σ.heap (site base r) = none := by simpa using hi0
  refine wpIn_rangeFunc fun fnid _ => ?_
  obtain ⟨μ1, S1, R1, CT1, hyv, hSD⟩ := rng_lay hC hx hi0 A R fnid
  refine ⟨w.heap.size + 1, _, _, _, _, k, _, _, run_enterLoop_outer fnid a.tmps ps asn body, resolve_range hge, fun _ _ => trivial, invoke_fn hcb _ _ _, fun h => (by cases h), callsIn_WF.2 ?_⟩
  have hB1 : ∀ q, upd σ.heap (site base r) (some (.loop fid r .ready (liveT σ (ps, asn, body)))) q ≠ none → q ∈ σ.ids ++ [site base r] := by
    intro q hq
    by_cases eq : q = site base r
    · subst eq; simp
    · rw [upd_ne _ _ eq] at hq; simp [hB q hq]
  have hvs : VRs μ1 S1 (upd σ.heap (site base r) (some (.loop fid r .ready (liveT σ (ps, asn, body))))) (first ++ [.yld (site base r)] ++ caps) (x1 ++ #[Value.func (.yield (w.heap.size + 1)) #[] #[]] ++ y1).toList := by
    simp only [Array.toList_append]
    exact VRs_append (VRs_append (CT1.vrs hf1) (by simp only [VRs]; exact ⟨_, [], rfl, hyv, rfl⟩)) (CT1.vrs hf2)
  have hrun := (hF _ _ _ _ _ _ _ _ hcall hB1).2 μ1 S1 B w0 _ _ R1 hvs
  clear hB1 hcall hF
  show RunC P μ1 (.fn k) _ _ _
  refine RunC.mono hrun ?_
  rintro e' w3 ⟨u, μ2, S2, rfl, q1, R2, C2⟩
  have hm2 := C2.vr _ _ hyv
  simp only [VR] at hm2
  obtain ⟨b, cp, hm2, _, heq⟩ := hm2
  injection heq with heq; injection heq with heq
  subst heq
  have CT := CT1.trans C2
  refine rng_end h hm2 R2 (fun {H3} E => ?_) CT (fun w' μ' S' => hK _ w' μ' S') u
  obtain ⟨ms, hms, hnd, hmk⟩ := A.defers
  refine ⟨⟨w.heap.size :: ms, by rw [hms]; rfl, List.nodup_cons.2 ⟨fun hD => ?_, hnd⟩, fun D hD => ?_⟩, A.size, fun t ht => VR_mono E _ _ (CT.vr _ _ (A.tmp t ht))⟩
  · have := R.st_lt (hmk _ hD).2; omega
  · rcases List.mem_cons.1 hD with rfl | hD
    · refine ⟨?_, C2.sub _ _ hSD⟩
      cases hn : N w.heap.size with
      | none => rfl
      | some o => have := R.st_lt (hsub _ _ hn); omega
    · exact ⟨(hmk _ hD).1, C2.sub _ _ (CT1.sub _ _ (hmk _ hD).2)⟩

/-- what is asked along a scope's way -/
def spineJ (F : Fence) (P : Program) (lf : Nat) (c : Code) (Q : Exit → Act → World → Prop) : Exit → Act → World → Prop :=
  match spineLab c with
  | some (l, r) => jumpQ l (scopeR F 0 P l r Q lf) Q
  | none => jumpQ 0 (scopeR F 0 P 0 .skip Q 0) Q

omit [Glob] in
theorem spineJ_of {F : Fence} {c : Code} {Q : Exit → Act → World → Prop} (e : Ex) (hne : ∀ l, e ≠ .goto l) (a : Act) (w : World) (h : Q e.to a w) : spineJ F P lf c Q e.to a w := by
  unfold spineJ
  cases spineLab c with
  | some q =>
    cases e with
    | goto l => exact absurd rfl (hne l)
    | _ => exact h
  | none =>
    cases e with
    | goto l => exact absurd rfl (hne l)
    | _ => exact h

def Code.isSeq : Code → Bool
  | .seq _ _ => true
  | _ => false

omit [Glob] in
theorem sc_same {Hn : Hints} {od : List Nat} {rf : Option Nat} {c : Code} {σ : St} (h : Code.isSeq c = false) : exCode P C Hn F lf base od rf true c σ = exCode P C Hn F lf base od rf false c σ := by
  cases c <;> first | rfl | (simp [Code.isSeq] at h)

omit [Glob] in
theorem flip_bd {l : Nat} {f : St → Option (Ex × St)} (hf : ∀ σ e σ', f σ = some (e, σ') → Bd σ → Bd σ') {σ : St} {e : Ex} {σ' : St} (h : flipE l (f σ) = some (e, σ')) (hB : Bd σ) : Bd σ' := by
  unfold flipE at h
  split at h
  · rename_i e1 σ1 h1
    split at h
    · cases h; exact hf _ _ _ h1 hB
    · simp at h
  · simp at h

/-- rounds by a label -/
theorem labLoop_ok {f : St → Option (Ex × St)} {y : Code} {l : Nat} (hf : ∀ σ e σ', f σ = some (e, σ') → Bd σ → Bd σ')
    (ih : ∀ (σ : St) (e : Ex) (σ' : St) (a : Act) (w : World) (μ : Mu) (S : Stable) (Q : Exit → Act → World → Prop), f σ = some (e, σ') → Bd σ → AR So μ S σ a → Rel μ S σ.heap B w0 w → Carry B μo So Ho μ S σ.heap →
      (∀ e1, flipX l e1 = some e → ∀ a' w' μ' S', AR So μ' S' σ' a' → Rel μ' S' σ'.heap B w0 w' → Carry B μo So Ho μ' S' σ'.heap → Q e1.to a' w') → y.wpIn (WF rd) 0 P Q a w) {Q : Exit → Act → World → Prop} :
    ∀ (n : Nat) (σ : St) (e : Ex) (σ' : St) (a : Act) (w : World) (μ : Mu) (S : Stable), exLoop n f σ = some (e, σ') → Bd σ → AR So μ S σ a → Rel μ S σ.heap B w0 w → Carry B μo So Ho μ S σ.heap →
      (∀ e3, unX e = some e3 → ∀ a' w' μ' S', AR So μ' S' σ' a' → Rel μ' S' σ'.heap B w0 w' → Carry B μo So Ho μ' S' σ'.heap → Q e3.to a' w') → y.wpIn (WF rd) 0 P (jumpQ l (scopeR (WF rd) 0 P l (.seq .skip y) Q n) Q) a w := by
  intro n
  induction n with
  | zero => intro σ e σ' a w μ S h; simp [exLoop] at h
  | succ n ihn =>
    intro σ e σ' a w μ S h hB A R Co hK
    simp only [exLoop] at h
    -- how a round's end is told
    have last : ∀ {e0 : Ex} {σ0 : St}, f σ = some (e0, σ0) → e0 = e → σ0 = σ' → e0 ≠ .nrm → y.wpIn (WF rd) 0 P (jumpQ l (scopeR (WF rd) 0 P l (.seq .skip y) Q (n + 1)) Q) a w := by
      intro e0 σ0 h1 he hσ hn
      subst he hσ
      refine ih σ _ _ a w μ S _ h1 hB A R Co fun e1 h1 a1 w1 μ1 S1 A1 R1 C1 => ?_
      cases e1 with
      | nrm =>
        simp only [flipX, Option.some.injEq] at h1
        subst h1
        exact hK .nrm (by simp [unX]) a1 w1 μ1 S1 A1 R1 C1
      | goto i =>
        simp only [flipX] at h1
        obtain ⟨_, h1⟩ := cond_some h1
        exact absurd h1.symm hn
      | exit i =>
        simp only [flipX] at h1
        obtain ⟨hi, h1⟩ := cond_no h1
        cases h1
        exact hK (.exit i) (by simp only [unX, hi, cond_false]) a1 w1 μ1 S1 A1 R1 C1
      | ret =>
        simp only [flipX, Option.some.injEq] at h1
        subst h1
        exact hK .ret rfl a1 w1 μ1 S1 A1 R1 C1
    split at h
    · rename_i σ1 h1
      refine ih σ .nrm σ1 a w μ S _ h1 hB A R Co fun e1 h2 a1 w1 μ1 S1 A1 R1 C1 => ?_
      cases e1 with
      | goto i =>
        simp only [flipX] at h2
        obtain ⟨hi, _⟩ := cond_some h2
        refine ⟨Nat.eq_of_beq_eq_true hi, ?_⟩
        show (Code.seq .skip y).wpIn (WF rd) 0 P _ a1 w1
        refine wpIn_seq (wpIn_skip ?_)
        exact ihn σ1 e σ' a1 w1 μ1 S1 h (hf _ _ _ h1 hB) A1 R1 C1 hK
      | nrm => simp [flipX] at h2
      | exit i =>
        simp only [flipX] at h2
        obtain ⟨_, h2⟩ := cond_no h2
        simp at h2
      | ret => simp [flipX] at h2
    · rename_i i σ1 h1; cases h; exact last h1 rfl rfl (by simp)
    · rename_i i σ1 h1; cases h; exact last h1 rfl rfl (by simp)
    · rename_i σ1 h1; cases h; exact last h1 rfl rfl (by simp)
    · simp at h

set_option maxHeartbeats 4000000 in
mutual
theorem exCode_ok {Hn : Hints} {od : List Nat} {rf : Option Nat} (hrf : rf ≠ none → rd = none) (hC : TabsOK P C) (hF : InlOK P F) (hod : ∀ i, μo i ≠ none → i ∈ od) :
    ∀ (c : Code), RngOK P rf c → ∀ (σ : St) (e : Ex) (σ' : St) (a : Act) (w : World) (μ : Mu) (S : Stable) (Q : Exit → Act → World → Prop),
    exCode P C Hn F lf base od rf false c σ = some (e, σ') → Bd σ → AR So μ S σ a → Rel μ S σ.heap B w0 w → Carry B μo So Ho μ S σ.heap →
    (∀ a' w' μ' S', AR So μ' S' σ' a' → Rel μ' S' σ'.heap B w0 w' → Carry B μo So Ho μ' S' σ'.heap → Q e.to a' w') → c.wpIn (WF rd) 0 P Q a w
  | .skip, hg, σ, e, σ', a, w, μ, S, Q, h, hB, A, R, Co, hK => by
    simp only [exCode] at h; cases h; exact wpIn_skip (hK a w μ S A R Co)
  | .region id ops draw, hg, σ, e, σ', a, w, μ, S, Q, h, hB, A, R, Co, hK => by
    simp only [exCode] at h
    split at h
    · rename_i σ1 h1
      cases h
      cases draw with
      | true => exact exAny_ok hC h1 A R fun a' w' μ' S' A' R' C' => hK a' w' μ' S' A' R' (Co.trans C')
      | false => exact wpIn_region (exOps_ok hC hF _ _ _ a w μ S h1 hB A R fun a' w' μ' S' A' R' C' => hK a' w' μ' S' A' R' (Co.trans C'))
    · simp at h
  | .seq x y, hg, σ, e, σ', a, w, μ, S, Q, h, hB, A, R, Co, hK => by
    simp only [exCode] at h
    refine wpIn_seq ?_
    split at h
    · rename_i σ1 h1
      refine exCode_ok hrf hC hF hod x hg.left σ .nrm σ1 a w μ S _ h1 hB A R Co fun a1 w1 μ1 S1 A1 R1 C1 => ?_
      exact exCode_ok hrf hC hF hod y hg.right σ1 e σ' a1 w1 μ1 S1 Q h (exCode_bd hF false x σ _ σ1 h1 hB) A1 R1 C1 hK
    · rename_i i σ1 h1; cases h; exact exCode_ok hrf hC hF hod x hg.left σ (.exit i) _ a w μ S _ h1 hB A R Co hK
    · rename_i i σ1 h1; cases h; exact exCode_ok hrf hC hF hod x hg.left σ (.goto i) _ a w μ S _ h1 hB A R Co hK
    · rename_i σ1 h1; cases h; exact exCode_ok hrf hC hF hod x hg.left σ .ret _ a w μ S _ h1 hB A R Co hK
    · simp at h
  | .cond c x y, hg, σ, e, σ', a, w, μ, S, Q, h, hB, A, R, Co, hK => by
    simp only [exCode] at h
    split at h
    · rename_i b hb
      have hv := A.val c
      rw [hb] at hv
      simp only [VR] at hv
      refine wpIn_cond hv ?_
      cases b with
      | true => exact exCode_ok hrf hC hF hod x hg.cleft σ e σ' a w μ S Q h hB A R Co hK
      | false => exact exCode_ok hrf hC hF hod y hg.cright σ e σ' a w μ S Q h hB A R Co hK
    · simp at h
  | .block id x, hg, σ, e, σ', a, w, μ, S, Q, h, hB, A, R, Co, hK => by
    simp only [exCode] at h
    refine wpIn_block ?_
    split at h
    · rename_i i σ1 h1
      refine exCode_ok hrf hC hF hod x hg.block σ (.exit i) σ1 a w μ S _ h1 hB A R Co fun a1 w1 μ1 S1 A1 R1 C1 => ?_
      simp only [Ex.to, Exit.inBlock]
      cases hb : Nat.beq i id with
      | true =>
        rw [hb] at h; simp only [cond_true, Option.some.injEq, Prod.mk.injEq] at h
        obtain ⟨rfl, rfl⟩ := h
        rw [if_pos (Nat.eq_of_beq_eq_true hb)]
        exact hK a1 w1 μ1 S1 A1 R1 C1
      | false =>
        rw [hb] at h; simp only [cond_false, Option.some.injEq, Prod.mk.injEq] at h
        obtain ⟨rfl, rfl⟩ := h
        rw [if_neg (fun e => by subst e; simp at hb)]
        exact hK a1 w1 μ1 S1 A1 R1 C1
    · rename_i r hne
      refine exCode_ok hrf hC hF hod x hg.block σ e σ' a w μ S _ h hB A R Co fun a1 w1 μ1 S1 A1 R1 C1 => ?_
      have := hK a1 w1 μ1 S1 A1 R1 C1
      cases e with
      | exit i => exact absurd h (hne i σ')
      | _ => exact this
  | .loop x, hg, σ, e, σ', a, w, μ, S, Q, h, hB, A, R, Co, hK => by
    simp only [exCode] at h
    have main : ∀ (σ2 : St), exLoop lf (exRound od (hintOf Hn base x) (exCode P C Hn F lf base od rf false x)) σ = some (e, σ2) →
        (∀ a' w' μ' S', AR So μ' S' σ2 a' → Rel μ' S' σ2.heap B w0 w' → Carry B μo So Ho μ' S' σ2.heap → Q e.to a' w') → (Code.loop x).wpIn (WF rd) 0 P Q a w := by
      intro σ2 h hK
      refine wpIn_loop_rounds lf (exLoop_ok (μo := μo) (So := So) (Ho := Ho) (fun σ e σ' h hB => ?_) (fun σ e σ' a w μ S Q h hB A R Co hK => ?_) lf σ e σ2 a w μ S Q h hB A R Co hK)
      · unfold exRound at h
        split at h
        · exact exCode_bd hF false x σ e σ' h hB
        · split at h
          · rename_i σ1 h1; exact exCode_bd hF false x σ1 e σ' h (head_bd h1)
          · simp at h
      · unfold exRound at h
        split at h
        · exact exCode_ok hrf hC hF hod x hg.loop σ e σ' a w μ S Q h hB A R Co hK
        · split at h
          · rename_i σ1 h1
            obtain ⟨μ1, A1, R1, C1, B1⟩ := head_ok h1 A R hod Co
            exact exCode_ok hrf hC hF hod x hg.loop σ1 e σ' a w μ1 S Q h B1 A1 R1 C1 hK
          · simp at h
    rcases exOut_cases h with h | ⟨σ2, h', h, hh⟩
    · exact main σ' h hK
    · refine main σ2 h fun a' w' μ' S' A' R' C' => ?_
      obtain ⟨μ1, A1, R1, C1, B1⟩ := head_ok hh A' R' hod C'
      exact hK a' w' μ1 S' A1 R1 C1
  | .exit id, hg, σ, e, σ', a, w, μ, S, Q, h, hB, A, R, Co, hK => by
    simp only [exCode] at h; cases h; exact wpIn_exit (hK a w μ S A R Co)
  | .label l, hg, σ, e, σ', a, w, μ, S, Q, h, hB, A, R, Co, hK => by
    simp only [exCode] at h; cases h; exact wpIn_label (hK a w μ S A R Co)
  | .ret, hg, σ, e, σ', a, w, μ, S, Q, h, hB, A, R, Co, hK => by
    simp only [exCode] at h; cases h; exact wpIn_ret (hK a w μ S A R Co)
  | .rangeFunc g ps asn body, hg, σ, e, σ', a, w, μ, S, Q, h, hB, A, R, Co, hK => by
    simp only [exCode] at h
    exact exRange_ok hrf hC hF hg h hB A R Co.sub fun a' w' μ' S' A' R' C' => hK a' w' μ' S' A' R' (Co.trans C')
  | .scope x, hg, σ, e, σ', a, w, μ, S, Q, h, hB, A, R, Co, hK => by
    simp only [exCode] at h
    cases hs : spineOK x with
    | false => rw [hs] at h; simp at h
    | true =>
    rw [hs] at h
    simp only [cond_true] at h
    unfold noGoto at h
    split at h
    · simp at h
    · rename_i hne
      have := exSpine_ok hrf hC hF hod x hg.scope σ e σ' a w μ S Q h (fun l he => by subst he; exact hne _ _ h) hB A R Co hK
      unfold spineJ at this
      split at this
      · rename_i l r hl
        exact wpIn_scope_rounds lf (fun _ => spine_find hs hl) this
      · exact wpIn_scope_rounds (l := 0) (r := .skip) 0 (fun h => absurd h (by omega)) this
  | .goto l, hg, σ, e, σ', a, w, μ, S, Q, h, hB, A, R, Co, hK => by
    simp only [exCode] at h; cases h; exact wpIn_goto (hK a w μ S A R Co)
  | .refuse _, hg, σ, e, σ', a, w, μ, S, Q, h, hB, A, R, Co, hK => by simp [exCode] at h
theorem exSpine_ok {Hn : Hints} {od : List Nat} {rf : Option Nat} (hrf : rf ≠ none → rd = none) (hC : TabsOK P C) (hF : InlOK P F) (hod : ∀ i, μo i ≠ none → i ∈ od) :
    ∀ (c : Code), RngOK P rf c → ∀ (σ : St) (e : Ex) (σ' : St) (a : Act) (w : World) (μ : Mu) (S : Stable) (Q : Exit → Act → World → Prop),
    exCode P C Hn F lf base od rf true c σ = some (e, σ') → (∀ l, e ≠ .goto l) → Bd σ → AR So μ S σ a → Rel μ S σ.heap B w0 w → Carry B μo So Ho μ S σ.heap →
    (∀ a' w' μ' S', AR So μ' S' σ' a' → Rel μ' S' σ'.heap B w0 w' → Carry B μo So Ho μ' S' σ'.heap → Q e.to a' w') → c.wpIn (WF rd) 0 P (spineJ (WF rd) P lf c Q) a w
  | .seq x y, hg, σ, e, σ', a, w, μ, S, Q, h, hne, hB, A, R, Co, hK => by
    simp only [exCode] at h
    cases hl : labOf x with
    | some l =>
      rw [hl] at h
      have hx := labOf_eq hl
      subst hx
      have hJ : spineJ (WF rd) P lf (.seq (.label l) y) Q = jumpQ l (scopeR (WF rd) 0 P l (.seq .skip y) Q lf) Q := rfl
      rw [hJ]
      refine wpIn_seq (wpIn_label ?_)
      simp only at h
      show y.wpIn (WF rd) 0 P _ a w
      have main : ∀ (σ2 : St) (e2 : Ex), exLoop lf (exRound od (hintOf Hn base y) fun σ => flipE l (exCode P C Hn F lf base od rf false y σ)) σ = some (e2, σ2) →
          (∀ e3, unX e2 = some e3 → ∀ a' w' μ' S', AR So μ' S' σ2 a' → Rel μ' S' σ2.heap B w0 w' → Carry B μo So Ho μ' S' σ2.heap → Q e3.to a' w') → y.wpIn (WF rd) 0 P (jumpQ l (scopeR (WF rd) 0 P l (.seq .skip y) Q lf) Q) a w := by
        intro σ2 e2 h hK
        refine labLoop_ok (μo := μo) (So := So) (Ho := Ho) (f := exRound od (hintOf Hn base y) fun σ => flipE l (exCode P C Hn F lf base od rf false y σ)) (fun σ e σ' h hB => ?_) (fun σ e σ' a w μ S Q h hB A R Co hK => ?_) lf σ e2 σ2 a w μ S h hB A R Co hK
        · unfold exRound at h
          split at h
          · exact flip_bd (fun σ e σ' => exCode_bd hF false y σ e σ') h hB
          · split at h
            · rename_i σ1 h1; exact flip_bd (fun σ e σ' => exCode_bd hF false y σ e σ') h (head_bd h1)
            · simp at h
        · have go : ∀ (σ : St) (μ : Mu), flipE l (exCode P C Hn F lf base od rf false y σ) = some (e, σ') → Bd σ → AR So μ S σ a → Rel μ S σ.heap B w0 w → Carry B μo So Ho μ S σ.heap → y.wpIn (WF rd) 0 P Q a w := by
            intro σ μ h hB A R Co
            unfold flipE at h
            split at h
            · rename_i e1 σ1 h1
              split at h
              · rename_i e4 h4
                cases h
                exact exCode_ok hrf hC hF hod y hg.right σ e1 _ a w μ S Q h1 hB A R Co fun a' w' μ' S' A' R' C' => hK e1 h4 a' w' μ' S' A' R' C'
              · simp at h
            · simp at h
          unfold exRound at h
          split at h
          · exact go σ μ h hB A R Co
          · split at h
            · rename_i σ1 h1
              obtain ⟨μ1, A1, R1, C1, B1⟩ := head_ok h1 A R hod Co
              exact go σ1 μ1 h B1 A1 R1 C1
            · simp at h
      unfold unflip at h
      split at h
      · rename_i e1 σ1 h1
        split at h
        · rename_i e2 h2
          cases h
          rcases exOut_cases h1 with h | ⟨σ2, h', h, hh⟩
          · exact main _ _ h fun e3 h3 => by rw [h2] at h3; cases h3; exact hK
          · refine main σ2 _ h fun e3 h3 a' w' μ' S' A' R' C' => ?_
            rw [h2] at h3; cases h3
            obtain ⟨μ1, A1, R1, C1, B1⟩ := head_ok hh A' R' hod C'
            exact hK a' w' μ1 S' A1 R1 C1
        · simp at h
      · simp at h
    | none =>
      rw [hl] at h
      simp only at h
      have hJ : spineJ (WF rd) P lf (.seq x y) Q = spineJ (WF rd) P lf y Q := by unfold spineJ; simp only [spineLab, hl]
      rw [hJ]
      have hQ : ∀ e : Ex, (∀ l, e ≠ .goto l) → ∀ a w, Q e.to a w → spineJ (WF rd) P lf y Q e.to a w := spineJ_of
      refine wpIn_seq ?_
      split at h
      · rename_i σ1 h1
        refine exCode_ok hrf hC hF hod x hg.left σ .nrm σ1 a w μ S _ h1 hB A R Co fun a1 w1 μ1 S1 A1 R1 C1 => ?_
        exact exSpine_ok hrf hC hF hod y hg.right σ1 e σ' a1 w1 μ1 S1 Q h hne (exCode_bd hF false x σ _ σ1 h1 hB) A1 R1 C1 hK
      · rename_i i σ1 h1; cases h; exact exCode_ok hrf hC hF hod x hg.left σ (.exit i) _ a w μ S _ h1 hB A R Co fun a' w' μ' S' A' R' C' => hQ (.exit i) hne _ _ (hK a' w' μ' S' A' R' C')
      · rename_i σ1 h1; cases h; exact exCode_ok hrf hC hF hod x hg.left σ .ret _ a w μ S _ h1 hB A R Co fun a' w' μ' S' A' R' C' => hQ .ret hne _ _ (hK a' w' μ' S' A' R' C')
      · simp at h
  | .skip, hg, σ, e, σ', a, w, μ, S, Q, h, hne, hB, A, R, Co, hK => exCode_ok hrf hC hF hod (.skip) hg σ e σ' a w μ S _ (by rw [← sc_same (by rfl)]; exact h) hB A R Co fun a' w' μ' S' A' R' C' => spineJ_of e hne _ _ (hK a' w' μ' S' A' R' C')
  | .region i o d, hg, σ, e, σ', a, w, μ, S, Q, h, hne, hB, A, R, Co, hK => exCode_ok hrf hC hF hod (.region i o d) hg σ e σ' a w μ S _ (by rw [← sc_same (by rfl)]; exact h) hB A R Co fun a' w' μ' S' A' R' C' => spineJ_of e hne _ _ (hK a' w' μ' S' A' R' C')
  | .cond i x y, hg, σ, e, σ', a, w, μ, S, Q, h, hne, hB, A, R, Co, hK => exCode_ok hrf hC hF hod (.cond i x y) hg σ e σ' a w μ S _ (by rw [← sc_same (by rfl)]; exact h) hB A R Co fun a' w' μ' S' A' R' C' => spineJ_of e hne _ _ (hK a' w' μ' S' A' R' C')
  | .block i x, hg, σ, e, σ', a, w, μ, S, Q, h, hne, hB, A, R, Co, hK => exCode_ok hrf hC hF hod (.block i x) hg σ e σ' a w μ S _ (by rw [← sc_same (by rfl)]; exact h) hB A R Co fun a' w' μ' S' A' R' C' => spineJ_of e hne _ _ (hK a' w' μ' S' A' R' C')
  | .loop x, hg, σ, e, σ', a, w, μ, S, Q, h, hne, hB, A, R, Co, hK => exCode_ok hrf hC hF hod (.loop x) hg σ e σ' a w μ S _ (by rw [← sc_same (by rfl)]; exact h) hB A R Co fun a' w' μ' S' A' R' C' => spineJ_of e hne _ _ (hK a' w' μ' S' A' R' C')
  | .exit i, hg, σ, e, σ', a, w, μ, S, Q, h, hne, hB, A, R, Co, hK => exCode_ok hrf hC hF hod (.exit i) hg σ e σ' a w μ S _ (by rw [← sc_same (by rfl)]; exact h) hB A R Co fun a' w' μ' S' A' R' C' => spineJ_of e hne _ _ (hK a' w' μ' S' A' R' C')
  | .label i, hg, σ, e, σ', a, w, μ, S, Q, h, hne, hB, A, R, Co, hK => exCode_ok hrf hC hF hod (.label i) hg σ e σ' a w μ S _ (by rw [← sc_same (by rfl)]; exact h) hB A R Co fun a' w' μ' S' A' R' C' => spineJ_of e hne _ _ (hK a' w' μ' S' A' R' C')
  | .ret, hg, σ, e, σ', a, w, μ, S, Q, h, hne, hB, A, R, Co, hK => exCode_ok hrf hC hF hod (.ret) hg σ e σ' a w μ S _ (by rw [← sc_same (by rfl)]; exact h) hB A R Co fun a' w' μ' S' A' R' C' => spineJ_of e hne _ _ (hK a' w' μ' S' A' R' C')
  | .rangeFunc g p x y, hg, σ, e, σ', a, w, μ, S, Q, h, hne, hB, A, R, Co, hK => exCode_ok hrf hC hF hod (.rangeFunc g p x y) hg σ e σ' a w μ S _ (by rw [← sc_same (by rfl)]; exact h) hB A R Co fun a' w' μ' S' A' R' C' => spineJ_of e hne _ _ (hK a' w' μ' S' A' R' C')
  | .scope x, hg, σ, e, σ', a, w, μ, S, Q, h, hne, hB, A, R, Co, hK => exCode_ok hrf hC hF hod (.scope x) hg σ e σ' a w μ S _ (by rw [← sc_same (by rfl)]; exact h) hB A R Co fun a' w' μ' S' A' R' C' => spineJ_of e hne _ _ (hK a' w' μ' S' A' R' C')
  | .goto i, hg, σ, e, σ', a, w, μ, S, Q, h, hne, hB, A, R, Co, hK => exCode_ok hrf hC hF hod (.goto i) hg σ e σ' a w μ S _ (by rw [← sc_same (by rfl)]; exact h) hB A R Co fun a' w' μ' S' A' R' C' => spineJ_of e hne _ _ (hK a' w' μ' S' A' R' C')
  | .refuse i, hg, σ, e, σ', a, w, μ, S, Q, h, hne, hB, A, R, Co, hK => exCode_ok hrf hC hF hod (.refuse i) hg σ e σ' a w μ S _ (by rw [← sc_same (by rfl)]; exact h) hB A R Co fun a' w' μ' S' A' R' C' => spineJ_of e hne _ _ (hK a' w' μ' S' A' R' C')
end
end

def resSem (tmps : Array Value) : ResultVar → Sem Value
  | .tmp t => pure (tmps.getD t undef)
  | .cell x t => do loadVar t (← asAddr (tmps.getD x undef))

theorem resOf_ok {σ : St} {a : Act} {w : World} {μ : Mu} {S : Stable} (A : AR N μ S σ a) (R : Rel μ S σ.heap B w0 w) {r : ResultVar} {v : AV} (h : resOf P σ r = some v) :
    ∃ u, (resSem a.tmps r).run P w = .ok u w ∧ VR μ S σ.heap v u := by
  cases r with
  | tmp t =>
    obtain ⟨h1, rfl⟩ := cond_some h
    exact ⟨_, rfl, A.tmp t (of_ltN h1)⟩
  | cell x t =>
    simp only [resOf] at h
    split at h
    · rename_i i off hx
      split at h
      · rename_i t' cs hH
        have hv := A.val (.tmp x)
        rw [hx] at hv
        simp only [VR] at hv
        obtain ⟨b, c, hm, _, e⟩ := hv
        obtain ⟨vs, hb, hvs⟩ := box_cells R hH hm
        obtain ⟨u, hu, hv⟩ := cut_loadVar (P := P) (w := w) (ad := ⟨b, 0, none⟩) hvs (fun j u hj => by rw [plain_add, Nat.zero_add, cell_of hb]; simpa using hj) h
        rw [plain_add, Nat.zero_add] at hu
        have e' : a.tmps.getD x undef = .pointer (some ⟨b, off, none⟩) := e
        refine ⟨u, ?_, hv⟩
        simp only [resSem, e', asAddr, Sem.run_bind, Sem.run_pure, Result.andThen_ok, hu]
      · simp at h
    · simp at h

theorem resAll_ok {σ : St} {a : Act} {w : World} {μ : Mu} {S : Stable} (A : AR N μ S σ a) (R : Rel μ S σ.heap B w0 w) : ∀ {rs : List ResultVar} {vs : List AV}, resAll P σ rs = some vs →
    ∃ us, (rs.mapM (resSem a.tmps)).run P w = .ok us w ∧ VRs μ S σ.heap vs us
  | [], vs, h => by
    simp only [resAll, Option.some.injEq] at h; subst h
    exact ⟨[], by simp, by simp [VRs]⟩
  | r :: rs, vs, h => by
    simp only [resAll] at h
    split at h
    · rename_i v vs' h1 h2
      cases h
      obtain ⟨u, k1, k2⟩ := resOf_ok A R h1
      obtain ⟨us, q1, q2⟩ := resAll_ok A R h2
      refine ⟨u :: us, ?_, by simp only [VRs]; exact ⟨u, us, rfl, k2, q2⟩⟩
      rw [List.mapM_cons]
      simp only [Sem.run_bind, k1, q1, Result.andThen_ok, Sem.run_pure]
    · simp at h

theorem results_ok {fn : Func} {σ : St} {a : Act} {w : World} {μ : Mu} {S : Stable} (A : AR N μ S σ a) (R : Rel μ S σ.heap B w0 w) {vs : List AV} (h : resAll P σ fn.results.toList = some vs) :
    ∃ u, (results fn a.tmps).run P w = .ok u w ∧ VR μ S σ.heap (resAV vs) u := by
  obtain ⟨us, h1, h2⟩ := resAll_ok A R h
  refine ⟨resVal us, ?_, resAV_VR h2⟩
  have e : results fn a.tmps = (do
      let vs ← fn.results.mapM (resSem a.tmps)
      pure (if h : vs.size = 1 then vs[0] else .tuple vs)) := by
    unfold results
    congr 1
    all_goals (congr 1; try (funext r; cases r <;> rfl))
  rw [e, Array.mapM_eq_mapM_toList]
  simp only [Sem.run_bind, Sem.run_map, Result.andThen_ok, h1, Sem.run_pure]
  match us with
  | [] => rfl
  | [u] => rfl
  | u :: v :: us => simp [resVal]

omit [Glob] in
theorem nthAV_VR {μ : Mu} {S : Stable} {H : Heap} : ∀ {as : List AV} {vs : List Value}, VRs μ S H as vs → ∀ t, VR μ S H (nthAV as t) (vs.getD t undef)
  | [], vs, h, t => by simp only [VRs] at h; subst h; simp [nthAV, VR]
  | a :: as, vs, h, t => by
    simp only [VRs] at h
    obtain ⟨v, r, rfl, h1, h2⟩ := h
    cases t with
    | zero => simpa [nthAV] using h1
    | succ t => simpa [nthAV] using nthAV_VR h2 t

omit [Glob] in
theorem exRnd_bd {i k r : Nat} {f g : St → Option (Ex × St)} {σ : St} {v : AV} {H' : Heap} {L' : List Nat} (hf : ∀ σ e σ', f σ = some (e, σ') → Bd σ → Bd σ') (hg : ∀ σ e σ', g σ = some (e, σ') → Bd σ → Bd σ')
    (h : exRnd i k r f g σ = some (v, H', L')) (hB : Bd σ) : ∀ q, H' q ≠ none → q ∈ L' := by
  unfold exRnd at h
  split at h
  · rename_i σ1 h1
    split at h
    · rename_i σ2 h2
      split at h
      · rename_i e σ3 h3
        have B1 := hf _ _ _ h1 hB
        have B2 : Bd σ2 := by
          unfold rndBusy at h2
          split at h2
          · rename_i hH
            obtain ⟨_, e2⟩ := cond_some h2
            cases e2
            intro q hq
            by_cases eq : q = i
            · subst eq; exact B1 q (by rw [hH]; simp)
            · simp only at hq; rw [upd_ne _ _ eq] at hq; exact B1 q hq
          · simp at h2
        have B3 := hg _ _ _ h3 B2
        unfold rndOut at h
        split at h
        · rename_i hH
          obtain ⟨_, e2⟩ := cond_some h
          cases e2
          intro q hq
          by_cases eq : q = i
          · subst eq; exact B3 q (by rw [hH]; simp)
          · rw [upd_ne _ _ eq] at hq; exact B3 q hq
        · simp at h
      · simp at h
    · simp at h
  · simp at h

theorem exFun_bd {Hn : Hints} : ∀ n id k as H L v H' L', InlOK P (exFun P C Hn lf n) → exFun P C Hn lf (n + 1) id k as H L = some (v, H', L') → (∀ q, H q ≠ none → q ∈ L) → ∀ q, H' q ≠ none → q ∈ L' := by
  intro n id k as H L v H' L' hF h hB
  cases k with
  | fn k =>
    simp only [exFun] at h
    split at h
    · rename_i fn hfn
      split at h
      · rename_i c hc
        cases hle : Nat.ble as.length fn.ntmps with
        | false => rw [hle] at h; simp at h
        | true =>
          rw [hle] at h
          simp only [cond_true] at h
          unfold exEnd at h
          split at h
          · rename_i σ he
            split at h
            · cases h; exact exCode_bd hF false c _ _ σ he hB
            · simp at h
          · rename_i σ he
            split at h
            · cases h; exact exCode_bd hF false c _ _ σ he hB
            · simp at h
          · simp at h
      · simp at h
    · simp at h
  | yld i =>
    simp only [exFun] at h
    split at h
    · rename_i k r x σ hin
      have hB0 : Bd σ := by
        unfold rndIn at hin
        split at hin
        · split at hin
          · obtain ⟨_, e1⟩ := cond_some hin
            cases e1
            exact hB
          · simp at hin
        · simp at hin
      exact exRnd_bd (fun σ e σ' h hB => exCode_bd hF false _ σ e σ' h hB) (fun σ e σ' h hB => exCode_bd hF false _ σ e σ' h hB) h hB0
    · simp at h

theorem Rel.ids {μ : Mu} {S : Stable} {H : Heap} {w : World} {L : List Nat} (R : Rel μ S H B w0 w) (hBd : ∀ q, H q ≠ none → q ∈ L) : ∀ i, μ i ≠ none → i ∈ L := fun i hi => hBd i (fun h => by
  have := R.dom i
  rw [h] at this
  cases hm : μ i with
  | none => exact hi hm
  | some l => rw [hm] at this; simp at this)

theorem exFun_fn {Hn : Hints} (hC : TabsOK P C) {n : Nat} (ih : InlOK P (exFun P C Hn lf n)) {id k : Nat} {as : List AV} {H H' : Heap} {L L' : List Nat} {v : AV} (h : exFun P C Hn lf (n + 1) id (.fn k) as H L = some (v, H', L')) (hBd : ∀ q, H q ≠ none → q ∈ L)
    {μ : Mu} {S : Stable} {B : Nat} {w0 w : World} {us : Array Value} (R : Rel μ S H B w0 w) (hv : VRs μ S H as us.toList) :
    Calls P k us w fun e w' => ∃ u μ' S', e = .returned u ∧ VR μ' S' H' v u ∧ Rel μ' S' H' B w0 w' ∧ Carry B μ S H μ' S' H' := by
  simp only [exFun] at h
  split at h
  case h_2 => simp at h
  rename_i fn hfn
  split at h
  case h_2 => simp at h
  rename_i c hc
  cases hle : Nat.ble as.length fn.ntmps with
  | false => rw [hle] at h; simp at h
  | true =>
    rw [hle] at h
    simp only [cond_true] at h
    have hle := Nat.le_of_ble_eq_true hle
    have hlen := VRs_length hv
    simp only [Array.length_toList] at hlen
    refine (callsIn_WF (r := none) (n := 0)).1 (callsIn_of_wp_marks hfn hc trivial ?_ rfl)
    have A0 : AR S μ S ⟨fn.ntmps, nthAV as, H, L⟩ { tmps := us ++ Array.replicate (fn.ntmps - us.size) undef, defers := [] } := by
      refine ⟨⟨[], rfl, List.nodup_nil, by simp⟩, by simp; omega, fun t ht => ?_⟩
      have := nthAV_VR hv t
      rw [List.getD_eq_getElem?_getD] at this
      rw [Array.getD_eq_getD_getElem?]
      by_cases hlt : t < us.size
      · rw [Array.getElem?_append_left hlt]; simpa using this
      · rw [Array.getElem?_append_right (by omega), Array.getElem?_replicate]
        have e1 : us.toList[t]? = none := by rw [List.getElem?_eq_none]; simp; omega
        rw [e1] at this
        have : t - us.size < fn.ntmps - us.size := by simp only at ht; omega
        rw [if_pos this]; assumption
    have hod := R.ids hBd
    have fin : ∀ (e : Ex) (σ : St), exCode P C Hn (exFun P C Hn lf n) lf (Nat.succ id * 4294967296) L (some k) false c ⟨fn.ntmps, nthAV as, H, L⟩ = some (e, σ) → e.to = .normal ∨ e.to = .ret →
        (∃ vs, resAll P σ fn.results.toList = some vs ∧ v = resAV vs ∧ H' = σ.heap) →
        c.wpIn (WF none) 0 P (bodyPostM (WF none) 0 P fn fun e w' => ∃ u μ' S', e = .returned u ∧ VR μ' S' H' v u ∧ Rel μ' S' H' B w0 w' ∧ Carry B μ S H μ' S' H') { tmps := us ++ Array.replicate (fn.ntmps - us.size) undef, defers := [] } w := by
      rintro e σ he hex ⟨vs, hvs, rfl, rfl⟩
      refine exCode_ok (μo := μ) (So := S) (Ho := H) (fun _ => rfl) hC ih hod c (.top hfn hc) _ e σ _ w μ S _ he hBd A0 R Carry.refl fun a' w' μ' S' A' R' C' => ?_
      have main : LeavesInM (WF none) 0 P fn a'.tmps (fun e w' => ∃ u μ' S', e = .returned u ∧ VR μ' S' σ.heap (resAV vs) u ∧ Rel μ' S' σ.heap B w0 w' ∧ Carry B μ S H μ' S' σ.heap) a'.defers .returning w' := by
        obtain ⟨ms, hms, hmk⟩ := A'.defers
        rw [hms]
        refine leaves_marks R.pre ms S' w' R' hmk C'.sub (fun D hD => ?_) fun S2 w2 R2 hc2 hs2 hn2 => ?_
        · rcases C'.st D (by rw [(hmk.2 D hD).2]; simp) with h | h
          · exact absurd (hmk.2 D hD).1 h
          · exact h
        · have A2 : AR S μ' S2 σ { tmps := a'.tmps, defers := [] } := ⟨⟨[], rfl, List.nodup_nil, by simp⟩, A'.size, fun t ht => VR_cells hc2 _ _ (A'.tmp t ht)⟩
          obtain ⟨u, k1, k2⟩ := results_ok A2 R2 hvs
          exact ⟨u, k1, u, μ', S2, rfl, k2, R2, fun a v h => VR_cells hc2 _ _ (C'.vr a v h), fun b hb => C'.st b (hn2 b hb), hs2⟩
      rcases hex with hex | hex <;> rw [hex] <;> exact main
    unfold exEnd at h
    split at h
    · rename_i σ he
      split at h
      · rename_i vs hvs; cases h; exact fin .nrm σ he (.inl rfl) ⟨vs, hvs, rfl, rfl⟩
      · simp at h
    · rename_i σ he
      split at h
      · rename_i vs hvs; cases h; exact fin .ret σ he (.inr rfl) ⟨vs, hvs, rfl, rfl⟩
      · simp at h
    · simp at h

theorem exFun_yld {Hn : Hints} (hC : TabsOK P C) {n : Nat} (ih : InlOK P (exFun P C Hn lf n)) {id i : Nat} {as : List AV} {H H' : Heap} {L L' : List Nat} {v : AV} (h : exFun P C Hn lf (n + 1) id (.yld i) as H L = some (v, H', L')) (hBd : ∀ q, H q ≠ none → q ∈ L)
    {μ : Mu} {S : Stable} {B : Nat} {w0 w : World} {us : Array Value} (R : Rel μ S H B w0 w) (hv : VRs μ S H as us.toList) :
    RunC P μ (.yld i) us w fun e w' => ∃ u μ' S', e = .returned u ∧ VR μ' S' H' v u ∧ Rel μ' S' H' B w0 w' ∧ Carry B μ S H μ' S' H' := by
  simp only [exFun] at h
  split at h
  case h_2 => simp at h
  rename_i k r x σ hin
  intro b cp hm
  unfold rndIn at hin
  split at hin
  case h_2 => simp at hin
  rename_i k r ts hH
  split at hin
  case h_2 => simp at hin
  rename_i x hx
  obtain ⟨hps, e1⟩ := cond_some hin
  cases e1
  obtain ⟨Lp, hL, hrng, hst, hvs⟩ := R.loop hH hm
  rw [hC.2.2, hx, Option.some.injEq] at hrng
  have hlen := VRs_length hv
  simp only [Array.length_toList] at hlen
  have hps := Nat.eq_of_beq_eq_true hps
  have hsz : us.size = Lp.params.size := by rw [← hlen, ← hps, hrng]
  have hyv : VR μ S H (.yld i) (.func (.yield b) #[] #[]) := by
    simp only [VR]
    exact ⟨b, cp, hm, fun t e g xs h => by rw [hH] at h; simp at h, rfl⟩
  have getμ : ∀ {μ' : Mu} {S' : Stable} {H' : Heap}, Carry B μ S H μ' S' H' → ∃ c, μ' i = some ⟨some b, c⟩ := by
    intro μ' S' H' hc
    have := hc.vr _ _ hyv
    simp only [VR] at this
    obtain ⟨b', c', h1, _, h2⟩ := this
    injection h2 with h2; injection h2 with h2
    subst h2
    exact ⟨c', h1⟩
  refine ⟨Lp.fn, _, Lp.assign, Lp.body, run_yield hL hsz, roundIn_of_wpIn trivial ?_⟩
  have hT : VRs μ S H (setPs ts x.1.toList as) ((Lp.params.zip us).foldl (fun tmps (t, a) => tmps.setIfInBounds t a) Lp.tmps).toList := by
    have := setPs_VRs (ps := x.1.toList) hvs hv
    rw [← Array.foldl_toList, Array.toList_zip, ← show x.1 = Lp.params by rw [hrng]]
    exact this
  have hsl : ∀ (ts : List AV) (ps : List Tmp) (as : List AV), (setPs ts ps as).length = ts.length := by
    intro ts ps
    induction ps generalizing ts with
    | nil => intro as; cases as <;> rfl
    | cons p ps ihp =>
      intro as
      cases as with
      | nil => rfl
      | cons a as => simp only [setPs]; rw [ihp]; simp
  have A0 : AR S μ S ⟨ts.length, nthAV (setPs ts x.1.toList as), H, L⟩ { tmps := (Lp.params.zip us).foldl (fun tmps (t, a) => tmps.setIfInBounds t a) Lp.tmps, defers := [] } := by
    refine ⟨⟨[], rfl, List.nodup_nil, by simp⟩, ?_, fun t ht => ?_⟩
    · have := VRs_length hT
      rw [hsl] at this
      simpa using this.symm
    · have := nthAV_VR hT t
      rw [List.getD_eq_getElem?_getD, Array.getElem?_toList] at this
      rw [Array.getD_eq_getD_getElem?]
      exact this
  have hod := R.ids hBd
  unfold exRnd at h
  split at h
  case h_2 => simp at h
  rename_i σ1 h1
  split at h
  case h_2 => simp at h
  rename_i σ2 h2
  split at h
  case h_2 => simp at h
  rename_i e σ3 h3
  have ea : x.2.1 = Lp.assign := by rw [hrng]
  have eb : x.2.2 = Lp.body := by rw [hrng]
  rw [← ea, ← eb]
  have hB0 : Bd ⟨ts.length, nthAV (setPs ts x.1.toList as), H, L⟩ := hBd
  have hB1 := exCode_bd ih false _ _ _ _ h1 hB0
  refine exCode_ok (rd := some b) (μo := μ) (So := S) (Ho := H) (fun h => absurd rfl h) hC ih hod x.2.1 .none _ .nrm σ1 _ w μ S _ h1 hBd A0 R Carry.refl fun a1 w1 μ1 S1 A1 R1 C1 => ?_
  unfold rndBusy at h2
  split at h2
  case h_2 => simp at h2
  rename_i k' r' ts1 hH1
  obtain ⟨hkr, e2⟩ := cond_some h2
  cases e2
  simp only [Bool.and_eq_true] at hkr
  have ek := Nat.eq_of_beq_eq_true hkr.1
  have er := Nat.eq_of_beq_eq_true hkr.2
  subst ek er
  obtain ⟨c1, hm1⟩ := getμ C1
  obtain ⟨L1, hL1, hr1, hst1, hv1⟩ := R1.loop hH1 hm1
  obtain ⟨R2, E2⟩ := R1.setLoop (st' := .busy) (L' := { L1 with state := .busy }) hH1 hm1 hL1 ⟨rfl, rfl, rfl, rfl⟩ rfl
  refine ⟨_, run_beginRound hL1 hst1.1, ?_⟩
  have hB2 : Bd ⟨σ1.nt, σ1.tmps, upd σ1.heap i (some (.loop k' r' .busy ts1)), σ1.ids⟩ := by
    intro q hq
    by_cases eq : q = i
    · subst eq; exact hB1 q (by rw [hH1]; simp)
    · simp only at hq; rw [upd_ne _ _ eq] at hq; exact hB1 q hq
  refine exCode_ok (rd := some b) (μo := μ) (So := S) (Ho := H) (fun h => absurd rfl h) hC ih hod x.2.2 .none _ e σ3 a1 _ μ1 S1 _ h3 hB2 ⟨A1.defers, A1.size, fun t ht => VR_mono E2 _ _ (A1.tmp t ht)⟩ R2 (C1.trans (Carry.of E2)) fun a3 w3 μ3 S3 A3 R3 C3 => ?_
  unfold rndOut at h
  split at h
  case h_2 => simp at h
  rename_i k2 r2 ts3 hH3
  obtain ⟨hkr, e3⟩ := cond_some h
  cases e3
  obtain ⟨c3, hm3⟩ := getμ C3
  simp only [Bool.and_eq_true] at hkr
  have ek := Nat.eq_of_beq_eq_true hkr.1
  have er := Nat.eq_of_beq_eq_true hkr.2
  subst ek er
  obtain ⟨L3, hL3, hr3, hst3, hv3⟩ := R3.loop hH3 hm3
  have fin : ∀ (j : Option Code) (st : LSt) (c : Bool), j.isNone = c → st.Is (if j.isNone then .ready else .done) j → st = e.st → c = e.on → ∃ v' w', (Instr.endRound b j).run P w3 = .ok v' w' ∧
      ∃ u μ' S', Ending.returned v' = .returned u ∧ VR μ' S' (upd σ3.heap i (some (.loop k2 r2 e.st ts3))) (.lit (.bool e.on)) u ∧ Rel μ' S' (upd σ3.heap i (some (.loop k2 r2 e.st ts3))) B w0 w' ∧ Carry B μ S H μ' S' (upd σ3.heap i (some (.loop k2 r2 e.st ts3))) := by
    intro j st c hj his he hc
    subst he
    subst hc
    obtain ⟨R4, E4⟩ := R3.setLoop (st' := e.st) (L' := { L3 with state := if j.isNone then .ready else .done, pending := j }) hH3 hm3 hL3 ⟨rfl, rfl, rfl, rfl⟩ his
    refine ⟨_, _, run_endRound j hL3, .bool e.on, μ3, S3, ?_, ?_, R4, C3.trans (Carry.of E4)⟩
    · rw [hj]
    · simp only [VR]
  cases e with
  | nrm => exact fin none .ready true rfl ⟨rfl, rfl⟩ rfl rfl
  | ret => exact fin (some .ret) (.done .ret) false rfl ⟨rfl, rfl⟩ rfl rfl
  | exit q => exact fin (some (.exit q)) (.done (.exit q)) false rfl ⟨rfl, rfl⟩ rfl rfl
  | goto q => exact fin (some (.goto q)) (.done (.goto q)) false rfl ⟨rfl, rfl⟩ rfl rfl

theorem exFun_ok {Hn : Hints} (hC : TabsOK P C) : ∀ n, InlOK P (exFun P C Hn lf n)
  | 0 => fun id k as H L v H' L' h => by simp [exFun] at h
  | n + 1 => by
    intro id k as H L v H' L' h hBd
    refine ⟨exFun_bd n id k as H L v H' L' (exFun_ok hC n) h hBd, ?_⟩
    intro μ S B w0 w us R hv
    cases k with
    | fn k => exact exFun_fn hC (exFun_ok hC n) h hBd R hv
    | yld i => exact exFun_yld hC (exFun_ok hC n) h hBd R hv
end
end Go.Sy

/- A contract out of a run. -/
namespace Go.Sy
open Go Go.RowKit
set_option linter.unusedSimpArgs false
set_option linter.unusedVariables false

def encV (t : Ty) (x : t.T) : AV := cond t.isAgg (.agg (enc t x)) (headAV (enc t x))

def encArgs : (ps : List Ty) → Args ps → List AV
  | [], _ => []
  | t :: ts, x => encV t x.1 :: encArgs ts x.2

/-- reading results: what is owned, by its number, and the rest -/
def decOwn (H : Heap) (te : TypeId) (e : Ty) : List AV → Option (List e.T × List AV × List Nat)
  | .sl i g :: r => match H i with
    | some (.row te' e' g' xs) => cond (Nat.beq g g' && Nat.beq te te') (match castL (e := e') (e' := e) xs with
      | some ys => some (ys, r, [i])
      | none => none) none
    | _ => none
  | .lit (.slice none 0 0) :: r => some ([], r, [])
  | .sub i g a b :: r => match H i with
    | some (.row te' e' g' xs) => cond (Nat.beq a 0 && Nat.beq g g' && Nat.beq te te') (match castL (e := e') (e' := e) (xs.take b) with
      | some ys => some (ys, r, [i])
      | none => none) none
    | _ => none
  | _ => none

/-- data alone is handed back -/
def RTy.noOwn : RTy → Bool
  | .val _ => true
  | .own _ _ => false
  | .pair a b => a.noOwn && b.noOwn
  | .one a => a.noOwn
  | .any => true
def noOwns : List RTy → Bool
  | [] => true
  | t :: ts => t.noOwn && noOwns ts

/-- Hv: the rows that may be read as data -/
def decR (Hv H : Heap) : (t : RTy) → List AV → Option (t.T × List AV × List Nat)
  | .val t, l => match dec Hv t l with
    | some (x, r) => some (x, r, [])
    | none => none
  | .own te e, l => decOwn H te e l
  | .pair a b, l => match decR Hv H a l with
    | some (x, l', o) => match decR Hv H b l' with
      | some (y, l'', p) => some ((x, y), l'', o ++ p)
      | none => none
    | none => none
  | .one a, l => decR Hv H a l
  | .any, _ => none

def decRV (Hv H : Heap) (t : RTy) (a : AV) : Option (t.T × List Nat) :=
  cond (t.isAgg == a.isAgg) (match decR Hv H t a.inside with
    | some (x, [], o) => some (x, o)
    | _ => none) none

def decRs (Hv H : Heap) : (rs : List RTy) → List AV → Option (Res rs × List Nat)
  | [], [] => some ((), [])
  | t :: ts, a :: as => match decRV Hv H t a with
    | some (x, o) => match decRs Hv H ts as with
      | some (y, p) => some ((x, y), o ++ p)
      | none => none
    | none => none
  | _, _ => none

def AV.parts (n : Nat) : AV → List AV
  | .tup vs => cond (Nat.beq n 1) [.tup vs] vs
  | a => [a]

def decEnd (rs : List RTy) : Option (AV × Heap × List Nat) → Option (Res rs)
  | some (v, H, _) => match decRs (cond (noOwns rs) H (fun _ => none)) H rs (v.parts rs.length) with
    | some (y, o) => cond (distinct o) (some y) none
    | none => none
  | none => none

def top (P : Program) (C : Cons) (Hn : Hints) (lf n k : Nat) (ps : List Ty) (rs : List RTy) (x : Args ps) : Option (Res rs) :=
  decEnd rs (exFun P C Hn lf n 0 (.fn k) (encArgs ps x) (fun _ => none) [])
end Go.Sy

/- A contract out of a run. -/
namespace Go.Sy
open Go Go.RowKit
set_option linter.unusedSimpArgs false
set_option linter.unusedVariables false

section
variable [Glob] {P : Program} {w w' w0 : World} {μ : Mu} {S S' : Stable} {H Hv : Heap} {B : Nat}

omit [Glob] in
theorem encV_VR {t : Ty} {x : t.T} {v : Value} (h : RdV S t x v) : VR μ S H (encV t x) v := by
  unfold RdV at h
  unfold encV
  cases ha : t.isAgg with
  | true =>
    rw [ha, if_pos rfl] at h
    obtain ⟨cs, rfl, h⟩ := h
    simp only [cond_true, VR]
    exact ⟨cs, rfl, enc_VRs t x _ h⟩
  | false =>
    rw [ha, if_neg (by simp)] at h
    have := enc_VRs (μ := μ) (H := H) t x _ h
    have hl := VRs_length this
    simp only [cond_false]
    match he : enc t x, this, hl with
    | [a], this, _ => simp only [VRs] at this; obtain ⟨_, _, e, k, _⟩ := this; cases e; exact k
    | [], _, hl => simp at hl
    | _ :: _ :: _, _, hl => simp at hl

omit [Glob] in
theorem encArgs_VRs : ∀ {ps : List Ty} {x : Args ps} {vs : List Value}, RdArgs S ps x vs → VRs μ S H (encArgs ps x) vs
  | [], x, vs, h => by simp only [RdArgs] at h; subst h; simp [encArgs, VRs]
  | t :: ts, x, vs, h => by
    obtain ⟨v, r, rfl, h1, h2⟩ := h
    simp only [encArgs, VRs]
    exact ⟨v, r, rfl, encV_VR h1, encArgs_VRs h2⟩

/-- what is owned, and by which numbers -/
inductive OI (μ : Mu) : List OwnR → List Nat → Prop
  | nil : OI μ [] []
  | nilr {q os o} : q.loc.blk = none → OI μ os o → OI μ (q :: os) o
  | own {q os i o} : μ i = some q.loc → OI μ os o → OI μ (q :: os) (i :: o)

omit [Glob] in
theorem OI.append {os os' : List OwnR} {o o' : List Nat} (h : OI μ os o) (h' : OI μ os' o') : OI μ (os ++ os') (o ++ o') := by
  induction h with
  | nil => exact h'
  | nilr h1 _ ih => exact .nilr h1 ih
  | own h1 _ ih => exact .own h1 ih

omit [Glob] in
theorem OI.mem {os : List OwnR} {o : List Nat} (h : OI μ os o) : ∀ q ∈ os, q.loc.blk = none ∨ ∃ i ∈ o, μ i = some q.loc := by
  induction h with
  | nil => simp
  | nilr h1 _ ih =>
    intro q hq
    rcases List.mem_cons.1 hq with rfl | hq
    · exact .inl h1
    · exact ih q hq
  | own h1 _ ih =>
    intro q hq
    rcases List.mem_cons.1 hq with rfl | hq
    · exact .inr ⟨_, by simp, h1⟩
    · rcases ih q hq with h | ⟨i, h2, h3⟩
      · exact .inl h
      · exact .inr ⟨i, by simp [h2], h3⟩

theorem OI.apart (R : Rel μ S H B w0 w) {os : List OwnR} {o : List Nat} (h : OI μ os o) : distinct o = true → os.Pairwise ApartR := by
  induction h with
  | nil => intro; exact .nil
  | nilr h1 h2 ih =>
    intro hd
    refine List.pairwise_cons.2 ⟨fun q hq b hb => ?_, ih hd⟩
    rw [h1] at hb; simp at hb
  | @own p os i o h1 h2 ih =>
    intro hd
    simp only [distinct, Bool.and_eq_true, Bool.not_eq_true'] at hd
    refine List.pairwise_cons.2 ⟨fun q hq b hb => ?_, ih hd.2⟩
    rcases h2.mem q hq with h | ⟨j, hj, h3⟩
    · rw [h]; simp
    · refine R.sep i j _ _ b (fun e => ?_) h1 h3 hb
      subst e
      have := List.any_eq_false.1 hd.1 i hj
      simp at this

theorem row_own (R : Rel μ S H B w0 w) {i : Nat} {te : TypeId} {e : Ty} {g : Nat} {xs : List e.T} (hi : H i = some (.row te e g xs)) {l : Lc} (hm : μ i = some l) : OwnOK S w B ⟨l, te, e, xs⟩ := by
  obtain ⟨l', h1, h2⟩ := R.obj i _ hi
  have : l' = l := Option.some.inj (h1.symm.trans hm)
  subst this
  exact h2

theorem decOwn_ok (R : Rel μ S H B w0 w) {te : TypeId} {e : Ty} {as : List AV} {vs : List Value} {x : List e.T} {r : List AV} {o : List Nat} (hv : VRs μ S H as vs) (h : decOwn H te e as = some (x, r, o)) :
    ∃ cs us os, vs = cs ++ us ∧ RdR S (.own te e) x cs os ∧ VRs μ S H r us ∧ OI μ os o ∧ ∀ q ∈ os, OwnOK S w B q := by
  unfold decOwn at h
  split at h
  · rename_i i g r'
    split at h
    · rename_i te' e' g' xs hH
      cases hb : (Nat.beq g g' && Nat.beq te te') with
      | false => rw [hb] at h; simp at h
      | true =>
        rw [hb] at h
        simp only [cond_true] at h
        simp only [Bool.and_eq_true] at hb
        have hgg := Nat.eq_of_beq_eq_true hb.1
        have htt := Nat.eq_of_beq_eq_true hb.2
        subst htt
        split at h
        · rename_i ys hc
          cases h
          obtain ⟨he, rfl⟩ := castL_eq hc
          subst he
          simp only [VRs] at hv
          obtain ⟨v, u, rfl, h1, h2⟩ := hv
          simp only [VR] at h1
          obtain ⟨_, l, hm, h3⟩ := h1
          have hv' := (h3 _ _ _ _ hH).2 hgg
          subst hv'
          exact ⟨[_], u, [⟨l, te, e', xs⟩], rfl, ⟨l, rfl, rfl⟩, h2, .own hm .nil, by intro q hq; simp at hq; subst hq; exact row_own R hH hm⟩
        · simp at h
    · simp at h
  · cases h
    simp only [VRs, VR] at hv
    obtain ⟨v, u, rfl, rfl, h2⟩ := hv
    exact ⟨[_], u, [⟨⟨none, 0⟩, te, e, []⟩], rfl, ⟨⟨none, 0⟩, rfl, rfl⟩, h2, .nilr rfl .nil, by intro q hq; simp at hq; subst hq; exact ⟨⟨Nat.le_refl _, Nat.zero_le _⟩, .inl ⟨rfl, rfl⟩⟩⟩
  · rename_i i g a b r'
    split at h
    · rename_i te' e' g' xs hH
      cases hb : (Nat.beq a 0 && Nat.beq g g' && Nat.beq te te') with
      | false => rw [hb] at h; simp at h
      | true =>
        rw [hb] at h
        simp only [cond_true] at h
        simp only [Bool.and_eq_true] at hb
        have haa := Nat.eq_of_beq_eq_true hb.1.1
        have hgg := Nat.eq_of_beq_eq_true hb.1.2
        have htt := Nat.eq_of_beq_eq_true hb.2
        subst htt haa
        split at h
        · rename_i ys hc
          cases h
          obtain ⟨he, rfl⟩ := castL_eq hc
          subst he
          simp only [VRs] at hv
          obtain ⟨v, u, rfl, h1, h2⟩ := hv
          simp only [VR] at h1
          obtain ⟨_, l, hm, h3⟩ := h1
          obtain ⟨p1, p2, ad, rfl, p3, _⟩ := (h3 _ _ _ _ hH).2 hgg
          have had := p3 (by simp)
          have had' : ad = l.addr := by
            rw [had]
            cases l.addr with
            | none => rfl
            | some q => simp [add_zero]
          subst had'
          have hlen : List.length (xs.take b) = b := by rw [List.length_take]; omega
          obtain ⟨l', m1, m2⟩ := R.obj i _ hH
          have : l' = l := Option.some.inj (m1.symm.trans hm)
          subst this
          have hO := ObjR_take b m2
          refine ⟨[_], u, [⟨l', te, e', xs.take b⟩], rfl, ⟨l', by rw [hlen]; rfl, rfl⟩, h2, .own hm .nil, by intro q hq; simp at hq; subst hq; exact hO⟩
        · simp at h
    · simp at h
  · simp at h

/-- memory that stays, and all that is new -/
def frz (B : Nat) (S : Stable) (w : World) : Stable := fun b => cond (Nat.ble B b) w.heap[b]? (S b)

theorem frz_sub (R : Rel μ S H B w0 w) (b : Nat) (o : Obj) (h : S b = some o) : frz B S w b = some o := by
  unfold frz
  cases Nat.ble B b with
  | true => exact R.st b o h
  | false => exact h

theorem frz_st (R : Rel μ S H B w0 w) (b : Nat) (o : Obj) (h : frz B S w b = some o) : w.heap[b]? = some o := by
  unfold frz at h
  cases hb : Nat.ble B b with
  | true => rw [hb] at h; exact h
  | false => rw [hb] at h; exact R.st b o h

theorem row_frz (R : Rel μ S H B w0 w) {i : Nat} {t : TypeId} {e : Ty} {g : Nat} {xs : List e.T} (hi : H i = some (.row t e g xs)) {l : Lc} (hm : μ i = some l) :
    Rd (frz B S w) (.row e) xs [.slice l.addr xs.length l.cap] := by
  obtain ⟨l', h1, h2⟩ := R.obj i _ hi
  have : l' = l := Option.some.inj (h1.symm.trans hm)
  subst this
  refine ⟨l'.addr, l'.cap, rfl, ⟨h2.1.1, fun ha => ?_⟩, fun j x hj => ?_⟩
  · rcases h2.2 with h3 | ⟨b, cs, e1, _⟩
    · exact h3.2
    · simp [Lc.addr, e1] at ha
  rcases h2.2 with h3 | ⟨b, cs, e1, hB, _, h4, _, h6⟩
  · have hlt : j < xs.length := by
      rcases Nat.lt_or_ge j xs.length with h | h
      · exact h
      · rw [List.getElem?_eq_none h] at hj; simp at hj
    have := h2.1.1; omega
  · obtain ⟨c, k1, k2⟩ := h6 j x hj
    refine ⟨⟨b, 0, none⟩, c, by simp [Lc.addr, e1], Rd_mono (frz_sub R) _ _ _ k1, fun m v hv => ?_⟩
    rw [plain_add, Nat.zero_add]
    have hb : frz B S w b = some (.cells cs t (0, 0)) := by
      unfold frz
      rw [Nat.ble_eq_true_of_le hB]; exact h4
    simp only [cellS, hb, Option.isSome_none, Bool.false_eq_true, if_false]
    exact k2 m v hv

omit [Glob] in
theorem noOwn_nil : ∀ (t : RTy) (x : t.T) (cs : List Value) (os : List OwnR), t.noOwn = true → RdR S t x cs os → os = []
  | .val t, x, cs, os, _, h => h.2
  | .own _ _, x, cs, os, hn, _ => by simp [RTy.noOwn] at hn
  | .pair a b, x, cs, os, hn, h => by
    simp only [RTy.noOwn, Bool.and_eq_true] at hn
    obtain ⟨c, d, o, p, _, rfl, h1, h2⟩ := h
    rw [noOwn_nil a _ _ _ hn.1 h1, noOwn_nil b _ _ _ hn.2 h2]; rfl
  | .one a, x, cs, os, hn, h => noOwn_nil a x cs os hn h
  | .any, x, cs, os, hn, h => h.2

omit [Glob] in
theorem noOwns_nil : ∀ {rs : List RTy} {y : Res rs} {us : List Value} {os : List OwnR}, noOwns rs = true → RdRs S rs y us os → os = []
  | [], _, _, _, _, h => h.2
  | t :: ts, y, us, os, hn, h => by
    simp only [noOwns, Bool.and_eq_true] at hn
    obtain ⟨v, r, o, p, _, rfl, h1, h2⟩ := h
    rw [noOwns_nil hn.2 h2, List.append_nil]
    unfold RdRV at h1
    split at h1
    · obtain ⟨cs, _, h1⟩ := h1
      exact noOwn_nil t _ _ _ hn.1 h1
    · exact noOwn_nil t _ _ _ hn.1 h1

theorem decR_ok (R : Rel μ S H B w0 w) (hS : ∀ b o, S b = some o → S' b = some o) (hrow : ∀ i t e g xs l, Hv i = some (.row t e g xs) → μ i = some l → Rd S' (.row e) xs [.slice l.addr xs.length l.cap]) (sub : ∀ i o, Hv i = some o → H i = some o) :
    ∀ (t : RTy) (as : List AV) (vs : List Value) (x : t.T) (r : List AV) (o : List Nat), VRs μ S H as vs → decR Hv H t as = some (x, r, o) →
    ∃ cs us os, vs = cs ++ us ∧ RdR S' t x cs os ∧ VRs μ S H r us ∧ OI μ os o ∧ ∀ q ∈ os, OwnOK S w B q
  | .val t, as, vs, x, r, o, hv, h => by
    simp only [decR] at h
    split at h
    · rename_i y r' hd
      cases h
      obtain ⟨cs, us, h1, h2, h3⟩ := dec_Rd (S' := S') (H := H) hS hrow sub t as vs _ _ hv hd
      exact ⟨cs, us, [], h1, ⟨h2, rfl⟩, h3, .nil, by simp⟩
    · simp at h
  | .own te e, as, vs, x, r, o, hv, h => decOwn_ok R hv h
  | .pair a b, as, vs, x, r, o, hv, h => by
    simp only [decR] at h
    split at h
    · rename_i y l' o1 h1
      split at h
      · rename_i z l'' o2 h2
        cases h
        obtain ⟨c1, u1, os1, e1, k1, r1, i1, w1⟩ := decR_ok R hS hrow sub a as vs y l' o1 hv h1
        obtain ⟨c2, u2, os2, e2, k2, r2, i2, w2⟩ := decR_ok R hS hrow sub b l' u1 z _ o2 r1 h2
        refine ⟨c1 ++ c2, u2, os1 ++ os2, by rw [e1, e2, List.append_assoc], ⟨c1, c2, os1, os2, rfl, rfl, k1, k2⟩, r2, i1.append i2, fun q hq => ?_⟩
        rcases List.mem_append.1 hq with h | h
        · exact w1 q h
        · exact w2 q h
      · simp at h
    · simp at h
  | .one a, as, vs, x, r, o, hv, h => by
    simp only [decR] at h
    exact decR_ok R hS hrow sub a as vs x r o hv h
  | .any, as, vs, x, r, o, hv, h => by simp [decR] at h

theorem decRV_ok (R : Rel μ S H B w0 w) (hS : ∀ b o, S b = some o → S' b = some o) (hrow : ∀ i t e g xs l, Hv i = some (.row t e g xs) → μ i = some l → Rd S' (.row e) xs [.slice l.addr xs.length l.cap]) (sub : ∀ i o, Hv i = some o → H i = some o)
    {t : RTy} {a : AV} {v : Value} {x : t.T} {o : List Nat} (hv : VR μ S H a v) (h : decRV Hv H t a = some (x, o)) :
    ∃ os, RdRV S' t x v os ∧ OI μ os o ∧ ∀ q ∈ os, OwnOK S w B q := by
  unfold decRV at h
  cases hb : (t.isAgg == a.isAgg) with
  | false => rw [hb] at h; simp at h
  | true =>
    rw [hb] at h
    simp only [cond_true] at h
    have hta : t.isAgg = a.isAgg := by simpa using hb
    split at h
    · rename_i y o' hd
      cases h
      unfold RdRV
      rw [hta]
      cases ha : a.isAgg with
      | true =>
        simp only [if_true]
        cases a <;> simp only [AV.isAgg, reduceCtorEq] at ha
        simp only [VR] at hv
        obtain ⟨vs, rfl, hvs⟩ := hv
        obtain ⟨c, u, os, e1, k1, k2, k3, k4⟩ := decR_ok R hS hrow sub t _ vs.toList _ [] _ hvs hd
        simp only [VRs] at k2
        subst k2
        rw [List.append_nil] at e1
        exact ⟨os, ⟨vs, rfl, by rw [e1]; exact k1⟩, k3, k4⟩
      | false =>
        simp only [Bool.false_eq_true, if_false]
        have base : VRs μ S H a.inside [v] := by
          cases a <;> first | (simp [AV.isAgg] at ha; done) | (simp only [AV.inside, VRs]; exact ⟨v, [], rfl, hv, rfl⟩)
        obtain ⟨c, u, os, e1, k1, k2, k3, k4⟩ := decR_ok R hS hrow sub t _ [v] _ [] _ base hd
        simp only [VRs] at k2
        subst k2
        rw [List.append_nil] at e1
        exact ⟨os, by rw [e1]; exact k1, k3, k4⟩
    · simp at h

theorem decRs_ok (R : Rel μ S H B w0 w) (hS : ∀ b o, S b = some o → S' b = some o) (hrow : ∀ i t e g xs l, Hv i = some (.row t e g xs) → μ i = some l → Rd S' (.row e) xs [.slice l.addr xs.length l.cap]) (sub : ∀ i o, Hv i = some o → H i = some o) :
    ∀ {rs : List RTy} {as : List AV} {vs : List Value} {y : Res rs} {o : List Nat}, VRs μ S H as vs → decRs Hv H rs as = some (y, o) →
    ∃ os, RdRs S' rs y vs os ∧ OI μ os o ∧ (∀ q ∈ os, OwnOK S w B q) ∧ vs.length = rs.length
  | [], [], vs, y, o, hv, h => by
    simp only [VRs] at hv; subst hv
    simp only [decRs, Option.some.injEq, Prod.mk.injEq] at h
    obtain ⟨_, rfl⟩ := h
    exact ⟨[], ⟨rfl, rfl⟩, .nil, by simp, rfl⟩
  | [], _ :: _, vs, y, o, hv, h => by simp [decRs] at h
  | t :: ts, [], vs, y, o, hv, h => by simp [decRs] at h
  | t :: ts, a :: as, vs, y, o, hv, h => by
    simp only [decRs] at h
    split at h
    · rename_i x o1 h1
      split at h
      · rename_i z o2 h2
        cases h
        simp only [VRs] at hv
        obtain ⟨v, r, rfl, k1, k2⟩ := hv
        obtain ⟨os1, a1, a2, a3⟩ := decRV_ok R hS hrow sub k1 h1
        obtain ⟨os2, b1, b2, b3, b4⟩ := decRs_ok R hS hrow sub k2 h2
        refine ⟨os1 ++ os2, ⟨v, r, os1, os2, rfl, rfl, a1, b1⟩, a2.append b2, fun q hq => ?_, by simp [b4]⟩
        rcases List.mem_append.1 hq with h | h
        · exact a3 q h
        · exact b3 q h
      · simp at h
    · simp at h

theorem con_of_top {C : Cons} {Hn : Hints} (hC : TabsOK P C) {lf n k : Nat} {c : Con} (h : ∀ x y, c.f x = some y → top P C Hn lf n k c.ps c.rs x = some y) : c.OK P k := by
  intro x y hf S w vs hst hpre ha
  have ht := h x y hf
  unfold top at ht
  cases he : exFun P C Hn lf n 0 (.fn k) (encArgs c.ps x) (fun _ => none) [] with
  | none => rw [he] at ht; simp [decEnd] at ht
  | some p =>
    obtain ⟨v, H', L'⟩ := p
    rw [he] at ht
    simp only [decEnd] at ht
    split at ht
    · rename_i y' o hd
      obtain ⟨hdis, rfl⟩ := cond_some ht
      have R0 : Rel (fun _ => none) S (fun _ => none) w.heap.size w w := ⟨Below.refl _ _, Nat.le_refl _, hst, fun _ => rfl, fun _ _ h => by simp at h, fun _ _ _ _ _ _ h => by simp at h, hpre⟩
      refine RunC.mono (c := .fn k) ((exFun_ok hC n 0 (.fn k) _ _ _ _ _ _ he (fun _ h => absurd rfl h)).2 (fun _ => none) S w.heap.size w w vs.toArray R0 (by simpa using encArgs_VRs ha)) ?_
      rintro e w' ⟨u, μ', S', rfl, k1, R', C'⟩
      -- the parts of what is handed back
      have hparts : ∃ us, VRs μ' S' H' (v.parts c.rs.length) us ∧ (us.length = c.rs.length → u = resVal us) := by
        have one : VRs μ' S' H' [v] [u] := by simp only [VRs]; exact ⟨u, [], rfl, k1, rfl⟩
        cases v with
        | tup as =>
          simp only [AV.parts]
          cases hb : Nat.beq c.rs.length 1 with
          | true => exact ⟨[u], one, fun _ => rfl⟩
          | false =>
            simp only [VR] at k1
            obtain ⟨x, rfl, k2⟩ := k1
            refine ⟨x.toList, k2, fun hl => ?_⟩
            have hne : c.rs.length ≠ 1 := fun e => by rw [e] at hb; simp at hb
            match hx : x.toList with
            | [] => simp only [resVal]; rw [← hx]
            | [z] => rw [hx] at hl; simp at hl; omega
            | z1 :: z2 :: l => simp only [resVal]; rw [← hx]
        | _ => exact ⟨[u], one, fun _ => rfl⟩
      obtain ⟨us, hus, hu⟩ := hparts
      cases hno : noOwns c.rs with
      | false =>
        rw [hno] at hd
        obtain ⟨os, q1, q2, q3, q4⟩ := decRs_ok (S' := S') R' (fun b o h => h) (fun i t e g xs l h => by simp at h) (fun i o h => by simp at h) hus hd
        exact ⟨us, S', os, by rw [hu q4], R'.below, C'.sub, R'.st, fun b hb => C'.st b hb, q1, q3, q2.apart R' hdis⟩
      | true =>
        rw [hno] at hd
        obtain ⟨os, q1, q2, q3, q4⟩ := decRs_ok (S' := frz w.heap.size S' w') R' (frz_sub R') (fun i t e g xs l h hm => row_frz R' h hm) (fun i o h => h) hus hd
        have := noOwns_nil hno q1
        subst this
        refine ⟨us, frz w.heap.size S' w', [], by rw [hu q4], R'.below, fun b o h => frz_sub R' b o (C'.sub b o h), fun b o h => frz_st R' b o h, fun b hb => ?_, q1, by simp, .nil⟩
        unfold frz at hb
        cases hble : Nat.ble w.heap.size b with
        | true => exact .inr (Nat.le_of_ble_eq_true hble)
        | false => rw [hble] at hb; exact C'.st b hb
    · simp at ht
end
end Go.Sy
