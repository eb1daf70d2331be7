/- Operations in whatever order their edges allow. -/
import Derived.Test.YtipajaocggpahaaGreatSym9
namespace Go.Sy
open Go Go.RowKit
set_option linter.unusedSimpArgs false
set_option linter.unusedVariables false

def isW0 (o : Oper) : Bool :=
  match o.op with
  | .store _ _ _ => true
  | .next _ _ => true
  | .mapEntry _ _ _ => true
  | .entryStore _ _ _ _ => true
  | .mapUpdate _ _ _ _ => true
  | .call c => match c.callee with
    | .builtin .append => true
    | .builtin .clear => true
    | _ => false
  | _ => false

def isW (C : Cons) (o : Oper) : Bool := isW0 o || isUpd C o

theorem isW_isR {P : Program} {C : Cons} {o : Oper} (h : isW C o = true) : isR P o = true := by
  obtain ⟨dst, op, ty, pos, af, gd⟩ := o
  cases op <;> simp only [isW, isW0, isUpd, Bool.or_self, Bool.false_eq_true] at h <;> rfl

def maskOf (m : List Nat) (o : Oper) : Nat := o.after.toList.foldl (fun s e => cond (Region.binds .any e) (s ||| 2 ^ e.on ||| m.getD e.on 0) s) 0
def masksAux : List Oper → List Nat → List Nat
  | [], acc => acc
  | o :: l, acc => masksAux l (acc ++ [maskOf acc o])
def masks (ops : Array Oper) : List Nat := masksAux ops.toList []

def indep (P : Program) (C : Cons) (ops : Array Oper) (m : List Nat) (x i : Nat) (ox oi : Oper) : Bool :=
  ox.apart ops oi && !(Nat.testBit (m.getD i 0) x) && !(Nat.testBit (m.getD x 0) i)

def pairOK (P : Program) (C : Cons) (ops : Array Oper) (m : List Nat) (x i : Nat) : Bool :=
  match ops[x]?, ops[i]? with
  | some ox, some oi => Nat.testBit (m.getD i 0) x || indep P C ops m x i ox oi
  | _, _ => false

def edgesOK (o : Oper) (i : Nat) : Bool := o.after.toList.all fun e => cond (Region.binds .any e) (ltN e.on i) true

def regionOK (P : Program) (C : Cons) (ops : Array Oper) (m : List Nat) : Bool :=
  P.follows .mixedOrders &&
  (List.range ops.size).all fun i => match ops[i]? with
    | some o => Nat.beq (m.getD i 0) (maskOf m o) && edgesOK o i && (List.range i).all fun x => pairOK P C ops m x i
    | none => false

def vis (base n mask q : Nat) : Bool := cond (Nat.ble base q && ltN q (base + n * 16)) (Nat.testBit mask ((q - base) / 16)) true
/-- the object that a value points into -/
def avId : AV → Option Nat
  | .ptr i _ => some i
  | .elp i _ _ _ => some i
  | .sl i _ => some i
  | .sub i _ _ _ => some i
  | .mp i => some i
  | _ => none

/-- the object that an operation writes to -/
def tgtAt (ρ : Operand → AV) (o : Oper) : Option Nat :=
  match o.op with
  | .store _ a _ => avId (ρ a)
  | .next x _ => avId (ρ x)
  | .mapEntry _ x _ => avId (ρ x)
  | .mapUpdate _ x _ _ => avId (ρ x)
  | .entryStore _ x _ _ => avId (ρ x)
  | .call c => match c.args.toList with
    | x :: _ => avId (ρ x)
    | [] => none
  | _ => none

/-- the last operation ahead of place b that sets a temporary -/
def findDst (t b : Nat) : List Oper → Nat → Option (Nat × Oper)
  | [], _ => none
  | o :: l, n => cond (ltN n b) (match findDst t b l (n + 1) with
    | some r => some r
    | none => match o.dst with
      | some d => cond (Nat.beq d t) (some (n, o)) none
      | none => none) none

/-- what a temporary will point into, as far as it can be told ahead of the region -/
def resT (ops : Array Oper) (base : Nat) (σ : St) : Nat → Nat → Operand → Option Nat
  | 0, _, _ => none
  | n + 1, b, .tmp t => match findDst t b ops.toList 0 with
    | some (y, o) => match o.op with
      | .alloc _ => some (base + y * 16)
      | .box _ _ => some (base + y * 16)
      | .move x => resT ops base σ n y x
      | .assign x => resT ops base σ n y x
      | .fieldAddr _ x _ => resT ops base σ n y x
      | .indexAddr _ x _ => resT ops base σ n y x
      | .nilCheck x => resT ops base σ n y x
      | .call c => match c.args.toList with
        | x :: _ => match resT ops base σ n y x with
          | some j => some j
          | none => some (base + y * 16)
        | [] => none
      | _ => none
    | none => avId (σ.tmps t)
  | _, _, _ => none

/-- for each operation, what it will write to -/
def tgt0 (C : Cons) (ops : Array Oper) (base : Nat) (σ : St) (i : Nat) (o : Oper) : Option Nat :=
  cond (isW C o) (match o.op with
    | .store _ a _ => resT ops base σ 9 i a
    | .next x _ => resT ops base σ 9 i x
    | .mapEntry _ x _ => resT ops base σ 9 i x
    | .mapUpdate _ x _ _ => resT ops base σ 9 i x
    | .entryStore _ x _ _ => resT ops base σ 9 i x
    | .call c => match c.args.toList with
      | x :: _ => resT ops base σ 9 i x
      | [] => none
    | _ => none) none

def tgts (C : Cons) (ops : Array Oper) (base : Nat) (σ : St) : List (Option Nat) :=
  (List.range ops.size).map fun i => match ops[i]? with
    | some o => tgt0 C ops base σ i o
    | none => none

def eqO : Option Nat → Nat → Bool
  | some i, j => Nat.beq i j
  | none, _ => false

/-- no operation that need not be ahead, nor behind, looks at memory -/
def statOK (P : Program) (ops : Array Oper) (m : List Nat) (i : Nat) : Bool :=
  (List.range ops.size).all fun x => Nat.beq x i || Nat.testBit (m.getD i 0) x || Nat.testBit (m.getD x 0) i || (match ops[x]? with
    | some ox => !(isR P ox)
    | none => true)

/-- it writes to what was told -/
def tgtOK (P : Program) (C : Cons) (ops : Array Oper) (m : List Nat) (W : List (Option Nat)) (i : Nat) (σ : St) : Bool :=
  match ops[i]? with
  | some o => cond (isW C o) (match tgtAt σ.val o with
    | some j => eqO (W.getD i none) j || statOK P ops m i
    | none => true) true
  | none => true

/-- some operation writes that need not be ahead of, nor behind, one that looks at memory -/
def dynR (P : Program) (C : Cons) (ops : Array Oper) (m : List Nat) : Bool :=
  (List.range ops.size).any fun i => match ops[i]? with
    | some o => isW C o && !(statOK P ops m i)
    | none => false

def wOf (P : Program) (C : Cons) (ops : Array Oper) (m : List Nat) (base : Nat) (σ : St) : List (Option Nat) :=
  cond (dynR P C ops m) (tgts C ops base σ) []

def hasN (L : List Nat) (i : Nat) : Bool := L.any (Nat.beq i)

/-- what operations write that need not be ahead of one, nor behind it -/
def oth (m : List Nat) (W : List (Option Nat)) (n i : Nat) : List Nat :=
  match W with
  | [] => []
  | _ :: _ => (List.range n).filterMap fun x => cond (Nat.beq x i || Nat.testBit (m.getD i 0) x || Nat.testBit (m.getD x 0) i) none (W.getD x none)

def hideF (base n mask : Nat) (ot : List Nat) (H : Heap) : Heap := fun q => cond (vis base n mask q && !hasN ot q) (H q) none

def exH (P : Program) (C : Cons) (ops : Array Oper) (m : List Nat) (W : List (Option Nat)) (base i : Nat) (σ : St) : Option St :=
  cond (tgtOK P C ops m W i σ) (exOp P C noInl ops (hideF base ops.size (m.getD i 0) (oth m W ops.size i)) (base + i * 16) i σ) none

def exHs (P : Program) (C : Cons) (ops : Array Oper) (m : List Nat) (W : List (Option Nat)) (base : Nat) : List Nat → St → Option St
  | [], σ => some σ
  | i :: l, σ => match exH P C ops m W base i σ with
    | some σ' => exHs P C ops m W base l σ'
    | none => none

/-- the numbers of the objects that several lay -/
def hsNew (P : Program) (C : Cons) (ops : Array Oper) (m : List Nat) (W : List (Option Nat)) (base : Nat) : List Nat → St → List Nat
  | [], _ => []
  | i :: l, σ => opNew P C ops (hideF base ops.size (m.getD i 0) (oth m W ops.size i) σ.heap) (base + i * 16) i σ ++ (match exH P C ops m W base i σ with
    | some σ' => hsNew P C ops m W base l σ'
    | none => [])

def exAny (P : Program) (C : Cons) (ops : Array Oper) (base : Nat) (σ : St) : Option St :=
  cond (regionOK P C ops (masks ops)) (match exHs P C ops (masks ops) (wOf P C ops (masks ops) base σ) base (List.range ops.size) σ with
    | some σ' => some (σ'.addIds (hsNew P C ops (masks ops) (wOf P C ops (masks ops) base σ) base (List.range ops.size) σ))
    | none => none) none

/-- in order -/
def exOps (P : Program) (C : Cons) (F : Inl) (ops : Array Oper) (base : Nat) : List Nat → St → Option St
  | [], σ => some σ
  | i :: l, σ => match exOp P C F ops (fun H => H) (base + i * 16) i σ with
    | some σ' => exOps P C F ops base l (σ'.addIds (opNew P C ops σ.heap (base + i * 16) i σ))
    | none => none

/-! one operation as what it sets -/
def stepE (P : Program) (C : Cons) (ops : Array Oper) (Hh : Heap) (id : Nat) (o : Oper) (σ : St) : Option Eff :=
  match want ops σ o with
  | some true => exEff P C Hh id o σ.val
  | some false => some ⟨[], false, .lit undef⟩
  | none => none

theorem exOp_stepE {P : Program} {C : Cons} {ops : Array Oper} {hide : Heap → Heap} {id i : Nat} {σ : St} {o : Oper} (ho : ops[i]? = some o) :
    exOp P C noInl ops hide id i σ = match stepE P C ops (hide σ.heap) id o σ with
      | some e => σ.eff id o.dst e
      | none => none := by
  unfold exOp stepE
  rw [ho]
  simp only
  cases hw : want ops σ o with
  | none => rfl
  | some b =>
    cases b with
    | true =>
      simp only
      cases he : exEff P C (hide σ.heap) id o σ.val with
      | some e => rfl
      | none =>
        have : exInl P C noInl (hide σ.heap) id o σ.val σ.heap σ.ids = none := by
          unfold exInl; split <;> first | rfl | (split <;> rfl)
        simp only [this]
    | false => rfl

section
variable [Glob] {P : Program} {C : Cons} {ops : Array Oper} {σ σ' σ1 σ2 : St} {H H' : Heap}

omit [Glob] in
theorem val_congr {x : Operand} (hn : σ'.nt = σ.nt) (h : ∀ t, x = .tmp t → σ'.tmps t = σ.tmps t) : σ'.val x = σ.val x := by
  cases x with
  | tmp t => simp only [St.val, hn, h t rfl]
  | _ => rfl

omit [Glob] in
theorem want_congr {o : Oper} (hn : σ'.nt = σ.nt) (h : ∀ t, t ∈ o.looksAt ops → σ'.tmps t = σ.tmps t) : want ops σ' o = want ops σ o := by
  unfold want
  cases hg : o.guard with
  | none => rfl
  | some p =>
    obtain ⟨j, b⟩ := p
    simp only
    cases hj : ops[j]? with
    | none => rfl
    | some g =>
      simp only
      cases hd : g.dst with
      | none => rfl
      | some d =>
        simp only
        have : σ'.val (.tmp d) = σ.val (.tmp d) := val_congr hn fun t e => by
          cases e
          refine h d ?_
          unfold Oper.looksAt
          rw [hg]; simp [hj, hd]
        rw [this]

omit [Glob] in
theorem sem_congr {o : Oper} {id : Nat} {ρ ρ' : Operand → AV} (h : ∀ x ∈ o.op.operands, ρ' x = ρ x) : sem P H id o ρ' = sem P H id o ρ := by
  obtain ⟨dst, op, ty, pos, af, gd⟩ := o
  cases op <;> simp only [Op.operands] at h <;> simp only [sem]
  case move x => rw [h x (by simp)]
  case assign x => rw [h x (by simp)]
  case pick c a b => rw [h c (by simp), h a (by simp), h b (by simp)]
  case box t x => rw [h x (by simp)]
  case load t x => rw [h x (by simp)]
  case store t a x => rw [h a (by simp), h x (by simp)]
  case fieldAddr s x f => rw [h x (by simp)]
  case field s x f => rw [h x (by simp)]
  case nilCheck x => rw [h x (by simp)]
  case binOp op t x y yt => rw [h x (by simp), h y (by simp)]
  case unOp op t x => rw [h x (by simp)]
  case convert s d x => rw [h x (by simp)]
  case build t parts =>
    have e1 : (parts.toList.map fun p => (p.1, ρ' p.2)) = parts.toList.map fun p => (p.1, ρ p.2) := List.map_congr_left fun p hp => by rw [h p.2 (by simp; exact ⟨p.1, by simpa using hp⟩)]
    rw [e1]
  case buildSlice t n parts =>
    have e1 : (parts.toList.map fun p => (p.1, ρ' p.2)) = parts.toList.map fun p => (p.1, ρ p.2) := List.map_congr_left fun p hp => by rw [h p.2 (by simp; exact ⟨p.1, by simpa using hp⟩)]
    rw [e1]
  case makeSlice t l c => rw [h l (by simp), h c (by simp)]
  case slice t x lo hi mx =>
    have e : ∀ o : Option Operand, (∀ y, o = some y → ρ' y = ρ y) → o.map ρ' = o.map ρ := by
      intro o ho; cases o with
      | none => rfl
      | some y => simp [ho y rfl]
    rw [h x (by simp), e lo (fun y e => h y (by subst e; simp)), e hi (fun y e => h y (by subst e; simp)), e mx (fun y e => h y (by subst e; simp))]
  case range t x => rw [h x (by simp)]
  case next x s => rw [h x (by simp)]
  case extract t i => rw [h t (by simp)]
  case index t x i => rw [h x (by simp), h i (by simp)]
  case mapEntry t m k => rw [h m (by simp), h k (by simp)]
  case mapUpdate t m k x => rw [h m (by simp), h k (by simp), h x (by simp)]
  case entryStore t m s x => rw [h m (by simp), h s (by simp), h x (by simp)]
  case lookup t x k ok => rw [h x (by simp), h k (by simp)]
  case indexAddr t x i => rw [h x (by simp), h i (by simp)]
  case makeFunc fn first caps =>
    have e1 : first.toList.map ρ' = first.toList.map ρ := List.map_congr_left fun x hx => h x (by simp; exact .inl (by simpa using hx))
    have e2 : caps.toList.map ρ' = caps.toList.map ρ := List.map_congr_left fun x hx => h x (by simp; exact .inr (by simpa using hx))
    rw [e1, e2]
  case call c =>
    obtain ⟨callee, args, argTypes⟩ := c
    simp only [Call.operands] at h
    have e1 : args.toList.map ρ' = args.toList.map ρ := List.map_congr_left fun x hx => h x (by simp; exact .inr (by simpa using hx))
    cases callee with
    | value f => simp only [e1]; rw [h f (by simp)]
    | invoke r m => rfl
    | builtin b =>
      cases b <;> try rfl
      · simp only
        split
        · rename_i t u s x ht hx
          rw [h x (by simp; exact (by rw [← Array.mem_toList_iff, hx]; simp)), h s (by simp; exact (by rw [← Array.mem_toList_iff, hx]; simp))]
        · rfl
      · simp only
        split
        · rename_i t x ht hx
          rw [h x (by simp; exact (by rw [← Array.mem_toList_iff, hx]; simp))]
        · rfl
      · simp only
        split
        · rename_i t x ht hx
          rw [h x (by simp; exact (by rw [← Array.mem_toList_iff, hx]; simp))]
        · rfl
      · simp only
        split
        · rename_i x y hx
          rw [h x (by simp; exact (by rw [← Array.mem_toList_iff, hx]; simp)), h y (by simp; exact (by rw [← Array.mem_toList_iff, hx]; simp))]
        · rfl
      · simp only
        split
        · rename_i x y hx
          rw [h x (by simp; exact (by rw [← Array.mem_toList_iff, hx]; simp)), h y (by simp; exact (by rw [← Array.mem_toList_iff, hx]; simp))]
        · rfl

omit [Glob] in
theorem sem_pure {o : Oper} {id : Nat} {ρ : Operand → AV} (h : isR P o = false) : sem P H id o ρ = sem P H' id o ρ := by
  obtain ⟨dst, op, ty, pos, af, gd⟩ := o
  cases op <;> simp only [isR, reduceCtorEq] at h <;> try rfl
  case convert s d x =>
    unfold sem
    simp only
    split
    · rfl
    · unfold oStr
      split
      · rename_i hs _
        rw [hs] at h; simp at h
      · rfl

omit [Glob] in
theorem exEff_pure {o : Oper} {id : Nat} {ρ : Operand → AV} (h : isR P o = false) : exEff P C H id o ρ = exEff P C H' id o ρ := by
  unfold exEff
  rw [sem_pure (H' := H') h]
  cases hs : sem P H' id o ρ with
  | none => rfl
  | some out =>
    cases out with
    | call k as =>
      have hu : updOfC C o k = none := by
        cases k with
        | yld i => rfl
        | fn k =>
        show updOf C o k = none
        unfold updOf
        unfold isR at h
        split
        · rename_i c hc; rw [hc] at h; simp at h
        · rfl
      simp only [h, hu]
    | _ => rfl

omit [Glob] in
theorem exEff_congr {o : Oper} {id : Nat} {ρ ρ' : Operand → AV} (h : ∀ x ∈ o.op.operands, ρ' x = ρ x) : exEff P C H id o ρ' = exEff P C H id o ρ := by
  unfold exEff
  rw [sem_congr h]

omit [Glob] in
theorem stepE_congr {o : Oper} {id : Nat} (hn : σ'.nt = σ.nt) (h : ∀ t, t ∈ o.looksAt ops → σ'.tmps t = σ.tmps t) (hH : isR P o = true → H' = H) :
    stepE P C ops H' id o σ' = stepE P C ops H id o σ := by
  unfold stepE
  rw [want_congr hn h]
  have : exEff P C H' id o σ'.val = exEff P C H id o σ.val := by
    have e1 : exEff P C H' id o σ'.val = exEff P C H' id o σ.val := exEff_congr fun x hx => val_congr hn fun t e => by
      subst e
      refine h t ?_
      unfold Oper.looksAt
      exact List.mem_append.2 (.inl (List.mem_filterMap.2 ⟨.tmp t, by simpa using hx, rfl⟩))
    rw [e1]
    cases hr : isR P o with
    | true => rw [hH hr]
    | false => exact exEff_pure hr
  rw [this]
end

/-! setting objects apart from each other -/
def ids (l : List (Nat × HObj)) : List Nat := l.map (·.1)

theorem setAll_other : ∀ (l : List (Nat × HObj)) (H : Heap) (q : Nat), q ∉ ids l → setAll H l q = H q
  | [], H, q, _ => rfl
  | (i, o) :: l, H, q, h => by
    simp only [ids, List.map_cons, List.mem_cons, not_or] at h
    rw [setAll, setAll_other l _ q h.2, upd_ne _ _ h.1]

theorem setAll_upd : ∀ (l : List (Nat × HObj)) (H : Heap) (i : Nat) (o : Option HObj), i ∉ ids l → setAll (upd H i o) l = upd (setAll H l) i o
  | [], H, i, o, _ => rfl
  | (j, p) :: l, H, i, o, h => by
    simp only [ids, List.map_cons, List.mem_cons, not_or] at h
    rw [setAll, setAll, upd_comm _ _ _ h.1, setAll_upd l _ i o h.2]

theorem setAll_comm : ∀ (l k : List (Nat × HObj)) (H : Heap), (∀ i ∈ ids l, i ∉ ids k) → setAll (setAll H l) k = setAll (setAll H k) l
  | [], k, H, _ => rfl
  | (i, o) :: l, k, H, h => by
    rw [setAll, setAll, setAll_comm l k _ (fun j hj => h j (by simp [ids] at hj ⊢; exact .inr hj)), setAll_upd k H i (some o) (h i (by simp [ids]))]

theorem freshAll_ext : ∀ (l : List (Nat × HObj)) (H H' : Heap), (∀ i ∈ ids l, H' i = H i) → freshAll H' l = freshAll H l
  | [], H, H', _ => rfl
  | (i, o) :: l, H, H', h => by
    have h0 : H' i = H i := h i (by simp [ids])
    simp only [freshAll, h0]
    rw [freshAll_ext l (upd H i (some o)) (upd H' i (some o)) (fun j hj => by
      by_cases e : j = i
      · subst e; rw [upd_same, upd_same]
      · rw [upd_ne _ _ e, upd_ne _ _ e]; exact h j (by simp [ids] at hj ⊢; exact .inr hj))]

theorem freshAll_none : ∀ (l : List (Nat × HObj)) (H : Heap), freshAll H l = true → ∀ i ∈ ids l, H i = none
  | [], H, _, i, hi => by simp [ids] at hi
  | (j, o) :: l, H, h, i, hi => by
    simp only [freshAll, Bool.and_eq_true, Option.isNone_iff_eq_none] at h
    simp only [ids, List.map_cons, List.mem_cons] at hi
    rcases hi with rfl | hi
    · exact h.1
    · have := freshAll_none l _ h.2 i hi
      by_cases e : i = j
      · subst e; exact h.1
      · rw [upd_ne _ _ e] at this; exact this

theorem inSite_mem : ∀ {l : List (Nat × HObj)} {id : Nat}, inSite id l = true → ∀ i ∈ ids l, id ≤ i ∧ i < id + 16
  | [], id, _, i, hi => by simp [ids] at hi
  | (j, o) :: l, id, h, i, hi => by
    simp only [inSite, Bool.and_eq_true] at h
    simp only [ids, List.map_cons, List.mem_cons] at hi
    rcases hi with rfl | hi
    · exact ⟨Nat.le_of_ble_eq_true h.1.1, of_ltN h.1.2⟩
    · exact inSite_mem h.2 i hi

/-- what is set: nothing, new objects in one's own site, or one that is seen (and then the operation writes) -/
def EffOK (C : Cons) (Hh : Heap) (σ : St) (id : Nat) (o : Oper) (e : Eff) : Prop :=
  e.sets = [] ∨ e.new = true ∨ (isW C o = true ∧ ∃ j ob, e.sets = [(j, ob)] ∧ (Hh j).isSome = true ∧ tgtAt σ.val o = some j)

theorem oStore_wr {P : Program} {H : Heap} {t : TypeId} {a x : AV} {c : Bool} {j : Nat} {ob : HObj} {v : AV} (h : oStore P H t a x = some (.wr c j ob v)) : (H j).isSome = true ∧ avId a = some j := by
  unfold oStore at h
  split at h
  · split at h
    · rename_i hH
      split at h
      · have := (cond_some h).2
        cases this
        exact ⟨by rw [hH]; rfl, rfl⟩
      · simp at h
    · simp at h
  · split at h
    · rename_i hH
      split at h
      · split at h
        · have := (cond_some h).2
          cases this
          exact ⟨by rw [hH]; rfl, rfl⟩
        · simp at h
      · simp at h
    · simp at h
  · simp at h

theorem oAppend_wr {P : Program} {H : Heap} {id t : Nat} {s x : AV} {c : Bool} {j : Nat} {ob : HObj} {v : AV} (h : oAppend P H id t s x = some (.wr c j ob v)) : (H j).isSome = true ∧ avId s = some j := by
  unfold oAppend at h
  split at h
  case h_2 => simp at h
  split at h
  case h_2 => simp at h
  split at h
  case h_2 => simp at h
  split at h
  case h_2 => simp at h
  have h := (cond_out h).2
  split at h
  · split at h
    case h_2 => simp at h
    rename_i hH
    split at h
    case h_2 => simp at h
    have := (cond_some h).2
    cases this
    exact ⟨by rw [hH]; rfl, rfl⟩
  · split at h
    case h_2 => simp at h
    split at h
    case h_2 => simp at h
    have := (cond_some h).2
    simp at this
  · simp at h

theorem oAppendH_wr {P : Program} {H : Heap} {id t : Nat} {s x : AV} {c : Bool} {j : Nat} {ob : HObj} {v : AV} (h : oAppendH P H id t s x = some (.wr c j ob v)) : (H j).isSome = true ∧ avId s = some j := by
  unfold oAppendH at h
  split at h
  case h_2 => exact oAppend_wr h
  split at h
  case h_2 => simp at h
  split at h
  case h_2 => simp at h
  rename_i hH
  split at h
  case h_2 => simp at h
  have h := (cond_some h).2
  cases h
  exact ⟨by rw [hH]; rfl, rfl⟩

theorem updRow_some {u : UCon} {Hh : Heap} {i g : Nat} {part : Option Nat} {rest : List AV} {r : HObj × AV} (h : updRow u Hh i g part rest = some r) : (Hh i).isSome = true := by
  unfold updRow at h
  split at h
  · rename_i hH; rw [hH]; rfl
  · simp at h

theorem updOut_some {u : UCon} {Hh : Heap} {as : List AV} {i : Nat} {o : HObj} {v : AV} (h : updOut u Hh as = some (i, o, v)) : (Hh i).isSome = true ∧ ∃ x r, as = x :: r ∧ avId x = some i := by
  unfold updOut at h
  split at h
  · split at h
    · rename_i hr; cases h; exact ⟨updRow_some hr, _, _, rfl, rfl⟩
    · simp at h
  · obtain ⟨_, h⟩ := cond_out h
    split at h
    · rename_i hr; cases h; exact ⟨updRow_some hr, _, _, rfl, rfl⟩
    · simp at h
  · simp at h

def Out.writes : Out → Option Nat
  | .wr _ i _ _ => some i
  | .nxt _ i _ _ _ => some i
  | _ => none

theorem sem_writes {P : Program} {H : Heap} {id : Nat} {o : Oper} {ρ : Operand → AV} {out : Out} {j : Nat} (h : sem P H id o ρ = some out) (hw : out.writes = some j) :
    isW0 o = true ∧ (H j).isSome = true ∧ tgtAt ρ o = some j := by
  obtain ⟨dst, op, ty, pos, af, gd⟩ := o
  unfold sem at h
  have no : ∀ {o : Out} {a : Prop}, some o = some out → o.writes = none → a := by
    intro o a h1 h2
    cases h1; rw [h2] at hw; simp at hw
  cases op <;> simp only [reduceCtorEq] at h
  case move x => exact no h rfl
  case assign x => exact no h rfl
  case makeFunc fn first caps => exact no h rfl
  case store t a x =>
    cases out <;> simp only [Out.writes, reduceCtorEq, Option.some.injEq] at hw
    · subst hw; exact ⟨rfl, oStore_wr h⟩
    · unfold oStore at h; (repeat' split at h) <;> first | (simp at h; done) | (have := (cond_some h).2; simp at this)
  case next x s =>
    refine ⟨rfl, ?_⟩
    unfold oNext at h
    split at h
    case h_2 => simp at h
    split at h
    case h_2 => simp at h
    rename_i hH
    cases h
    simp only [Out.writes, Option.some.injEq] at hw
    subst hw
    exact ⟨by rw [hH]; rfl, by simp only [tgtAt]; simp_all [avId]⟩
  case pick c a b => split at h <;> first | exact no h rfl | simp at h
  case alloc t => unfold oAlloc at h; (repeat' split at h) <;> first | exact no h rfl | simp at h
  case box t x => unfold oBox at h; (repeat' split at h) <;> first | exact no h rfl | simp at h
  case load t a =>
    unfold oLoad at h; (repeat' split at h) <;> first | exact no h rfl | (simp at h; done) | skip
    all_goals (obtain ⟨_, h⟩ := cond_out h; (repeat' split at h) <;> first | exact no h rfl | simp at h)
  case fieldAddr s x f =>
    unfold oField at h
    split at h
    case h_2 => simp at h
    split at h
    case h_2 => simp at h
    split at h
    case h_2 => simp at h
    rename_i ti _
    cases h0 : Nat.beq ti.size 0 <;> rw [h0] at h <;> simp only [cond_true, cond_false, reduceCtorEq] at h
    (repeat' split at h) <;> first | exact no h rfl | (simp at h; done) | (exact no (cond_out h).2 rfl)
  case field s x f => unfold oPart at h; (repeat' split at h) <;> first | exact no h rfl | simp at h
  case nilCheck x => unfold oNil at h; (repeat' split at h) <;> first | exact no h rfl | (simp at h; done) | (exact no (cond_out h).2 rfl)
  case binOp op t x y yt =>
    unfold oBin at h; split at h
    · split at h <;> first | exact no h rfl | simp at h
    · have h := (cond_no h).2
      (repeat' split at h) <;> first | exact no h rfl | simp at h
    · simp at h
  case unOp op t x => unfold oUn at h; (repeat' split at h) <;> first | exact no h rfl | simp at h
  case convert s d x =>
    split at h
    · unfold oConv at h; (repeat' split at h) <;> first | exact no h rfl | simp at h
    · unfold oStr at h; (repeat' split at h) <;> first | exact no h rfl | simp at h
  case build t parts => unfold oBuild at h; (repeat' split at h) <;> first | exact no h rfl | simp at h
  case buildSlice t n parts =>
    unfold oBuildSlice at h
    split at h
    case h_2 => simp at h
    split at h
    case h_3 => simp at h
    case h_1 =>
      split at h
      case h_2 => simp at h
      split at h
      case h_2 => simp at h
      have h := (cond_out h).2
      split at h
      case h_2 => simp at h
      split at h
      · exact no h rfl
      · simp at h
    case h_2 =>
      split at h
      case h_2 => simp at h
      split at h
      case h_2 => simp at h
      have h := (cond_out h).2
      split at h
      · exact no h rfl
      · simp at h
  case makeSlice t l c =>
    unfold oMake at h
    (repeat' split at h) <;> first | exact no h rfl | (simp at h; done) | (exact no (cond_out h).2 rfl)
  case slice t x lo hi mx =>
    unfold oSliceH oSub oSlice3 oSlice at h
    (repeat' split at h) <;> first | exact no h rfl | (simp at h; done) | (exact no (cond_out h).2 rfl)
  case range t x => unfold oRange at h; (repeat' split at h) <;> first | exact no h rfl | simp at h
  case extract t i => unfold oExt at h; (repeat' split at h) <;> first | exact no h rfl | simp at h
  case index t x i => unfold oIndex at h; (repeat' split at h) <;> first | exact no h rfl | simp at h
  case makeMap t r =>
    cases r with
    | none => unfold oMakeMap at h; exact no (cond_out h).2 rfl
    | some _ => simp at h
  case lookup t x k ok => unfold oLookup at h; (repeat' split at h) <;> first | (simp at h; done) | (exact no (cond_out h).2 rfl)
  case mapEntry t m k =>
    refine ⟨rfl, ?_⟩
    unfold oMapEntry at h
    split at h
    case h_2 => simp at h
    split at h
    case h_2 => simp at h
    rename_i hH
    have h := (cond_some h).2
    subst h
    simp only [Out.writes, Option.some.injEq] at hw
    subst hw
    exact ⟨by rw [hH]; rfl, by simp only [tgtAt]; simp_all [avId]⟩
  case mapUpdate t m k x =>
    refine ⟨rfl, ?_⟩
    unfold oMapUpdate at h
    split at h
    case h_2 => simp at h
    split at h
    case h_2 => simp at h
    rename_i hH
    have h := (cond_some h).2
    subst h
    simp only [Out.writes, Option.some.injEq] at hw
    subst hw
    exact ⟨by rw [hH]; rfl, by simp only [tgtAt]; simp_all [avId]⟩
  case entryStore t m s x =>
    refine ⟨rfl, ?_⟩
    unfold oEntryStore at h
    split at h
    case h_2 => simp at h
    split at h
    case h_2 => simp at h
    rename_i hH
    cases h
    simp only [Out.writes, Option.some.injEq] at hw
    subst hw
    exact ⟨by rw [hH]; rfl, by simp only [tgtAt]; simp_all [avId]⟩
  case indexAddr t x i => unfold oAtH oAt at h; (repeat' split at h) <;> first | exact no h rfl | (simp at h; done) | (exact no (cond_out h).2 rfl)
  case call c =>
    obtain ⟨callee, args, argTypes⟩ := c
    simp only at h
    split at h
    · split at h
      · unfold oLenH oLen at h; (repeat' split at h) <;> first | exact no h rfl | (simp at h; done) | (exact no (cond_out h).2 rfl)
      · simp at h
    · split at h
      · refine ⟨rfl, ?_⟩
        unfold oClear at h
        split at h
        case h_2 => simp at h
        split at h
        case h_2 => simp at h
        split at h
        case h_2 => simp at h
        rename_i hH
        (repeat' split at h) <;> first | (simp at h; done) | skip
        all_goals
          have h := (cond_some h).2
          subst h
          simp only [Out.writes, Option.some.injEq] at hw
          subst hw
          exact ⟨by rw [hH]; rfl, by simp only [tgtAt]; simp_all [avId]⟩
      · simp at h
    · split at h
      · refine ⟨rfl, ?_⟩
        have h := (cond_out h).2
        cases out <;> simp only [Out.writes, reduceCtorEq, Option.some.injEq] at hw
        · subst hw; obtain ⟨g1, g2⟩ := oAppendH_wr h; exact ⟨g1, by simp only [tgtAt]; simp_all⟩
        · exfalso
          unfold oAppendH at h
          split at h
          · (repeat' split at h) <;> first | (simp at h; done) | (have := (cond_some h).2; simp at this)
          unfold oAppend at h
          split at h
          case h_2 => simp at h
          split at h
          case h_2 => simp at h
          split at h
          case h_2 => simp at h
          split at h
          case h_2 => simp at h
          have h := (cond_out h).2
          (repeat' split at h) <;> first | (simp at h; done) | (have := (cond_some h).2; simp at this)
      · simp at h
    · split at h
      · unfold oMin at h
        split at h
        · exact no (cond_out h).2 rfl
        · simp at h
      · simp at h
    · split at h
      · unfold oMax at h
        split at h
        · exact no (cond_out h).2 rfl
        · simp at h
      · simp at h
    · unfold oCall at h
      split at h
      case h_3 => simp at h
      case h_2 => exact no h rfl
      split at h
      case h_2 => simp at h
      split at h
      case h_2 => simp at h
      rename_i fn _ _ _ _
      cases hn : fn.name == "runtime.NumGoroutine" <;> rw [hn] at h <;> simp only [cond_true, cond_false, reduceCtorEq] at h
      exact no h rfl
    · simp at h

theorem sem_wr {P : Program} {H : Heap} {id : Nat} {o : Oper} {ρ : Operand → AV} {c : Bool} {j : Nat} {ob : HObj} {v u : AV} (h : sem P H id o ρ = some (.wr c j ob v) ∨ sem P H id o ρ = some (.nxt c j ob v u)) :
    isW0 o = true ∧ (H j).isSome = true ∧ tgtAt ρ o = some j := by
  rcases h with h | h
  · exact sem_writes h rfl
  · exact sem_writes h rfl

theorem upd_tgt {P : Program} {C : Cons} {H : Heap} {id : Nat} {o : Oper} {σ : St} {k : Callee} {as : List AV} {u : UCon} {x : AV} {r : List AV} (hs : sem P H id o σ.val = some (.call k as)) (hu : updOfC C o k = some u) (ha : as = x :: r) : tgtAt σ.val o = avId x := by
  cases k with
  | yld i => simp [updOfC] at hu
  | fn k =>
    simp only [updOfC] at hu
    unfold updOf at hu
    split at hu
    case h_2 => simp at hu
    rename_i c hc
    split at hu
    case h_2 => simp at hu
    rename_i k' hk
    unfold sem at hs
    rw [hc] at hs
    simp only [hk] at hs
    have hv : σ.val (.func k') = .fn (.func k') [] [] := rfl
    rw [hv] at hs
    unfold oCall at hs
    simp only at hs
    split at hs
    case h_2 => simp at hs
    split at hs
    case h_2 => simp at hs
    obtain ⟨_, hs⟩ := cond_no hs
    simp only [Option.some.injEq, Out.call.injEq, List.nil_append, List.append_nil] at hs
    unfold tgtAt
    rw [hc]
    simp only
    rw [← hs.2] at ha
    cases hl : c.args.toList with
    | nil => rw [hl] at ha; simp at ha
    | cons a l =>
      rw [hl] at ha
      simp only [List.map_cons, List.cons.injEq] at ha
      simp only
      rw [ha.1]

theorem stepE_ok {P : Program} {C : Cons} {ops : Array Oper} {Hh : Heap} {id : Nat} {o : Oper} {σ : St} {e : Eff} (h : stepE P C ops Hh id o σ = some e) : EffOK C Hh σ id o e := by
  unfold stepE at h
  split at h
  · unfold exEff at h
    split at h
    · obtain ⟨_, rfl⟩ := cond_some h; exact .inl rfl
    · obtain ⟨_, rfl⟩ := cond_some h; exact .inr (.inl rfl)
    · rename_i hs
      obtain ⟨_, rfl⟩ := cond_some h
      obtain ⟨h1, h2, h3⟩ := sem_wr (u := .junk) (.inl hs)
      exact .inr (.inr ⟨by unfold isW; rw [h1]; rfl, _, _, rfl, h2, h3⟩)
    · rename_i c i ob v u hs
      obtain ⟨h1, h2, h3⟩ := sem_wr (.inr hs)
      cases c with
      | true => simp only [cond_true, Option.some.injEq] at h; subst h; exact .inr (.inr ⟨by unfold isW; rw [h1]; rfl, _, _, rfl, h2, h3⟩)
      | false => simp only [cond_false, Option.some.injEq] at h; subst h; exact .inl rfl
    · split at h
      · rename_i u hu
        split at h
        · rename_i i ob v hout
          cases h
          obtain ⟨g1, x, r, g2, g3⟩ := updOut_some hout
          exact .inr (.inr ⟨by unfold isW; rw [updOfC_isUpd hu]; simp, i, ob, rfl, g1, by rw [upd_tgt (by assumption) hu g2]; exact g3⟩)
        · simp at h
      split at h
      · unfold conEff at h
        split at h
        · split at h
          · cases h; exact .inr (.inl rfl)
          · simp at h
        · simp at h
      · simp at h
    · simp at h
  · cases h; exact .inl rfl
  · simp at h

section
variable [Glob] {P : Program} {C : Cons} {F : Inl} {r : Option Nat} {N : Stable} {w w0 : World} {μ μ' : Mu} {S S' : Stable} {B : Nat} {σ σ' : St} {a : Act} {Q : Exit → Act → World → Prop}

omit [Glob] in
theorem effBd {Hh : Heap} {id : Nat} {o : Oper} {e : Eff} (sub : ∀ i o, Hh i = some o → σ.heap i = some o) (hok : EffOK C Hh σ id o e) (hBd : Bd σ) (q : Nat) (hq : setAll σ.heap e.sets q ≠ none) :
    q ∈ σ.ids ++ cond e.new (e.sets.map (·.1)) [] := by
  rcases setAll_or _ _ q hq with h | h
  · rcases hok with h0 | h0 | ⟨h0, j, ob, hs, hj⟩
    · rw [h0] at h; simp at h
    · rw [h0]; exact List.mem_append.2 (.inr h)
    · obtain ⟨hj, _⟩ := hj
      rw [hs] at h
      simp only [List.map_cons, List.map_nil, List.mem_singleton] at h
      subst h
      refine List.mem_append.2 (.inl (hBd q ?_))
      cases ho : Hh q with
      | none => rw [ho] at hj; simp at hj
      | some o' => rw [sub _ _ ho]; simp
  · exact List.mem_append.2 (.inl (hBd q h))

theorem exOp_bd (hF : InlOK P F) {ops : Array Oper} {hide : Heap → Heap} (hs : ∀ H i o, hide H i = some o → H i = some o) {id i : Nat} (h : exOp P C F ops hide id i σ = some σ') (hBd : Bd σ) :
    Bd (σ'.addIds (opNew P C ops (hide σ.heap) id i σ)) := by
  unfold exOp at h
  unfold opNew
  intro q hq
  simp only [St.addIds] at hq ⊢
  cases ho : ops[i]? with
  | none => rw [ho] at h; simp only [Option.some.injEq] at h; subst h; exact List.mem_append.2 (.inl (hBd q hq))
  | some o =>
    rw [ho] at h
    simp only at h ⊢
    cases hw : want ops σ o with
    | none => rw [hw] at h; simp at h
    | some b =>
      rw [hw] at h
      cases b with
      | false =>
        simp only at h ⊢
        obtain ⟨e1, e2⟩ := put_keeps h
        rw [e1] at hq; rw [e2]
        exact List.mem_append.2 (.inl (hBd q hq))
      | true =>
        simp only at h ⊢
        cases he : exEff P C (hide σ.heap) id o σ.val with
        | some e =>
          rw [he] at h
          simp only at h ⊢
          obtain ⟨e1, e2⟩ := eff_keeps h
          rw [e1] at hq; rw [e2]
          have hok := stepE_ok (P := P) (C := C) (ops := ops) (Hh := hide σ.heap) (id := id) (o := o) (σ := σ) (e := e) (by unfold stepE; rw [hw]; exact he)
          exact effBd (hs σ.heap) hok hBd q hq
        | none =>
          rw [he] at h
          simp only at h ⊢
          split at h
          · rename_i v H' L' hi
            obtain ⟨e1, e2⟩ := put_keeps h
            rw [e1] at hq; rw [e2]
            unfold exInl at hi
            split at hi
            · split at hi
              · simp at hi
              · exact List.mem_append.2 (.inl ((hF _ _ _ _ _ _ _ _ hi hBd).1 q hq))
            · simp at hi
          · simp at h

theorem exOps_bd (hF : InlOK P F) {ops : Array Oper} {base : Nat} : ∀ (l : List Nat) (σ σ' : St), exOps P C F ops base l σ = some σ' → Bd σ → Bd σ'
  | [], σ, σ', h, hB => by simp only [exOps, Option.some.injEq] at h; subst h; exact hB
  | i :: l, σ, σ', h, hB => by
    simp only [exOps] at h
    split at h
    · rename_i σ1 h1
      exact exOps_bd hF l _ σ' h (exOp_bd hF (fun H i o h => h) h1 hB)
    · simp at h

omit [Glob] in
theorem AR.addIds {L : List Nat} (A : AR N μ S σ a) : AR N μ S (σ.addIds L) a := ⟨A.defers, A.size, A.tmp⟩

theorem exOps_ok (hC : TabsOK P C) (hF : InlOK P F) {ops : Array Oper} {base : Nat} : ∀ (l : List Nat) (σ σ' : St) (a : Act) (w : World) (μ : Mu) (S : Stable),
    exOps P C F ops base l σ = some σ' → Bd σ → AR N μ S σ a → Rel μ S σ.heap B w0 w →
    (∀ a' w' μ' S', AR N μ' S' σ' a' → Rel μ' S' σ'.heap B w0 w' → Carry B μ S σ.heap μ' S' σ'.heap → Q .normal a' w') → wpOpsIn (WF r) 0 P ops Q l a w
  | [], σ, σ', a, w, μ, S, h, hB, A, R, hK => by
    simp only [exOps, Option.some.injEq] at h; subst h
    exact hK a w μ S A R Carry.refl
  | i :: l, σ, σ', a, w, μ, S, h, hB, A, R, hK => by
    simp only [exOps] at h
    split at h
    · rename_i σ1 h1
      rw [wpOpsIn_cons]
      refine exOp_ok hC hF (fun H i o h => h) h1 (.inl hB) A R fun a1 w1 μ1 S1 A1 R1 C1 => ?_
      exact exOps_ok hC hF l _ σ' a1 w1 μ1 S1 h (exOp_bd hF (fun H i o h => h) h1 hB) A1.addIds R1 fun a' w' μ' S' A' R' C' => hK a' w' μ' S' A' R' (C1.trans C')
    · simp at h

omit [Glob] in
theorem exHs_bd {ops : Array Oper} {m : List Nat} {W : List (Option Nat)} {base : Nat} : ∀ (l : List Nat) (σ σ' : St) (L : List Nat), exHs P C ops m W base l σ = some σ' → Bd (σ.addIds L) → Bd (σ'.addIds (L ++ hsNew P C ops m W base l σ))
  | [], σ, σ', L, h, hB => by
    simp only [exHs, Option.some.injEq] at h; subst h
    intro q hq
    have := hB q hq
    simpa [hsNew, St.addIds] using this
  | i :: l, σ, σ', L, h, hB => by
    simp only [exHs] at h
    split at h
    · rename_i σ1 h1
      have hB1 : Bd (σ1.addIds (L ++ opNew P C ops (hideF base ops.size (m.getD i 0) (oth m W ops.size i) σ.heap) (base + i * 16) i σ)) := by
        intro q hq
        -- one operation, in a state with the numbers L more
        have h1' := h1
        unfold exH at h1'
        obtain ⟨_, h1'⟩ := cond_out h1'
        unfold exOp at h1'
        unfold opNew
        simp only [St.addIds] at hq ⊢
        have old : σ.heap q ≠ none → q ∈ σ.ids ++ L := fun h => hB q h
        cases ho : ops[i]? with
        | none =>
          rw [ho] at h1'; simp only [Option.some.injEq] at h1'; subst h1'
          have := old hq
          simp only [List.append_nil]; exact this
        | some o =>
          rw [ho] at h1'
          simp only at h1' ⊢
          cases hw : want ops σ o with
          | none => rw [hw] at h1'; simp at h1'
          | some b =>
            rw [hw] at h1'
            cases b with
            | false =>
              simp only at h1' ⊢
              obtain ⟨e1, e2⟩ := put_keeps h1'
              rw [e1] at hq; rw [e2]
              simp only [List.append_nil]; exact old hq
            | true =>
              simp only at h1' ⊢
              cases he : exEff P C (hideF base ops.size (m.getD i 0) (oth m W ops.size i) σ.heap) (base + i * 16) o σ.val with
              | some e =>
                rw [he] at h1'
                simp only at h1' ⊢
                obtain ⟨e1, e2⟩ := eff_keeps h1'
                rw [e1] at hq; rw [e2]
                have hok := stepE_ok (P := P) (C := C) (ops := ops) (Hh := hideF base ops.size (m.getD i 0) (oth m W ops.size i) σ.heap) (id := base + i * 16) (o := o) (σ := σ) (e := e) (by unfold stepE; rw [hw]; exact he)
                have := effBd (σ := σ.addIds L) (id := base + i * 16) (fun i o h => by
                  unfold hideF at h
                  cases hv : (vis base ops.size _ i && !hasN _ i) with
                  | true => rw [hv] at h; exact h
                  | false => rw [hv] at h; simp at h) hok hB q hq
                rw [← List.append_assoc]; exact this
              | none =>
                rw [he] at h1'
                simp only at h1'
                split at h1'
                · rename_i hi
                  unfold exInl at hi
                  split at hi
                  · split at hi
                    · simp at hi
                    · simp [noInl] at hi
                  · simp at hi
                · simp at h1'
      have := exHs_bd l σ1 σ' _ h hB1
      simp only [hsNew, h1]
      rw [← List.append_assoc]; exact this
    · simp at h

omit [Glob] in
theorem exAny_bd {ops : Array Oper} {base : Nat} (h : exAny P C ops base σ = some σ') (hB : Bd σ) : Bd σ' := by
  unfold exAny at h
  cases hr : regionOK P C ops (masks ops) with
  | false => rw [hr] at h; simp at h
  | true =>
    rw [hr] at h
    simp only [cond_true] at h
    split at h
    · rename_i σ1 h1
      cases h
      have := exHs_bd (List.range ops.size) σ σ1 [] h1 (by intro q hq; have := hB q hq; simpa [St.addIds] using this)
      simpa using this
    · simp at h
end
end Go.Sy
