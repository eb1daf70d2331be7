/- The run as a tree of tests, loops by what they come to. -/
import Derived.Test.YtipajaocggpahaaGreatSym16
namespace Go.Sy
open Go Go.RowKit
set_option linter.unusedSimpArgs false
set_option linter.unusedVariables false

def Le {α : Type} (a b : Option α) : Prop := ∀ r, a = some r → b = some r
theorem Le.refl {α : Type} (a : Option α) : Le a a := fun _ h => h
theorem Le.of_eq {α : Type} {a b : Option α} (h : a = b) : Le a b := h ▸ Le.refl a
theorem Le.none {α : Type} (b : Option α) : Le Option.none b := fun _ h => by simp at h
theorem Le.trans {α : Type} {a b c : Option α} (h : Le a b) (k : Le b c) : Le a c := fun r x => k r (h r x)
theorem Le.bind {α β : Type} {a : Option α} {f g : α → Option β} (h : ∀ x, Le (f x) (g x)) : Le (a.bind f) (a.bind g) := by
  cases a with
  | none => exact Le.none _
  | some x => exact h x

/-- how a round ends: with another one, out of the loop, or with a return -/
inductive R3 (α β γ : Type) where
  | next (x : α)
  | out (y : β)
  | ret (y : γ)

def iter {α β γ : Type} : Nat → (α → Option (R3 α β γ)) → α → Option (Sum β γ)
  | 0, _, _ => none
  | n + 1, f, x => match f x with
    | some (.next x') => iter n f x'
    | some (.out y) => some (.inl y)
    | some (.ret y) => some (.inr y)
    | none => none

/-- a loop's summary: in the frame of which level, of which function; its shapes; what a round comes to -/
structure LSum where
  n : Nat
  k : Nat
  shape : LShape
  outI : Nat
  out : LShape
  ret : LShape
  step : shape.X → Option (R3 shape.X out.X ret.X)
  rnd : Bool := false
  lab : Option Nat := none

/-- within a round there are no further ranges -/
def LSum.rf (s : LSum) : Option Nat := cond s.rnd none (some s.k)

def eqRf : Option Nat → Option Nat → Bool
  | none, none => true
  | some a, some b => Nat.beq a b
  | _, _ => false

theorem eqRf_eq {a b : Option Nat} (h : eqRf a b = true) : a = b := by
  cases a <;> cases b <;> simp only [eqRf, Bool.false_eq_true] at h <;> first | rfl | rw [Nat.eq_of_beq_eq_true h]

def LSum.od (s : LSum) : List Nat := s.shape.od.map (·.1)
def LSum.lh (s : LSum) : LoopH := ⟨s.shape.hint, some s.out.hint, some s.ret.hint⟩
def LSum.fits (s : LSum) (n k : Nat) (od : List Nat) (rf lab : Option Nat) : Bool :=
  eqRf s.lab lab && eqRf s.rf rf && Nat.beq s.n n && Nat.beq s.k k && eqNats s.od od && eqNats (s.out.od.map (·.1)) od && eqNats (s.ret.od.map (·.1)) od

abbrev Sums := Nat → Nat → Option LSum

def sumOf (Sm : Sums) (base : Nat) (x : Code) : Option LSum :=
  match firstReg x with
  | some r => Sm base r
  | none => none

def hintsOf (Sm : Sums) : Hints := fun base r => match Sm base r with
  | some s => some s.lh
  | none => none

/-- what stands behind a label -/
def labB : Code → Code → List Code
  | .label _, y => [y]
  | _, _ => []

def loopsOf : Code → List Code
  | .seq x y => labB x y ++ (loopsOf x ++ loopsOf y)
  | .scope x => loopsOf x
  | .cond _ x y => loopsOf x ++ loopsOf y
  | .block _ x => loopsOf x
  | .loop x => x :: loopsOf x
  | .rangeFunc _ _ x y => loopsOf x ++ loopsOf y
  | _ => []

def St.setT (σ : St) (d : Nat) (v : AV) : St := ⟨σ.nt, upd σ.tmps d v, σ.heap, σ.ids⟩

section
variable {R : Type}

def kPut (σ : St) (H : Heap) (L : List Nat) (dst : Option Tmp) (v : AV) (k : St → Option R) : Option R :=
  match dst with
  | none => k ⟨σ.nt, σ.tmps, H, L⟩
  | some d => cond (ltN d σ.nt) (k ⟨σ.nt, upd σ.tmps d v, H, L⟩) none

/-- an operation's effect, handed on with the numbers of what is new -/
def kEff (σ : St) (id : Nat) (dst : Option Tmp) (e : Eff) (k : St → List Nat → Option R) : Option R :=
  cond (e.new && !(freshAll σ.heap e.sets && inSite id e.sets)) none (kPut σ (setAll σ.heap e.sets) σ.ids dst e.v fun σ' => k σ' (cond e.new (e.sets.map (·.1)) []))

def kTest (σ : St) (x : Operand) (k : St → Bool → Option R) (skip : Option R) : Option R :=
  match σ.val x with
  | .lit (.bool c) => match x with
    | .tmp d => cond c (k (σ.setT d (.lit (.bool true))) true) (k (σ.setT d (.lit (.bool false))) false)
    | _ => cond c (k σ true) (k σ false)
  | .lit (.tuple _) => skip
  | _ => none

abbrev KInl (R : Type) := Nat → Callee → List AV → Heap → List Nat → (AV → Heap → List Nat → Option R) → Option R

/-- a row that is turned, handed on -/
def kUpdRow (u : UCon) (Hh : Heap) (i g : Nat) (part : Option Nat) (rest : List AV) (k : HObj → AV → Option R) : Option R :=
  match Hh i with
  | some (.row te e g' xs) => match castL (e := e) (e' := u.e) (match part with
      | none => xs
      | some b => xs.take b) with
    | some zs => match decArgs (fun q => cond (Nat.beq q i) none (Hh q)) u.ps rest with
      | some x => (u.f zs x).bind fun ys => cond (Nat.beq g g' && Nat.beq te u.te && u.e.flat) (match u.keep with
            | true => cond (Nat.beq (List.length ys) (List.length zs) && part.isNone) (k (.row te u.e g ys) (.lit (.tuple #[]))) none
            | false => k (.row te u.e (g + 1) ys) (.sl i (g + 1))) none
      | none => none
    | none => none
  | _ => none

def kUpd (u : UCon) (Hh : Heap) (as : List AV) (k : Nat → HObj → AV → Option R) : Option R :=
  match as with
  | .sl i g :: rest => kUpdRow u Hh i g none rest (k i)
  | .sub i g a b :: rest => cond (Nat.beq a 0) (kUpdRow u Hh i g (some b) rest (k i)) none
  | _ => none

theorem kUpdRow_eq (u : UCon) (Hh : Heap) (i g : Nat) (part : Option Nat) (rest : List AV) (k : HObj → AV → Option R) : kUpdRow u Hh i g part rest k = match updRow u Hh i g part rest with
    | some (o, v) => k o v
    | none => none := by
  unfold kUpdRow updRow
  generalize decArgs (fun q => cond (Nat.beq q i) none (Hh q)) u.ps rest = d
  cases Hh i with
  | none => rfl
  | some o =>
    cases o with
    | row te e g' xs =>
      simp only
      generalize castL (e := e) (e' := u.e) (match part with
        | none => xs
        | some b => xs.take b) = q
      cases q with
      | none => rfl
      | some zs =>
        cases d with
        | none => rfl
        | some x =>
          simp only
          cases u.f zs x with
          | none => rfl
          | some ys =>
            simp only [Option.bind_some]
            cases (Nat.beq g g' && Nat.beq te u.te && u.e.flat) with
            | false => rfl
            | true =>
              simp only [cond_true]
              cases u.keep with
              | true => simp only; cases (Nat.beq (List.length ys) (List.length zs) && part.isNone) <;> rfl
              | false => rfl
    | _ => rfl

theorem kUpd_eq (u : UCon) (Hh : Heap) (as : List AV) (k : Nat → HObj → AV → Option R) : kUpd u Hh as k = match updOut u Hh as with
    | some (i, o, v) => k i o v
    | none => none := by
  cases as with
  | nil => rfl
  | cons x rest =>
    cases x with
    | sl i g =>
      simp only [kUpd, updOut]
      rw [kUpdRow_eq]
      cases updRow u Hh i g none rest <;> rfl
    | sub i g a b =>
      simp only [kUpd, updOut]
      rw [kUpdRow_eq]
      cases Nat.beq a 0 with
      | false => rfl
      | true => simp only [cond_true]; cases updRow u Hh i g (some b) rest <;> rfl
    | _ => rfl

def kRun (P : Program) (C : Cons) (G : KInl R) (Hh : Heap) (id : Nat) (o : Oper) (σ : St) (k : St → List Nat → Option R) : Option R :=
  match o.op with
  | .pick c a b => kTest σ c (fun σ t => kPut σ σ.heap σ.ids o.dst (cond t (σ.val a) (σ.val b)) fun σ' => k σ' []) none
  | _ => match sem P Hh id o σ.val with
    | some (.val c v) => cond c (kPut σ σ.heap σ.ids o.dst v fun σ' => k σ' []) none
    | some (.new c i ob v) => cond c (kEff σ id o.dst ⟨[(i, ob)], true, v⟩ k) none
    | some (.wr c i ob v) => cond c (kEff σ id o.dst ⟨[(i, ob)], false, v⟩ k) none
    | some (.nxt c i ob v u) => cond c (kEff σ id o.dst ⟨[(i, ob)], false, v⟩ k) (kEff σ id o.dst ⟨[], false, u⟩ k)
    | some (.call kk as) => match updOfC C o kk with
      | some u => kUpd u Hh as fun i ob v => kEff σ id o.dst ⟨[(i, ob)], false, v⟩ k
      | none => match conOfC C kk with
      | some con => match isR P o, decArgs (readHeap con Hh) con.ps as with
        | true, some x => (con.f x).bind fun y => kEff σ id o.dst ⟨objRs con.rs y id, true, resAV (encRs con.rs y id)⟩ k
        | _, _ => none
      | none => G id kk as σ.heap σ.ids fun v H' L' => kPut σ H' L' o.dst v fun σ' => k σ' []
    | none => none

def kOp (P : Program) (C : Cons) (G : KInl R) (ops : Array Oper) (hide : Heap → Heap) (id i : Nat) (σ : St) (k : St → List Nat → Option R) : Option R :=
  match ops[i]? with
  | none => k σ []
  | some o => match o.guard with
    | none => kRun P C G (hide σ.heap) id o σ k
    | some (j, b) => match ops[j]? with
      | some g => match g.dst with
        | some d => kTest σ (.tmp d) (fun σ c => cond (c == b) (kRun P C G (hide σ.heap) id o σ k) (kPut σ σ.heap σ.ids o.dst (.lit undef) fun σ' => k σ' [])) (kPut σ σ.heap σ.ids o.dst (.lit undef) fun σ' => k σ' [])
        | none => kPut σ σ.heap σ.ids o.dst (.lit undef) fun σ' => k σ' []
      | none => kPut σ σ.heap σ.ids o.dst (.lit undef) fun σ' => k σ' []

def kOps (P : Program) (C : Cons) (G : KInl R) (ops : Array Oper) (base : Nat) : List Nat → St → (St → Option R) → Option R
  | [], σ, k => k σ
  | i :: l, σ, k => kOp P C G ops (fun H => H) (base + i * 16) i σ fun σ' L => kOps P C G ops base l (σ'.addIds L) k

def kHs (P : Program) (C : Cons) (ops : Array Oper) (m : List Nat) (W : List (Option Nat)) (base : Nat) : List Nat → List Nat → St → (St → Option R) → Option R
  | [], L, σ, k => k (σ.addIds L)
  | i :: l, L, σ, k => cond (tgtOK P C ops m W i σ) (kOp P C (fun _ _ _ _ _ _ => none) ops (hideF base ops.size (m.getD i 0) (oth m W ops.size i)) (base + i * 16) i σ fun σ' L' => kHs P C ops m W base l (L ++ L') σ' k) none

def kAny (P : Program) (C : Cons) (ops : Array Oper) (base : Nat) (σ : St) (k : St → Option R) : Option R :=
  cond (regionOK P C ops (masks ops)) (kHs P C ops (masks ops) (wOf P C ops (masks ops) base σ) base (List.range ops.size) [] σ k) none

def kLoop : Nat → (St → (Ex → St → Option R) → Option R) → St → (Ex → St → Option R) → Option R
  | 0, _, _, _ => none
  | n + 1, f, σ, k => f σ fun e σ' => match e with
    | .nrm => kLoop n f σ' k
    | e => k e σ'

/-- the function that was ranged over has returned -/
def kRngOut (σ : St) (i : Nat) (H : Heap) (L : List Nat) (k : Ex → St → Option R) : Option R :=
  match H i with
  | some (.loop kk r .ready ts) => k .nrm ⟨σ.nt, σ.tmps, upd H i (some (.loop kk r .over ts)), L⟩
  | some (.loop kk r (.done j) ts) => k j.ex ⟨σ.nt, σ.tmps, upd H i (some (.loop kk r .over ts)), L⟩
  | _ => none

def kRange (P : Program) (G : KInl R) (base : Nat) (rf : Option Nat) (g : Operand) (body : Code) (σ : St) (k : Ex → St → Option R) : Option R :=
  match rf, σ.val g, firstReg body with
  | some fid, .fn (.func kk) first caps, some r => match rangeIn P fid r with
    | some x => match rngIn σ base fid r x with
      | some (σ1, i) => cond (callable P kk) (G (i + 1) (.fn kk) (first ++ [.yld i] ++ caps) σ1.heap σ1.ids fun _ H L => kRngOut σ i H L k) none
      | none => none
    | none => none
  | _, _, _ => none

/-- a round ends -/
def kRndOut (i k r : Nat) (e : Ex) (σ : St) (K : AV → Heap → List Nat → Option R) : Option R :=
  match rndOut i k r e σ with
  | some (v, H, L) => K v H L
  | none => none

/-- a goto goes on with the loop, the end leaves it -/
def kFlip (l : Nat) (k : Ex → St → Option R) : Ex → St → Option R := fun e σ => match e with
  | .nrm => k (.exit endN) σ
  | .goto i => cond (Nat.beq i l) (k .nrm σ) none
  | .exit i => cond (Nat.beq i endN) none (k (.exit i) σ)
  | .ret => k .ret σ

def kUnflip (k : Ex → St → Option R) : Ex → St → Option R := fun e σ => match e with
  | .exit i => cond (Nat.beq i endN) (k .nrm σ) (k (.exit i) σ)
  | .ret => k .ret σ
  | _ => none

def kCode (P : Program) (C : Cons) (Sm : Sums) (G : KInl R) (n fid lf base : Nat) (od : List Nat) (rf : Option Nat) : Bool → Code → St → (Ex → St → Option R) → Option R
  | _, .skip, σ, k => k .nrm σ
  | _, .region id ops draw, σ, k =>
    cond draw (kAny P C ops (site base id) σ fun σ' => k .nrm σ') (kOps P C G ops (site base id) (List.range ops.size) σ fun σ' => k .nrm σ')
  | false, .seq x y, σ, k => kCode P C Sm G n fid lf base od rf false x σ fun e σ' => match e with
    | .nrm => kCode P C Sm G n fid lf base od rf false y σ' k
    | e => k e σ'
  | true, .seq x y, σ, k => match labOf x with
    | some l => match sumOf Sm base y with
      | some s => cond (s.fits n fid od rf (some l)) (match s.shape.read σ with
        | some z => (iter lf s.step z).bind fun r => match r with
          | .inl y => kUnflip k (.exit s.outI) (s.out.emb y)
          | .inr y => k .ret (s.ret.emb y)
        | none => none) none
      | none => kLoop lf (fun σ k' => kCode P C Sm G n fid lf base od rf false y σ (kFlip l k')) σ (kUnflip k)
    | none => kCode P C Sm G n fid lf base od rf false x σ fun e σ' => match e with
      | .nrm => kCode P C Sm G n fid lf base od rf true y σ' k
      | .goto _ => none
      | e => k e σ'
  | _, .cond c x y, σ, k => kTest σ c (fun σ' b => cond b (kCode P C Sm G n fid lf base od rf false x σ' k) (kCode P C Sm G n fid lf base od rf false y σ' k)) none
  | _, .block id x, σ, k => kCode P C Sm G n fid lf base od rf false x σ fun e σ' => match e with
    | .exit i => cond (Nat.beq i id) (k .nrm σ') (k (.exit i) σ')
    | e => k e σ'
  | _, .loop x, σ, k => match sumOf Sm base x with
    | some s => cond (s.fits n fid od rf none) (match s.shape.read σ with
      | some z => (iter lf s.step z).bind fun r => match r with
        | .inl y => k (.exit s.outI) (s.out.emb y)
        | .inr y => k .ret (s.ret.emb y)
      | none => none) none
    | none => kLoop lf (kCode P C Sm G n fid lf base od rf false x) σ k
  | _, .exit id, σ, k => k (.exit id) σ
  | _, .label _, σ, k => k .nrm σ
  | _, .ret, σ, k => k .ret σ
  | _, .rangeFunc g _ _ body, σ, k => kRange P G base rf g body σ k
  | _, .scope x, σ, k => cond (spineOK x) (kCode P C Sm G n fid lf base od rf true x σ fun e σ' => match e with
      | .goto _ => none
      | e => k e σ') none
  | _, .goto l, σ, k => k (.goto l) σ
  | _, _, _, _ => none

def kEnd (P : Program) (rs : List ResultVar) (σ : St) (k : AV → Heap → List Nat → Option R) : Option R :=
  match resAll P σ rs with
  | some vs => k (resAV vs) σ.heap σ.ids
  | none => none
end

/-- a round -/
def kRnd (i k r : Nat) {R : Type} (asn body : St → (Ex → St → Option R) → Option R) (σ : St) (K : AV → Heap → List Nat → Option R) : Option R :=
  asn σ fun e σ1 => match e with
    | .nrm => match rndBusy i k r σ1 with
      | some σ2 => body σ2 fun e σ3 => kRndOut i k r e σ3 K
      | none => none
    | _ => none

def kFun (P : Program) (C : Cons) (Sm : Sums) (lf : Nat) {R : Type} : Nat → KInl R
  | 0 => fun _ _ _ _ _ _ => none
  | n + 1 => fun base c as H L K => match c with
    | .fn k => match P.funcs[k]? with
      | some fn => match fn.body with
        | some c => cond (Nat.ble as.length fn.ntmps) (kCode P C Sm (kFun P C Sm lf n) n k lf (Nat.succ base * 4294967296) L (some k) false c ⟨fn.ntmps, nthAV as, H, L⟩ fun e σ => match e with
          | .nrm => kEnd P fn.results.toList σ K
          | .ret => kEnd P fn.results.toList σ K
          | _ => none) none
        | none => none
      | none => none
    | .yld i => match rndIn P i as H L with
      | some (k, r, x, σ) => kRnd i k r (kCode P C Sm (kFun P C Sm lf n) n k lf (Nat.succ base * 4294967296) L none false x.2.1) (kCode P C Sm (kFun P C Sm lf n) n k lf (Nat.succ base * 4294967296) L none false x.2.2) σ K
      | none => none

def kTop (P : Program) (C : Cons) (Sm : Sums) (lf n k : Nat) (ps : List Ty) (rs : List RTy) (x : Args ps) : Option (Res rs) :=
  kFun P C Sm lf n 0 (.fn k) (encArgs ps x) (fun _ => none) [] fun v H L => decEnd rs (some (v, H, L))

/-- what a round hands on -/
def LSum.roundK (s : LSum) : Ex → St → Option (R3 s.shape.X s.out.X s.ret.X)
  | .nrm, σ => match s.shape.read σ with
    | some x => some (.next x)
    | none => none
  | .exit i, σ => cond (Nat.beq i s.outI) (match s.out.read σ with
    | some y => some (.out y)
    | none => none) none
  | .ret, σ => match s.ret.read σ with
    | some y => some (.ret y)
    | none => none
  | _, _ => none

/-- what a round hands on, of a loop, or of one by a label -/
def LSum.roundF (s : LSum) : Ex → St → Option (R3 s.shape.X s.out.X s.ret.X) :=
  match s.lab with
  | none => s.roundK
  | some l => kFlip l s.roundK

/-- each summary's round is a round of its loop -/
def RoundsOK (P : Program) (C : Cons) (Sm : Sums) (lf : Nat) : Prop :=
  ∀ base r s, Sm base r = some s → ∀ fn c x, P.funcs[s.k]? = some fn → fn.body = some c → x ∈ loopsOf c → firstReg x = some r →
    ∀ z, Le (s.step z) (kCode P C Sm (kFun P C Sm lf s.n) s.n s.k lf base s.od s.rf false x (s.shape.emb z) s.roundF)
end Go.Sy
