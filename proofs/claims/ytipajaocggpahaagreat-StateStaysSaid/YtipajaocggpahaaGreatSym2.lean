/- What one operation makes of an abstract state, and that the model's operation does as much. -/
import Derived.Test.YtipajaocggpahaaGreatSym1
import Derived.Laws.Cells
import Derived.Laws.CopyRow
namespace Go.Sy
open Go Go.RowKit
set_option linter.unusedSimpArgs false

theorem cond_some {α : Type} {c : Bool} {a b : α} (h : cond c (some a) none = some b) : c = true ∧ a = b := by
  cases c <;> simp_all

theorem cond_no {α : Type} {c : Bool} {a : Option α} {b : α} (h : cond c none a = some b) : c = false ∧ a = some b := by
  cases c <;> simp_all

structure St where
  nt : Nat
  tmps : Nat → AV
  heap : Heap
  ids : List Nat      -- the objects that may be there

def ltN (a b : Nat) : Bool := Nat.ble (Nat.succ a) b
theorem ltN_true {a b : Nat} (h : a < b) : ltN a b = true := Nat.ble_eq_true_of_le h
theorem ltN_false {a b : Nat} (h : ¬ a < b) : ltN a b = false := by
  cases hb : ltN a b with
  | false => rfl
  | true => exact absurd (Nat.le_of_ble_eq_true hb) h
theorem of_ltN {a b : Nat} (h : ltN a b = true) : a < b := Nat.le_of_ble_eq_true h

def ofV : Value → AV
  | .agg cs => .agg (cs.toList.map .lit)
  | v => .lit v

def St.val (σ : St) : Operand → AV
  | .tmp t => cond (ltN t σ.nt) (σ.tmps t) .junk
  | .const v => ofV v
  | .global g => .lit (.pointer (some ⟨g, 0, none⟩))
  | .func f => .fn (.func f) [] []

/-- a mark of a range over a function: its block is as it was laid -/
def Mark (S N : Stable) (ms : List Nat) : Prop := ms.Nodup ∧ ∀ D ∈ ms, N D = none ∧ S D = some (.deferred (some []))

structure AR (N : Stable) (μ : Mu) (S : Stable) (σ : St) (a : Act) : Prop where
  defers : ∃ ms : List Nat, a.defers = ms.map (fun D => ⟨.collected D, #[]⟩) ∧ Mark S N ms
  size : a.tmps.size = σ.nt
  tmp : ∀ t, t < σ.nt → VR μ S σ.heap (σ.tmps t) (a.tmps.getD t undef)

theorem VR_ofV {μ : Mu} {S : Stable} {H : Heap} (v : Value) : VR μ S H (ofV v) v := by
  cases v with
  | agg cs => simp only [ofV, VR]; exact ⟨cs, rfl, VRs_lits _⟩
  | _ => simp only [ofV, VR]

theorem AR.val {N : Stable} {μ : Mu} {S : Stable} {σ : St} {a : Act} (h : AR N μ S σ a) (x : Operand) : VR μ S σ.heap (σ.val x) (a.eval x) := by
  cases x with
  | tmp t =>
    simp only [St.val, Act.eval]
    by_cases ht : t < σ.nt
    · rw [ltN_true ht]; exact h.tmp t ht
    · rw [ltN_false ht]; simp only [cond_false, VR]
  | const v => exact VR_ofV v
  | global g => simp only [St.val, Act.eval, VR]
  | func f => simp only [St.val, Act.eval, VR]; exact ⟨#[], #[], rfl, by simp [VRs], by simp [VRs]⟩

/-! types -/
def aggD : TypeDesc → Bool
  | .struct _ => true
  | .array _ _ => true
  | _ => false

section
variable {P : Program} {w : World}
theorem rUnder {t : TypeId} {d : TypeDesc} (h : P.underlying t = some d) : (underlying t).run P w = .ok d w := by
  simp [underlying, h]
theorem rInfo {t : TypeId} {i : TypeInfo} (h : P.info? t = some i) : (typeInfo t).run P w = .ok i w := by
  simp [typeInfo, h]
theorem rSize {t : TypeId} {i : TypeInfo} (h : P.info? t = some i) : (sizeOf t).run P w = .ok i.size w := by
  simp [sizeOf, rInfo h]
theorem rAgg {t : TypeId} {d : TypeDesc} (h : P.underlying t = some d) : (isAgg t).run P w = .ok (aggD d) w := by
  simp only [isAgg, Sem.run_bind, rUnder h, Result.andThen_ok]
  cases d <;> simp [aggD]
theorem rZero {t : TypeId} {i : TypeInfo} {z : Value} (h : P.info? t = some i) (hz : i.zero = some z) : (zeroValue t).run P w = .ok z w := by
  simp [zeroValue, rInfo h, hz]
end

theorem add_add (ad : Addr) (m n : Nat) : (ad.add m).add n = ad.add (m + n) := by
  unfold Addr.add
  by_cases hm : m = 0
  · subst hm; simp
  · by_cases hn : n = 0
    · subst hn; simp [hm]
    · simp [hm, hn, Nat.add_assoc]

theorem add_zero (ad : Addr) : ad.add 0 = ad := by simp [Addr.add]

theorem plain_add (b m n : Nat) : (⟨b, m, none⟩ : Addr).add n = ⟨b, m + n, none⟩ := by
  unfold Addr.add; split <;> simp_all

/-! a part of cells -/
def cut (P : Program) (t : TypeId) (cs : List AV) (off : Nat) : Option AV :=
  match P.underlying t, P.info? t with
  | some d, some i =>
    cond (aggD d) (cond (Nat.beq ((cs.drop off).take i.size).length i.size) (some (.agg ((cs.drop off).take i.size))) none) (cs[off]?)
  | _, _ => none

section
variable {P : Program} {w : World} {μ : Mu} {S : Stable} {H : Heap}
theorem cut_loadVar {t : TypeId} {cs : List AV} {vs : List Value} {off : Nat} {v : AV} {ad : Addr} (hc : VRs μ S H cs vs)
    (hm : ∀ j u, vs[j]? = some u → w.cell? (ad.add j) = some u) (h : cut P t cs off = some v) :
    ∃ u, (loadVar t (ad.add off)).run P w = .ok u w ∧ VR μ S H v u := by
  unfold cut at h
  split at h
  case h_2 => simp at h
  rename_i d i hd hi
  cases ha : aggD d with
  | true =>
    rw [ha] at h
    simp only [cond_true] at h
    cases hb : Nat.beq ((cs.drop off).take i.size).length i.size with
    | false => rw [hb] at h; simp at h
    | true =>
      rw [hb] at h; simp only [cond_true, Option.some.injEq] at h; subst h
      have hl := Nat.eq_of_beq_eq_true hb
      have hr : VRs μ S H ((cs.drop off).take i.size) ((vs.drop off).take i.size) := VRs_take _ (VRs_drop _ hc)
      have hl2 : ((vs.drop off).take i.size).length = i.size := by rw [← VRs_length hr]; exact hl
      refine ⟨.agg ((vs.drop off).take i.size).toArray, ?_, by simp only [VR]; exact ⟨_, rfl, by simpa using hr⟩⟩
      have := run_loadCells_list (P := P) w (ad.add off) ((vs.drop off).take i.size) (fun j u hj => by
        rw [add_add]; apply hm
        rw [List.getElem?_take] at hj
        split at hj
        · rw [List.getElem?_drop] at hj; exact hj
        · simp at hj)
      rw [hl2] at this
      simp only [loadVar, Sem.run_bind, rAgg hd, ha, Result.andThen_ok, if_true, rSize hi, this, Sem.run_pure]
  | false =>
    rw [ha] at h
    simp only [cond_false] at h
    obtain ⟨u, hu, hv⟩ := VRs_get hc off v h
    refine ⟨u, ?_, hv⟩
    simp only [loadVar, Sem.run_bind, rAgg hd, ha, Result.andThen_ok, Bool.false_eq_true, if_false, run_load, hm off u hu]

theorem cut_part {t : TypeId} {cs : List AV} {vs : Array Value} {off : Nat} {v : AV} (hc : VRs μ S H cs vs.toList)
    (h : cut P t cs off = some v) :
    ∃ u, (part t vs off).run P w = .ok u w ∧ VR μ S H v u := by
  unfold cut at h
  split at h
  case h_2 => simp at h
  rename_i d i hd hi
  cases ha : aggD d with
  | true =>
    rw [ha] at h
    simp only [cond_true] at h
    cases hb : Nat.beq ((cs.drop off).take i.size).length i.size with
    | false => rw [hb] at h; simp at h
    | true =>
      rw [hb] at h; simp only [cond_true, Option.some.injEq] at h; subst h
      have hr : VRs μ S H ((cs.drop off).take i.size) ((vs.toList.drop off).take i.size) := VRs_take _ (VRs_drop _ hc)
      refine ⟨.agg (vs.extract off (off + i.size)), ?_, by simp only [VR]; exact ⟨_, rfl, by simpa using hr⟩⟩
      simp only [part, Sem.run_bind, rAgg hd, ha, Result.andThen_ok, if_true, rSize hi, Sem.run_pure]
  | false =>
    rw [ha] at h
    simp only [cond_false] at h
    obtain ⟨u, hu, hv⟩ := VRs_get hc off v h
    refine ⟨u, ?_, hv⟩
    have hu' : vs[off]? = some u := by simpa using hu
    simp only [part, Sem.run_bind, rAgg hd, ha, Result.andThen_ok, Bool.false_eq_true, if_false, hu', Sem.run_pure]
end

/-! what an operation comes to -/
/-- what is called: a function, or a range over a function's round -/
inductive Callee where
  | fn (k : FuncId)
  | yld (i : Nat)

inductive Out where
  | val (c : Bool) (v : AV)
  | new (c : Bool) (id : Nat) (o : HObj) (v : AV)
  | wr (c : Bool) (i : Nat) (o : HObj) (v : AV)
  | nxt (c : Bool) (i : Nat) (o : HObj) (v u : AV)
  | call (f : Callee) (args : List AV)

def AV.cells : AV → Option (List AV)
  | .agg cs => some cs
  | .tup _ => none
  | .junk => none
  | v => some [v]

def Ty.dflt : (t : Ty) → t.T
  | .int _ => (0 : Int)
  | .bool => false
  | .str => (⟨#[]⟩ : ByteArray)
  | .row e => ([] : List e.T)
  | .pair a b => (a.dflt, b.dflt)
  | .one a => a.dflt
  | .fnc _ => ()

def rd (e : Ty) (xs : List e.T) (i : Nat) : e.T := xs.getD i e.dflt
def bt (s : ByteArray) (i : Int) : Int := if h : i.toNat < s.size then ((s[i.toNat]'h).toNat : Int) else 0

def bitop (op : BinOp) (k : IntKind) (x y : Int) : Int :=
  let a := BitVec.ofInt k.bits x
  let b := BitVec.ofInt k.bits y
  match op with
  | .and => k.wrap (a &&& b).toNat
  | .or => k.wrap (a ||| b).toNat
  | .xor => k.wrap (a ^^^ b).toNat
  | _ => k.wrap (a &&& ~~~b).toNat

def binI (op : BinOp) (k : IntKind) (a b : Int) : Option (Bool × Value) :=
  match op with
  | .add => some (true, .int k (k.wrap (a + b)))
  | .sub => some (true, .int k (k.wrap (a - b)))
  | .mul => some (true, .int k (k.wrap (a * b)))
  | .quo => some (!decide (b = 0), .int k (k.wrap (a.tdiv b)))
  | .rem => some (!decide (b = 0), .int k (a.tmod b))
  | .and => some (true, .int k (bitop .and k a b))
  | .or => some (true, .int k (bitop .or k a b))
  | .xor => some (true, .int k (bitop .xor k a b))
  | .andNot => some (true, .int k (bitop .andNot k a b))
  | .eql => some (true, .bool (decide (a = b)))
  | .neq => some (true, .bool (!decide (a = b)))
  | .lss => some (true, .bool (decide (a < b)))
  | .leq => some (true, .bool (decide (a ≤ b)))
  | .gtr => some (true, .bool (decide (b < a)))
  | .geq => some (true, .bool (decide (b ≤ a)))
  | _ => none

def shI (op : BinOp) (k : IntKind) (a b : Int) : Option (Bool × Value) :=
  match op with
  | .shl => some (!decide (b < 0), .int k (k.wrap (a * 2 ^ (min b.toNat k.bits))))
  | .shr => some (!decide (b < 0), .int k (a.fdiv (2 ^ (min b.toNat k.bits))))
  | _ => none

def binS (op : BinOp) (x y : ByteArray) : Option (Bool × Value) :=
  match op with
  | .add => some (!decide (((x.size + y.size : Nat) : Int) > IntKind.i64.max), .string (x ++ y))
  | .eql => some (true, .bool (x.toList == y.toList))
  | .neq => some (true, .bool (!(x.toList == y.toList)))
  | _ => none

def isShift : BinOp → Bool
  | .shl => true
  | .shr => true
  | _ => false

def binop (P : Program) (op : BinOp) (t : TypeId) : Value → Value → Option (Bool × Value)
  | .int k a, .int k' b => cond (isShift op) (shI op k a b) (cond (decide (k = k')) (binI op k a b) none)
  | .string a, .string b => binS op a b
  | .bool a, .bool b =>
    match P.underlying t, op with
    | some .bool, .eql => some (true, .bool (a == b))
    | some .bool, .neq => some (true, .bool (!(a == b)))
    | _, _ => none
  | _, _ => none

section
variable {P : Program} {w : World}

theorem eqGuard_int {op : BinOp} {t : TypeId} {x y : Operand} {k k' : IntKind} {a b : Int} : (eqGuard op t x y (.int k a) (.int k' b)).run P w = .ok () w := by
  unfold eqGuard; cases op <;> rfl
theorem eqGuard_str {op : BinOp} {t : TypeId} {x y : Operand} {a b : ByteArray} : (eqGuard op t x y (.string a) (.string b)).run P w = .ok () w := by
  unfold eqGuard; cases op <;> rfl
theorem eqGuard_bool {op : BinOp} {t : TypeId} {x y : Operand} {a b : Bool} : (eqGuard op t x y (.bool a) (.bool b)).run P w = .ok () w := by
  unfold eqGuard; cases op <;> rfl

theorem binI_run {op : BinOp} {t : TypeId} {k : IntKind} {a b : Int} {v : Value} (hs : isShift op = false) (h : binI op k a b = some (true, v)) :
    (binOp op t (.int k a) (.int k b)).run P w = .ok v w := by
  have key : (binOp op t (.int k a) (.int k b)) = (match op with
    | .add | .sub | .mul => Op.intArith op k a b
    | .quo | .rem => Op.intDiv op k a b
    | .and | .or | .xor | .andNot => Op.intBits op k a b
    | _ => Op.intCmp op a b) := by
    cases op <;> simp only [isShift, reduceCtorEq] at hs <;> simp only [binOp, ne_eq, not_true_eq_false, if_false]
  rw [key]
  cases op <;> simp only [isShift, reduceCtorEq] at hs <;> simp only [binI, Option.some.injEq, Prod.mk.injEq, true_and, reduceCtorEq] at h
  case quo => obtain ⟨h1, rfl⟩ := h; simp at h1; simp [Op.intDiv, h1]
  case rem => obtain ⟨h1, rfl⟩ := h; simp at h1; simp [Op.intDiv, h1]
  all_goals subst h
  all_goals first | rfl | (simp only [Op.intCmp, Sem.run_pure]; congr 2)

theorem shI_run {op : BinOp} {t : TypeId} {k k' : IntKind} {a b : Int} {v : Value} (h : shI op k a b = some (true, v)) :
    (binOp op t (.int k a) (.int k' b)).run P w = .ok v w := by
  cases op <;> simp [shI] at h
  all_goals
    obtain ⟨h1, rfl⟩ := h
    have : ¬ b < 0 := by omega
    simp [binOp, Op.shift, this]

theorem equal_bool {t : TypeId} {a b : Bool} (ht : P.underlying t = some .bool) : (Op.equal t (.bool a) (.bool b)).run P w = .ok (a == b) w := by
  show (Op.equalIn (9999 + 1) t (.bool a) (.bool b)).run P w = _
  rw [Op.equalIn]
  simp only [Sem.run_bind, rUnder ht, Result.andThen_ok, Sem.run_pure]

theorem binop_run {op : BinOp} {t : TypeId} {x y : Operand} {a b v : Value} (h : binop P op t a b = some (true, v)) :
    (do eqGuard op t x y a b; binOp op t a b : Sem Value).run P w = .ok v w := by
  unfold binop at h
  split at h
  · rename_i k a k' b
    rw [Sem.run_bind, eqGuard_int, Result.andThen_ok]
    cases hs : isShift op with
    | true => rw [hs] at h; exact shI_run h
    | false =>
      rw [hs] at h
      simp only [cond_false] at h
      by_cases hk : k = k'
      · subst hk; simp at h; exact binI_run hs h
      · simp [hk] at h
  · rename_i a b
    rw [Sem.run_bind, eqGuard_str, Result.andThen_ok]
    have key : binOp op t (.string a) (.string b) = Op.stringOp op a b := by cases op <;> rfl
    rw [key]
    cases op <;> simp only [binS, Option.some.injEq, Prod.mk.injEq, true_and, reduceCtorEq] at h
    case add => obtain ⟨h1, rfl⟩ := h; simp at h1; simp [Op.stringOp]; exact h1
    all_goals subst h; rfl
  · rename_i a b
    rw [Sem.run_bind, eqGuard_bool, Result.andThen_ok]
    split at h
    · rename_i ht; simp at h; subst h
      show (do pure (.bool (← Op.equal t (.bool a) (.bool b))) : Sem Value).run P w = _
      simp only [Sem.run_bind, equal_bool ht, Result.andThen_ok, Sem.run_pure]
    · rename_i ht; simp at h; subst h
      show (do pure (.bool (!(← Op.equal t (.bool a) (.bool b)))) : Sem Value).run P w = _
      simp only [Sem.run_bind, equal_bool ht, Result.andThen_ok, Sem.run_pure]
    · simp at h
  · simp at h
end
end Go.Sy
