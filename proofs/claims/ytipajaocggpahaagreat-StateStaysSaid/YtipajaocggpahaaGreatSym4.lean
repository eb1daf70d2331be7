/- What each operation makes of an abstract state. -/
import Derived.Test.YtipajaocggpahaaGreatSym3
import Derived.Laws.Rows
import Derived.Laws.CopyOwn
import Derived.Laws.StructEq
namespace Go.Sy
open Go Go.RowKit
set_option linter.unusedSimpArgs false

def AV.one : AV → Bool
  | .lit (.agg _) => false
  | .lit (.tuple _) => false
  | .agg _ => false
  | .tup _ => false
  | .junk => false
  | _ => true

def AV.cells' : AV → Option (List AV)
  | .agg cs => some cs
  | a => cond a.one (some [a]) none

def splice (cs : List AV) (off : Nat) (c : List AV) : List AV := cs.take off ++ c ++ cs.drop (off + c.length)

def allOne : List AV → Bool
  | [] => true
  | a :: l => a.one && allOne l

section
variable [Glob] {P : Program} {w w' w0 : World} {μ μ' : Mu} {S S' : Stable} {H H' : Heap} {B : Nat}

omit [Glob] in
theorem one_cell : ∀ {a : AV} {v : Value}, VR μ S H a v → a.one = true → v.oneCell' = true ∧ v.cells.toList = [v] := by
  intro a v h h1
  cases a with
  | lit x => simp only [VR] at h; subst h; cases v <;> simp_all [AV.one, Value.oneCell', Value.cells]
  | ptr i off => simp only [VR] at h; obtain ⟨_, _, _, _, rfl⟩ := h; exact ⟨rfl, rfl⟩
  | elc e x off => simp only [VR] at h; obtain ⟨_, _, _, _, rfl⟩ := h; exact ⟨rfl, rfl⟩
  | elp i g k off => simp only [VR] at h; obtain ⟨⟨_, rfl⟩, _⟩ := h; exact ⟨rfl, rfl⟩
  | cont e xs => simp only [VR, Rd] at h; obtain ⟨_, _, h, _⟩ := h; cases h; exact ⟨rfl, rfl⟩
  | sl i g => simp only [VR] at h; obtain ⟨⟨_, _, _, rfl⟩, _⟩ := h; exact ⟨rfl, rfl⟩
  | sub i g lo hi => simp only [VR] at h; obtain ⟨⟨_, _, _, rfl⟩, _⟩ := h; exact ⟨rfl, rfl⟩
  | bsl i n => simp only [VR] at h; obtain ⟨_, _, _, _, _, _, rfl⟩ := h; exact ⟨rfl, rfl⟩
  | yld i => simp only [VR] at h; obtain ⟨_, _, _, _, rfl⟩ := h; exact ⟨rfl, rfl⟩
  | mp i => simp only [VR] at h; obtain ⟨_, _, _, _, rfl⟩ := h; exact ⟨rfl, rfl⟩
  | fn f fi ca => simp only [VR] at h; obtain ⟨_, _, rfl, _⟩ := h; exact ⟨rfl, rfl⟩
  | agg cs => simp [AV.one] at h1
  | tup cs => simp [AV.one] at h1
  | junk => simp [AV.one] at h1

omit [Glob] in
theorem cells_VRs {a : AV} {v : Value} {cs : List AV} (h : VR μ S H a v) (hc : a.cells' = some cs) : VRs μ S H cs v.cells.toList := by
  have base : ∀ {a : AV}, VR μ S H a v → cond a.one (some [a]) none = some cs → VRs μ S H cs v.cells.toList := by
    intro a h hc
    cases h1 : a.one with
    | false => rw [h1] at hc; simp at hc
    | true =>
      rw [h1] at hc; simp only [cond_true, Option.some.injEq] at hc; subst hc
      rw [(one_cell h h1).2]; simp only [VRs]; exact ⟨v, [], rfl, h, rfl⟩
  cases a with
  | agg l => simp only [AV.cells', Option.some.injEq] at hc; subst hc; simp only [VR] at h; obtain ⟨x, rfl, h⟩ := h; exact h
  | _ => exact base h hc

omit [Glob] in
theorem allOne_cells : ∀ {as : List AV} {vs : List Value}, VRs μ S H as vs → allOne as = true → ∀ v ∈ vs, v.oneCell' = true
  | [], vs, h, _ => by simp only [VRs] at h; subst h; simp
  | a :: as, vs, h, h1 => by
    simp only [VRs] at h
    obtain ⟨v, r, rfl, h2, h3⟩ := h
    simp only [allOne, Bool.and_eq_true] at h1
    intro u hu
    rcases List.mem_cons.1 hu with rfl | hu
    · exact (one_cell h2 h1.1).1
    · exact allOne_cells h3 h1.2 u hu
end

/-! the operations -/
def oInfo (P : Program) (t : TypeId) : Option TypeInfo := P.info? t

def oAlloc (P : Program) (id : Nat) (t : TypeId) : Option Out :=
  match P.info? t with
  | some i => match i.zero with
    | some z => match (ofV z).cells' with
      | some cs => some (.new true id (.box t cs) (.ptr id 0))
      | none => none
    | none => none
  | none => none

def oBox (id : Nat) (t : TypeId) (x : AV) : Option Out :=
  match x.cells' with
  | some cs => some (.new true id (.box t cs) (.ptr id 0))
  | none => none

def oLoad (P : Program) (H : Heap) (t : TypeId) : AV → Option Out
  | .ptr i off => match H i with
    | some (.box _ cs) => match cut P t cs off with
      | some v => some (.val true v)
      | none => none
    | _ => none
  | .elc e x off => match cut P t (enc e x) off with
    | some v => some (.val true v)
    | none => none
  | .elp i g k off => match H i with
    | some (.row _ e g' xs) => cond (Nat.beq g g')
        (match cut P t (enc e (rd e xs k)) off with
        | some v => some (.val (decide (k < xs.length)) v)
        | none => none) none
    | _ => none
  | _ => none

def oStore (P : Program) (H : Heap) (t : TypeId) (a x : AV) : Option Out :=
  match a with
  | .ptr i off => match H i with
    | some (.box t' cs) => match x.cells', P.info? t with
      | some c, some inf => cond (Nat.beq c.length inf.size && Nat.ble (off + c.length) cs.length && allOne c)
          (some (.wr true i (.box t' (splice cs off c)) (.lit undef))) none
      | _, _ => none
    | _ => none
  | .elp i g k off => match H i with
    | some (.row te e g' xs) => match x.cells', P.info? t with
      | some c, some inf => match decAll (fun _ => none) e (splice (enc e (rd e xs k)) off c) with
        | some y => cond (Nat.beq g g' && Nat.beq c.length inf.size && Nat.ble (off + c.length) e.size && allOne c)
            (some (.wr (decide (k < xs.length)) i (.row te e g' (xs.set k y)) (.lit undef))) none
        | none => none
      | _, _ => none
    | _ => none
  | _ => none

def oField (P : Program) (H : Heap) (s : TypeId) (x : AV) (f : Nat) : Option Out :=
  match P.underlying s with
  | some (.struct fields) => match fields[f]? with
    | some fl => match P.info? fl.type with
      | some ti => cond (Nat.beq ti.size 0) none (match x with
        | .ptr i off => some (.val true (.ptr i (off + fl.offset)))
        | .elc e y off => some (.val true (.elc e y (off + fl.offset)))
        | .elp i g k off => match H i with
          | some (.row _ _ g' _) => cond (Nat.beq g g') (some (.val true (.elp i g k (off + fl.offset)))) none
          | _ => none
        | _ => none)
      | none => none
    | none => none
  | _ => none

def oPart (P : Program) (s : TypeId) (x : AV) (f : Nat) : Option Out :=
  match P.underlying s with
  | some (.struct fields) => match fields[f]? with
    | some fl => match x with
      | .agg cs => match cut P fl.type cs fl.offset with
        | some v => some (.val true v)
        | none => none
      | _ => none
    | none => none
  | _ => none

def oNil (H : Heap) : AV → Option Out
  | .ptr i off => some (.val true (.ptr i off))
  | .elc e x off => some (.val true (.elc e x off))
  | .elp i g k off => match H i with
    | some (.row _ _ g' _) => cond (Nat.beq g g') (some (.val true (.elp i g k off))) none
    | _ => none
  | .fn (.func f) a b => some (.val true (.fn (.func f) a b))
  | .lit (.pointer (some a)) => some (.val true (.lit (.pointer (some a))))
  | _ => none

def eqF (P : Program) (g : TypeId → AV → AV → Option Bool) (xs ys : List AV) : List Field → Option Bool
  | [] => some true
  | f :: fs => match f.name == "_" with
    | true => eqF P g xs ys fs
    | false => match cut P f.type xs f.offset, cut P f.type ys f.offset with
      | some a, some b => match g f.type a b, eqF P g xs ys fs with
        | some r, some s => some (r && s)
        | _, _ => none
      | _, _ => none

/-- '==' of data -/
def eqV (P : Program) (g : TypeId → AV → AV → Option Bool) (t : TypeId) : AV → AV → Option Bool
  | .lit (.bool a), .lit (.bool b) => match P.underlying t with
    | some .bool => some (a == b)
    | _ => none
  | .lit (.int k a), .lit (.int k' b) => match P.underlying t with
    | some (.int _) => cond (decide (k = k')) (some (decide (a = b))) none
    | _ => none
  | .lit (.string a), .lit (.string b) => match P.underlying t with
    | some .string => some (a.toList == b.toList)
    | _ => none
  | .agg xs, .agg ys => match P.underlying t with
    | some (.struct fs) => cond (P.stoodInHeld t) none (eqF P g xs ys fs.toList)
    | _ => none
  | _, _ => none

def eqA (P : Program) : Nat → TypeId → AV → AV → Option Bool
  | 0, _, _, _ => none
  | n + 1, t, x, y => eqV P (eqA P n) t x y

def oBin (P : Program) (op : BinOp) (t : TypeId) : AV → AV → Option Out
  | .lit a, .lit b => match binop P op t a b with
    | some (c, v) => some (.val c (.lit v))
    | none => none
  | .agg xs, .agg ys => cond (P.eqGuardType P.depth t) none (match eqA P 9 t (.agg xs) (.agg ys) with
    | some r => match op with
      | .eql => some (.val true (.lit (.bool r)))
      | .neq => some (.val true (.lit (.bool (!r))))
      | _ => none
    | none => none)
  | _, _ => none

def oUn (op : UnOp) : AV → Option Out
  | .lit (.bool b) => match op with
    | .not => some (.val true (.lit (.bool (!b))))
    | _ => none
  | .lit (.int k n) => match op with
    | .neg => some (.val true (.lit (.int k (k.wrap (0 - n)))))
    | .xor => some (.val true (.lit (.int k (bitop .xor k (if k.signed then -1 else k.max) n))))
    | _ => none
  | _ => none

def oConv (P : Program) (src dst : TypeId) : AV → Option Out
  | .lit (.int _ n) => match P.underlying src, P.underlying dst with
    | some _, some (.int k) => some (.val true (.lit (.int k (k.wrap n))))
    | _, _ => none
  | .lit (.string s) => match P.underlying src, P.underlying dst with
    | some _, some .string => some (.val true (.lit (.string s)))
    | _, _ => none
  | _ => none

def oExt (x : AV) (i : Nat) : Option Out :=
  match x with
  | .tup vs => match vs[i]? with
    | some v => some (.val true v)
    | none => none
  | _ => none

def oIndex (P : Program) (t : TypeId) : AV → AV → Option Out
  | .lit (.string s), .lit (.int _ i) => match P.underlying t with
    | some .string => some (.val (decide (0 ≤ i) && decide (i < (s.size : Int))) (.lit (.int .u8 (bt s i))))
    | _ => none
  | .agg cs, .lit (.int _ i) => match P.underlying t with
    | some (.array n el) => match P.info? el with
      | some inf => match cut P el cs (i.toNat * inf.size) with
        | some v => some (.val (decide (0 ≤ i) && decide (i < (n : Int))) v)
        | none => none
      | none => none
    | _ => none
  | _, _ => none

def oAt (P : Program) (H : Heap) (t : TypeId) (x : AV) : AV → Option Out
  | .lit (.int _ i) => match P.underlying t with
    | some (.slice el) => match P.info? el with
      | some inf => match x with
        | .cont e xs => cond (Nat.beq inf.size e.size) (some (.val (decide (0 ≤ i) && decide (i < (xs.length : Int))) (.elc e (rd e xs i.toNat) 0))) none
        | .sl j g => match H j with
          | some (.row _ e g' xs) => cond (Nat.beq g g' && Nat.beq inf.size e.size) (some (.val (decide (0 ≤ i) && decide (i < (xs.length : Int))) (.elp j g i.toNat 0))) none
          | _ => none
        | _ => none
      | none => none
    | _ => none
  | _ => none

def oLen (P : Program) (H : Heap) (t : TypeId) : AV → Option Out
  | .lit (.string s) => match P.underlying t with
    | some .string => some (.val true (.lit (.int .i64 s.size)))
    | _ => none
  | .cont _ xs => match P.underlying t with
    | some (.slice _) => some (.val true (.lit (.int .i64 xs.length)))
    | _ => none
  | .sl j g => match P.underlying t, H j with
    | some (.slice _), some (.row _ _ g' xs) => cond (Nat.beq g g') (some (.val true (.lit (.int .i64 xs.length)))) none
    | _, _ => none
  | .lit (.slice _ n _) => match P.underlying t with
    | some (.slice _) => some (.val true (.lit (.int .i64 n)))
    | _ => none
  | _ => none

/-! maps of integers -/
def mIdx : List (Int × Int) → Int → Nat
  | [], _ => 0
  | p :: l, x => cond (decide (x = p.1)) 0 (mIdx l x + 1)
/-- the value under a key, or 0 -/
def mVal : List (Int × Int) → Int → Int
  | [], _ => 0
  | p :: l, x => cond (decide (x = p.1)) p.2 (mVal l x)
/-- the key is there -/
def mHas : List (Int × Int) → Int → Bool
  | [], _ => false
  | p :: l, x => cond (decide (x = p.1)) true (mHas l x)
/-- .. or comes to be there -/
def mEnt (l : List (Int × Int)) (x : Int) : List (Int × Int) := cond (mHas l x) l (l ++ [(x, 0)])
/-- the value at a place -/
def mSet : List (Int × Int) → Nat → Int → List (Int × Int)
  | [], _, _ => []
  | p :: l, 0, v => (p.1, v) :: l
  | p :: l, n + 1, v => p :: mSet l n v

/-- a value put under a key -/
def mPut (l : List (Int × Int)) (x v : Int) : List (Int × Int) := cond (mHas l x) (mSet l (mIdx l x) v) (l ++ [(x, v)])

def isInt64 (P : Program) (t : TypeId) : Bool := match P.underlying t with
  | some (.int .i64) => true
  | _ => false

def isMapII (P : Program) (t : TypeId) : Bool := match P.underlying t with
  | some (.map k e) => isInt64 P k && isInt64 P e && (match P.info? e with
    | some i => match i.zero with
      | some (.int .i64 0) => true
      | _ => false
    | none => false)
  | _ => false

def oMakeMap (P : Program) (id : Nat) (t : TypeId) : Option Out := cond (isMapII P t) (some (.new true id (.map []) (.mp id))) none
def oMapEntry (P : Program) (H : Heap) (t : TypeId) : AV → AV → Option Out
  | .mp j, .lit (.int .i64 x) => match H j with
    | some (.map es) => cond (isMapII P t) (some (.wr true j (.map (mEnt es x)) (.tup [.lit (.int .i64 (mVal es x)), .lit (.int .i64 ((mIdx es x : Nat) : Int))]))) none
    | _ => none
  | _, _ => none
def oMapUpdate (P : Program) (H : Heap) (t : TypeId) : AV → AV → AV → Option Out
  | .mp j, .lit (.int .i64 x), .lit (.int .i64 v) => match H j with
    | some (.map es) => cond (isMapII P t) (some (.wr true j (.map (mPut es x v)) (.lit undef))) none
    | _ => none
  | _, _, _ => none
def oEntryStore (H : Heap) : AV → AV → AV → Option Out
  | .mp j, .lit (.int .i64 s), .lit (.int .i64 v) => match H j with
    | some (.map es) => some (.wr (decide (0 ≤ s) && decide (s < ((es.length : Nat) : Int))) j (.map (mSet es (Int.toNat s) v)) (.lit undef))
    | _ => none
  | _, _, _ => none
def oLookup (P : Program) (H : Heap) (t : TypeId) (ok : Bool) : AV → AV → Option Out
  | .mp j, .lit (.int .i64 x) => match H j with
    | some (.map es) => cond (isMapII P t) (some (.val true (cond ok (.tup [.lit (.int .i64 (mVal es x)), .lit (.bool (mHas es x))]) (.lit (.int .i64 (mVal es x)))))) none
    | _ => none
  | _, _ => none

def oMin : AV → AV → Option Out
  | .lit (.int k a), .lit (.int k' b) => cond (decide (k = k')) (some (.val true (.lit (.int k (cond (decide (b < a)) b a))))) none
  | _, _ => none
def oMax : AV → AV → Option Out
  | .lit (.int k a), .lit (.int k' b) => cond (decide (k = k')) (some (.val true (.lit (.int k (cond (decide (a < b)) b a))))) none
  | _, _ => none

def oCall (P : Program) (f : AV) (args : List AV) : Option Out :=
  match f with
  | .fn (.func k) first caps => match P.funcs[k]? with
    | some fn => match fn.body with
      | some _ => cond (fn.name == "runtime.NumGoroutine") none (some (.call (.fn k) (first ++ args ++ caps)))
      | none => none
    | none => none
  | .yld i => some (.call (.yld i) args)
  | _ => none

/-! types as data -/
def tyChain2 : List (Option Ty) → Option Ty
  | [some a] => some a
  | some a :: l => match tyChain2 l with
    | some b => some (.pair a b)
    | none => none
  | _ => none
def tyChain : List (Option Ty) → Option Ty
  | [some a] => some (.one a)
  | l => tyChain2 l
def tyOf (P : Program) : Nat → TypeId → Option Ty
  | 0, _ => none
  | n + 1, t => match P.underlying t with
    | some (.int k) => some (.int k)
    | some .bool => some .bool
    | some .string => some .str
    | some (.slice e) => match tyOf P n e with
      | some x => some (.row x)
      | none => none
    | some (.struct fs) => tyChain (fs.toList.map fun f => tyOf P n f.type)
    | _ => none

def noHeap : Heap := fun _ => none

def decMany (t : Ty) : Nat → List AV → Option (List t.T)
  | 0, [] => some []
  | 0, _ => none
  | n + 1, l => match dec noHeap t l with
    | some (x, r) => match decMany t n r with
      | some xs => some (x :: xs)
      | none => none
    | none => none

def fillA (place : Nat → Option (Nat × Nat)) (cs : List AV) : List (Nat × AV) → Option (List AV)
  | [] => some cs
  | (i, a) :: rest => match place i with
    | some (off, size) => match a.cells' with
      | some c => cond (Nat.beq c.length size && Nat.ble (off + size) cs.length) (fillA place (splice cs off c) rest) none
      | none => none
    | none => none

def repA (n : Nat) (cs : List AV) : List AV := (List.replicate n cs).flatten

def oBuildSlice (P : Program) (id : Nat) (t : TypeId) (len : Nat) (parts : List (Nat × AV)) : Option Out :=
  match P.underlying t with
  | some (.slice el) => match P.info? el, tyOf P 9 el with
    | some inf, some ty => match inf.zero with
      | some z => match (ofV z).cells' with
        | some zc => cond (Nat.beq inf.size ty.size && Nat.beq zc.length inf.size && ltN 0 inf.size && ltN 0 len && Nat.ble (len * inf.size) 16777216)
            (match fillA (fun i => some (i * inf.size, inf.size)) (repA len zc) parts with
            | some cs => match decMany ty len cs with
              | some xs => some (.new true id (.row el ty 0 xs) (.sl id 0))
              | none => none
            | none => none) none
        | none => none
      | none => none
    | some inf, none => match inf.zero with
      | some z => match (ofV z).cells' with
        | some zc => cond (Nat.beq inf.size 1 && Nat.beq zc.length 1 && ltN 0 len && Nat.ble len 16777216)
            (match fillA (fun i => some (i * 1, 1)) (repA len zc) parts with
            | some cs => some (.new true id (.box el cs) (.bsl id len))
            | none => none) none
        | none => none
      | none => none
    | none, _ => none
  | _ => none

def placesOf (P : Program) : List Field → Option (List (Nat × Nat))
  | [] => some []
  | f :: fs => match P.info? f.type, placesOf P fs with
    | some i, some l => some ((f.offset, i.size) :: l)
    | _, _ => none

def oBuild (P : Program) (t : TypeId) (parts : List (Nat × AV)) : Option Out :=
  match P.underlying t, P.info? t with
  | some (.struct fields), some inf => match inf.zero with
    | some z => match (ofV z).cells', placesOf P fields.toList with
      | some zc, some pl => match fillA (fun i => pl[i]?) zc parts with
        | some cs => some (.val true (.agg cs))
        | none => none
      | _, _ => none
    | none => none
  | _, _ => none

def oMake (P : Program) (id : Nat) (t : TypeId) : AV → AV → Option Out
  | .lit (.int _ l), .lit (.int _ c) => match P.underlying t with
    | some (.slice el) => match P.info? el, tyOf P 9 el with
      | some inf, some ty => match inf.zero with
        | some z => match (ofV z).cells' with
          | some zc => match decAll noHeap ty zc with
            | some x => cond (Nat.beq inf.size ty.size && Nat.beq zc.length inf.size && ltN 0 inf.size && ltN 0 inf.bytes)
                (some (.new (decide (0 ≤ l) && decide (l ≤ c) && decide (c * inf.bytes ≤ 140737488355328)) id (.row el ty 0 (List.replicate l.toNat x)) (.sl id 0))) none
            | none => none
          | none => none
        | none => none
      | _, _ => none
    | _ => none
  | _, _ => none

def content (H : Heap) (e : Ty) (x : AV) : Option (List e.T) :=
  match decRow H e [x] with
  | some (xs, []) => some xs
  | _ => none

def oAppend (P : Program) (H : Heap) (id : Nat) (t : TypeId) (s x : AV) : Option Out :=
  match P.underlying t with
  | some (.slice el) => match P.info? el with
    | some inf => match inf.zero with
      | some z => match (ofV z).cells' with
        | some zc => cond (Nat.beq zc.length inf.size && ltN 0 inf.size) (match s with
          | .sl i g => match H i with
            | some (.row te e g' xs) => match content H e x with
              | some ys => cond (Nat.beq g g' && Nat.beq te el && Nat.beq inf.size e.size)
                  (some (.wr (decide ((xs.length + ys.length) * inf.bytes ≤ 140737488355328) && decide (xs.length + ys.length ≤ 9223372036854775807)) i (.row te e (g + 1) (xs ++ ys)) (.sl i (g + 1)))) none
              | none => none
            | _ => none
          | .lit (.slice none 0 0) => match tyOf P 9 el with
            | some e => match content H e x with
              | some ys => cond (Nat.beq inf.size e.size)
                  (some (.new (decide (ys.length * inf.bytes ≤ 140737488355328) && decide (ys.length ≤ 9223372036854775807)) id (.row el e 0 ys) (.sl id 0))) none
              | none => none
            | none => none
          | _ => none) none
        | none => none
      | none => none
    | none => none
  | _ => none

def oRange (P : Program) (id : Nat) (t : TypeId) : AV → Option Out
  | .lit (.string s) => match P.underlying t with
    | some .string => some (.new true id (.siter s 0) (.ptr id 0))
    | _ => none
  | _ => none

def oNext (H : Heap) (isString : Bool) : AV → Option Out
  | .ptr i 0 => match isString, H i with
    | true, some (.siter s pos) => some (.nxt (decide (pos < s.size)) i (.siter s (pos + (Utf8.decode s pos).2))
        (.tup [.lit (.bool true), .lit (.int .i64 pos), .lit (.int .i32 (Utf8.decode s pos).1)]) (.tup [.lit (.bool false)]))
    | _, _ => none
  | _ => none

def bound (x : Option AV) (d : Int) : Option Int :=
  match x with
  | none => some d
  | some (.lit (.int _ n)) => some n
  | _ => none

def oSlice (P : Program) (t : TypeId) (x : AV) (lo hi mx : Option AV) : Option Out :=
  match x with
  | .lit (.string s) => match P.underlying t, bound lo 0, bound hi s.size, mx with
    | some .string, some l, some h, none => some (.val (decide (0 ≤ l) && decide (l ≤ h) && decide (h ≤ (s.size : Int))) (.lit (.string (s.extract l.toNat h.toNat))))
    | _, _, _, _ => none
  | .cont e xs => match P.underlying t, bound lo 0, bound hi xs.length, mx with
    | some (.slice el), some l, some h, none => match P.info? el with
      | some inf => cond (Nat.beq inf.size e.size) (some (.val (decide (0 ≤ l) && decide (l ≤ h) && decide (h ≤ (xs.length : Int))) (.cont e ((xs.take h.toNat).drop l.toNat)))) none
      | none => none
    | _, _, _, _ => none
  | _ => none

/-! parts of rows that are the call's own -/
def oSub (P : Program) (H : Heap) (t : TypeId) (i g a b : Nat) (whole : Bool) (lo hi mx : Option AV) : Option Out :=
  match P.underlying t with
  | some (.slice el) => match P.info? el, H i with
    | some inf, some (.row _ e g' xs) => match bound lo 0, bound hi ((cond whole xs.length b - a : Nat) : Int), mx with
      | some l, some h, none => cond (Nat.beq g g' && Nat.beq inf.size e.size && (Nat.beq a 0 || ltN a b))
          (some (.val (decide (0 ≤ l) && decide (l ≤ h) && decide ((a : Int) + h ≤ (xs.length : Int))) (.sub i g (a + l.toNat) (a + h.toNat)))) none
      | some l, some h, some (.lit (.int _ m)) => cond (hi.isSome && Nat.beq g g')
          (some (.val (decide (0 ≤ l) && decide (l ≤ h) && decide (h ≤ m) && decide ((a : Int) + m ≤ (xs.length : Int))) .junk)) none
      | _, _, _ => none
    | _, _ => none
  | _ => none

/-- a part of data, with a bound of what may be behind it -/
def oSlice3 (P : Program) (t : TypeId) (e : Ty) (xs : List e.T) (lo hi : Option AV) (mx : AV) : Option Out :=
  match P.underlying t, bound lo 0, bound hi xs.length, mx with
  | some (.slice el), some l, some h, .lit (.int _ m) => match P.info? el with
    | some inf => cond (hi.isSome && Nat.beq inf.size e.size) (some (.val (decide (0 ≤ l) && decide (l ≤ h) && decide (h ≤ m) && decide (m ≤ (xs.length : Int))) (.cont e ((xs.take h.toNat).drop l.toNat)))) none
    | none => none
  | _, _, _, _ => none

def oSliceH (P : Program) (H : Heap) (t : TypeId) (x : AV) (lo hi mx : Option AV) : Option Out :=
  match x with
  | .sl i g => oSub P H t i g 0 0 true lo hi mx
  | .sub i g a b => oSub P H t i g a b false lo hi mx
  | .cont e xs => match mx with
    | none => oSlice P t (.cont e xs) lo hi none
    | some m => oSlice3 P t e xs lo hi m
  | x => oSlice P t x lo hi mx

def oLenH (P : Program) (H : Heap) (t : TypeId) (x : AV) : Option Out :=
  match x with
  | .sub i g a b => match P.underlying t, H i with
    | some (.slice _), some (.row _ _ g' _) => cond (Nat.beq g g') (some (.val true (.lit (.int .i64 ((b - a : Nat) : Int))))) none
    | _, _ => none
  | .bsl _ n => match P.underlying t with
    | some (.slice _) => some (.val true (.lit (.int .i64 n)))
    | _ => none
  | x => oLen P H t x

def oAtH (P : Program) (H : Heap) (t : TypeId) (x y : AV) : Option Out :=
  match x with
  | .sub j g a b => match y with
    | .lit (.int _ i) => match P.underlying t with
      | some (.slice el) => match P.info? el, H j with
        | some inf, some (.row _ e g' _) => cond (Nat.beq g g' && Nat.beq inf.size e.size)
            (some (.val (decide (0 ≤ i) && decide (i < ((b - a : Nat) : Int))) (.elp j g (a + i.toNat) 0))) none
        | _, _ => none
      | _ => none
    | _ => none
  | .bsl j n => match y with
    | .lit (.int _ i) => match P.underlying t with
      | some (.slice el) => match P.info? el with
        | some inf => cond (Nat.beq inf.size 1) (some (.val (decide (0 ≤ i) && decide (i < (n : Int))) (.ptr j i.toNat))) none
        | none => none
      | _ => none
    | _ => none
  | .ptr j off => match y with
    | .lit (.int _ i) => match P.underlying t with
      | some (.array n el) => match P.info? el with
        | some inf => some (.val (decide (0 ≤ i) && decide (i < (n : Int))) (.ptr j (off + i.toNat * inf.size)))
        | none => none
      | _ => none
    | _ => none
  | x => oAt P H t x y

def oClear (P : Program) (H : Heap) (t : TypeId) (x : AV) : Option Out :=
  match x with
  | .sub i g a b => match P.underlying t with
    | some (.slice el) => match P.info? el, H i with
      | some inf, some (.row te e g' xs) => match inf.zero with
        | some z => match (ofV z).cells' with
          | some zc => match decAll noHeap e zc with
            | some y => cond (Nat.beq g g' && Nat.beq inf.size e.size && Nat.beq zc.length inf.size && ltN 0 inf.size)
                (some (.wr true i (.row te e g (xs.take a ++ List.replicate (b - a) y ++ xs.drop (a + (b - a)))) (.lit (.tuple #[])))) none
            | none => none
          | none => none
        | none => none
      | _, _ => none
    | _ => none
  | _ => none

/-- append onto a beginning, where there is room in what is known -/
def oAppendH (P : Program) (H : Heap) (id : Nat) (t : TypeId) (s x : AV) : Option Out :=
  match s with
  | .sub i g a b => match P.underlying t with
    | some (.slice el) => match P.info? el, H i with
      | some inf, some (.row te e g' xs) => match content H e x with
        | some ys => cond (Nat.beq a 0 && Nat.beq g g' && Nat.beq te el && Nat.beq inf.size e.size && ltN 0 inf.size)
            (some (.wr (decide (b + ys.length ≤ xs.length)) i (.row te e g (xs.take b ++ ys ++ xs.drop (b + ys.length))) (.sub i g 0 (b + ys.length)))) none
        | none => none
      | _, _ => none
    | _ => none
  | s => oAppend P H id t s x

def bytesStr (xs : List Int) : ByteArray := ⟨(xs.map fun n => UInt8.ofNat n.toNat).toArray⟩

def oStr (P : Program) (H : Heap) (src dst : TypeId) (x : AV) : Option Out :=
  match P.underlying src, P.underlying dst with
  | some (.slice e), some .string => match P.underlying e, content H (.int .u8) x with
    | some (.int .u8), some xs => some (.val true (.lit (.string (bytesStr xs))))
    | _, _ => none
  | _, _ => none

def sem (P : Program) (H : Heap) (id : Nat) (o : Oper) (ρ : Operand → AV) : Option Out :=
  match o.op with
  | .move x => some (.val true (ρ x))
  | .assign x => some (.val true (ρ x))
  | .pick c a b => match ρ c with
    | .lit (.bool t) => some (.val true (cond t (ρ a) (ρ b)))
    | _ => none
  | .alloc t => oAlloc P id t
  | .box t x => oBox id t (ρ x)
  | .load t a => oLoad P H t (ρ a)
  | .store t a x => oStore P H t (ρ a) (ρ x)
  | .fieldAddr s x f => oField P H s (ρ x) f
  | .field s x f => oPart P s (ρ x) f
  | .nilCheck x => oNil H (ρ x)
  | .binOp op t x y _ => oBin P op t (ρ x) (ρ y)
  | .unOp op _ x => oUn op (ρ x)
  | .convert s d x => match ρ x with
    | .lit v => oConv P s d (.lit v)
    | a => oStr P H s d a
  | .build t parts => oBuild P t (parts.toList.map fun p => (p.1, ρ p.2))
  | .buildSlice t n parts => oBuildSlice P id t n (parts.toList.map fun p => (p.1, ρ p.2))
  | .makeSlice t l c => oMake P id t (ρ l) (ρ c)
  | .slice t x lo hi mx => oSliceH P H t (ρ x) (lo.map ρ) (hi.map ρ) (mx.map ρ)
  | .range t x => oRange P id t (ρ x)
  | .next x s => oNext H s (ρ x)
  | .extract t i => oExt (ρ t) i
  | .index t x i => oIndex P t (ρ x) (ρ i)
  | .indexAddr t x i => oAtH P H t (ρ x) (ρ i)
  | .makeMap t r => match r with
    | none => oMakeMap P id t
    | some _ => none
  | .mapEntry t m k => oMapEntry P H t (ρ m) (ρ k)
  | .mapUpdate t m k x => oMapUpdate P H t (ρ m) (ρ k) (ρ x)
  | .entryStore _ m s x => oEntryStore H (ρ m) (ρ s) (ρ x)
  | .lookup t x k ok => oLookup P H t ok (ρ x) (ρ k)
  | .makeFunc fn first caps => some (.val true (.fn fn (first.toList.map ρ) (caps.toList.map ρ)))
  | .call c => match c.callee with
    | .builtin .len => match c.argTypes.toList, c.args.toList with
      | [t], [x] => oLenH P H t (ρ x)
      | _, _ => none
    | .builtin .clear => match c.argTypes.toList, c.args.toList with
      | [t], [x] => oClear P H t (ρ x)
      | _, _ => none
    | .builtin .append => match c.argTypes.toList, c.args.toList with
      | [t, u], [s, x] => cond (Nat.beq t u) (oAppendH P H id t (ρ s) (ρ x)) none
      | _, _ => none
    | .builtin .min => match c.args.toList with
      | [x, y] => oMin (ρ x) (ρ y)
      | _ => none
    | .builtin .max => match c.args.toList with
      | [x, y] => oMax (ρ x) (ρ y)
      | _ => none
    | .value f => oCall P (ρ f) (c.args.toList.map ρ)
    | _ => none
  | _ => none

def Out.ok : Out → Bool
  | .val c _ => c
  | .new c _ _ _ => c
  | .wr c _ _ _ => c
  | .nxt _ _ _ _ _ => true
  | .call _ _ => false

def Out.res : Out → AV
  | .val _ v => v
  | .new _ _ _ v => v
  | .wr _ _ _ v => v
  | .nxt c _ _ v u => cond c v u
  | .call _ _ => .junk

def Out.heap (H : Heap) : Out → Heap
  | .val _ _ => H
  | .new _ i o _ => upd H i (some o)
  | .wr _ i o _ => upd H i (some o)
  | .nxt c i o _ _ => cond c (upd H i (some o)) H
  | .call _ _ => H

/-- The object that is laid is a new one. -/
def Out.fresh (H : Heap) : Out → Bool
  | .new _ i _ _ => (H i).isNone
  | _ => true

def Gives (n : Next) (u : Value) : Prop := n = .value u ∨ (n = .skip ∧ u = undef)
end Go.Sy
