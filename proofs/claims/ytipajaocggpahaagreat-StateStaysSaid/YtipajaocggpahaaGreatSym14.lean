/- A contract out of a run. -/
import Derived.Test.YtipajaocggpahaaGreatSym13
namespace Go.Sy
open Go Go.RowKit
set_option linter.unusedSimpArgs false
set_option linter.unusedVariables false

def encV (t : Ty) (x : t.T) : AV := cond t.isAgg (.agg (enc t x)) (headAV (enc t x))

def encArgs : (ps : List Ty) → Args ps → List AV
  | [], _ => []
  | t :: ts, x => encV t x.1 :: encArgs ts x.2

/-- reading results: what is owned, by its number, and the rest -/
def decOwn (H : Heap) (te : TypeId) (e : Ty) : List AV → Option (List e.T × List AV × List Nat)
  | .sl i g :: r => match H i with
    | some (.row te' e' g' xs) => cond (Nat.beq g g' && Nat.beq te te') (match castL (e := e') (e' := e) xs with
      | some ys => some (ys, r, [i])
      | none => none) none
    | _ => none
  | .lit (.slice none 0 0) :: r => some ([], r, [])
  | .sub i g a b :: r => match H i with
    | some (.row te' e' g' xs) => cond (Nat.beq a 0 && Nat.beq g g' && Nat.beq te te') (match castL (e := e') (e' := e) (xs.take b) with
      | some ys => some (ys, r, [i])
      | none => none) none
    | _ => none
  | _ => none

/-- data alone is handed back -/
def RTy.noOwn : RTy → Bool
  | .val _ => true
  | .own _ _ => false
  | .pair a b => a.noOwn && b.noOwn
  | .one a => a.noOwn
def noOwns : List RTy → Bool
  | [] => true
  | t :: ts => t.noOwn && noOwns ts

/-- Hv: the rows that may be read as data -/
def decR (Hv H : Heap) : (t : RTy) → List AV → Option (t.T × List AV × List Nat)
  | .val t, l => match dec Hv t l with
    | some (x, r) => some (x, r, [])
    | none => none
  | .own te e, l => decOwn H te e l
  | .pair a b, l => match decR Hv H a l with
    | some (x, l', o) => match decR Hv H b l' with
      | some (y, l'', p) => some ((x, y), l'', o ++ p)
      | none => none
    | none => none
  | .one a, l => decR Hv H a l

def decRV (Hv H : Heap) (t : RTy) (a : AV) : Option (t.T × List Nat) :=
  cond (t.isAgg == a.isAgg) (match decR Hv H t a.inside with
    | some (x, [], o) => some (x, o)
    | _ => none) none

def decRs (Hv H : Heap) : (rs : List RTy) → List AV → Option (Res rs × List Nat)
  | [], [] => some ((), [])
  | t :: ts, a :: as => match decRV Hv H t a with
    | some (x, o) => match decRs Hv H ts as with
      | some (y, p) => some ((x, y), o ++ p)
      | none => none
    | none => none
  | _, _ => none

def AV.parts (n : Nat) : AV → List AV
  | .tup vs => cond (Nat.beq n 1) [.tup vs] vs
  | a => [a]

def decEnd (rs : List RTy) : Option (AV × Heap × List Nat) → Option (Res rs)
  | some (v, H, _) => match decRs (cond (noOwns rs) H (fun _ => none)) H rs (v.parts rs.length) with
    | some (y, o) => cond (distinct o) (some y) none
    | none => none
  | none => none

def top (P : Program) (C : Cons) (Hn : Hints) (lf n k : Nat) (ps : List Ty) (rs : List RTy) (x : Args ps) : Option (Res rs) :=
  decEnd rs (exFun P C Hn lf n 0 (.fn k) (encArgs ps x) (fun _ => none) [])
end Go.Sy
