/- Shapes of states at a loop's head: what of it is data. -/
import Derived.Test.YtipajaocggpahaaGreatSym15
namespace Go.Sy
open Go Go.RowKit
set_option linter.unusedSimpArgs false
set_option linter.unusedVariables false

mutual
/-- surely the same -/
def eqAV : AV → AV → Bool
  | .ptr i o, .ptr j p => Nat.beq i j && Nat.beq o p
  | .sl i g, .sl j h => Nat.beq i j && Nat.beq g h
  | .junk, .junk => true
  | .yld i, .yld j => Nat.beq i j
  | .mp i, .mp j => Nat.beq i j
  | .lit (.tuple x), .lit (.tuple y) => Nat.beq x.size 0 && Nat.beq y.size 0
  | .fn (.func f) a b, .fn (.func g) c d => Nat.beq f g && eqAVs a c && eqAVs b d
  | _, _ => false
def eqAVs : List AV → List AV → Bool
  | [], [] => true
  | a :: as, b :: bs => eqAV a b && eqAVs as bs
  | _, _ => false
end

mutual
theorem eqAV_eq : ∀ (a b : AV), eqAV a b = true → a = b
  | .ptr i o, b, h => by
    cases b <;> simp only [eqAV, Bool.false_eq_true] at h
    simp only [Bool.and_eq_true] at h
    rw [Nat.eq_of_beq_eq_true h.1, Nat.eq_of_beq_eq_true h.2]
  | .sl i o, b, h => by
    cases b <;> simp only [eqAV, Bool.false_eq_true] at h
    simp only [Bool.and_eq_true] at h
    rw [Nat.eq_of_beq_eq_true h.1, Nat.eq_of_beq_eq_true h.2]
  | .junk, b, h => by
    cases b <;> simp only [eqAV, Bool.false_eq_true] at h
    rfl
  | .yld i, b, h => by
    cases b <;> simp only [eqAV, Bool.false_eq_true] at h
    rw [Nat.eq_of_beq_eq_true h]
  | .mp i, b, h => by
    cases b <;> simp only [eqAV, Bool.false_eq_true] at h
    rw [Nat.eq_of_beq_eq_true h]
  | .lit x, b, h => by
    cases b with
    | lit y =>
      cases x <;> cases y <;> simp only [eqAV, Bool.false_eq_true] at h
      rename_i x y
      simp only [Bool.and_eq_true] at h
      have h1 := Nat.eq_of_beq_eq_true h.1
      have h2 := Nat.eq_of_beq_eq_true h.2
      have e1 : x = #[] := by simpa using h1
      have e2 : y = #[] := by simpa using h2
      rw [e1, e2]
    | _ => cases x <;> simp [eqAV] at h
  | .fn f a b, y, h => by
    cases y with
    | fn g c d =>
      cases f <;> cases g <;> simp only [eqAV, Bool.false_eq_true] at h
      simp only [Bool.and_eq_true] at h
      rw [Nat.eq_of_beq_eq_true h.1.1, eqAVs_eq a c h.1.2, eqAVs_eq b d h.2]
    | _ => cases f <;> simp [eqAV] at h
  | .elc e x o, y, h => by cases y <;> simp [eqAV] at h
  | .elp i g k o, y, h => by cases y <;> simp [eqAV] at h
  | .cont e xs, y, h => by cases y <;> simp [eqAV] at h
  | .agg l, y, h => by cases y <;> simp [eqAV] at h
  | .tup l, y, h => by cases y <;> simp [eqAV] at h
theorem eqAVs_eq : ∀ (as bs : List AV), eqAVs as bs = true → as = bs
  | [], [], _ => rfl
  | [], _ :: _, h => by simp [eqAVs] at h
  | _ :: _, [], h => by simp [eqAVs] at h
  | a :: as, b :: bs, h => by
    simp only [eqAVs, Bool.and_eq_true] at h
    rw [eqAV_eq a b h.1, eqAVs_eq as bs h.2]
end

def decContX (e : Ty) : List AV → Option (List e.T × List AV)
  | .cont e' xs :: r => match castL (e := e') (e' := e) xs with
    | some ys => some (ys, r)
    | none => none
  | _ => none

def decFncX (k : Nat) : List AV → Option (Unit × List AV)
  | .fn (.func j) [] [] :: r => cond (Nat.beq j k) (some ((), r)) none
  | _ => none

theorem decFncX_eq {k : Nat} {l : List AV} {x : Unit} {r : List AV} (h : decFncX k l = some (x, r)) : l = AV.fn (.func k) [] [] :: r := by
  unfold decFncX at h
  split at h
  · rename_i j r'
    cases hb : Nat.beq j k with
    | true =>
      rw [hb] at h
      cases h
      rw [Nat.eq_of_beq_eq_true hb]
    | false => rw [hb] at h; cases h
  · cases h

/-- a datum out of its own cells, and no others -/
def decX : (t : Ty) → List AV → Option (t.T × List AV)
  | .int k, l => decInt k l
  | .bool, l => decBool l
  | .str, l => decStr l
  | .row e, l => decContX e l
  | .pair a b, l => match decX a l with
    | some (x, l') => match decX b l' with
      | some (y, l'') => some ((x, y), l'')
      | none => none
    | none => none
  | .one a, l => decX a l
  | .fnc k, l => decFncX k l

theorem decX_eq : ∀ (t : Ty) (l : List AV) (x : t.T) (r : List AV), decX t l = some (x, r) → l = enc t x ++ r
  | .int k, l, x, r, h => by
    simp only [decX] at h
    unfold decInt at h
    split at h
    · obtain ⟨hk, he⟩ := cond_some h
      cases he
      simp only [decide_eq_true_eq] at hk
      subst hk; rfl
    · simp at h
  | .bool, l, x, r, h => by
    simp only [decX] at h
    unfold decBool at h
    split at h
    · cases h; rfl
    · simp at h
  | .str, l, x, r, h => by
    simp only [decX] at h
    unfold decStr at h
    split at h
    · cases h; rfl
    · simp at h
  | .fnc k, l, x, r, h => by
    simp only [decX] at h
    rw [decFncX_eq h]; rfl
  | .row e, l, x, r, h => by
    simp only [decX] at h
    unfold decContX at h
    split at h
    · split at h
      · rename_i hc
        cases h
        obtain ⟨he, rfl⟩ := castL_eq hc
        subst he; rfl
      · simp at h
    · simp at h
  | .pair a b, l, x, r, h => by
    simp only [decX] at h
    split at h
    · rename_i y l' h1
      split at h
      · rename_i z l'' h2
        cases h
        rw [decX_eq a l y l' h1, decX_eq b l' z _ h2]
        simp only [enc, List.append_assoc]
      · simp at h
    · simp at h
  | .one a, l, x, r, h => by
    simp only [decX] at h
    simpa only [enc] using decX_eq a l x r h

inductive SK where
  | data (t : Ty)
  | int (k : IntKind)
  | bool
  | str
  | cont (e : Ty)
  | fix (a : AV)

@[reducible] def SK.T : SK → Type
  | .data t => t.T
  | .int _ => Int
  | .bool => Bool
  | .str => ByteArray
  | .cont e => List e.T
  | .fix _ => Unit

def SK.put : (s : SK) → s.T → AV
  | .data t, x => .agg (enc t x)
  | .int k, x => .lit (.int k x)
  | .bool, x => .lit (.bool x)
  | .str, x => .lit (.string x)
  | .cont e, xs => .cont e xs
  | .fix a, _ => a

def getInt (k : IntKind) : AV → Option Int
  | .lit (.int k' x) => cond (decide (k' = k)) (some x) none
  | _ => none
def getData (t : Ty) : AV → Option t.T
  | .agg cs => match decX t cs with
    | some (x, []) => some x
    | _ => none
  | _ => none
def getBool : AV → Option Bool
  | .lit (.bool x) => some x
  | _ => none
def getStr : AV → Option ByteArray
  | .lit (.string x) => some x
  | _ => none
def getCont (e : Ty) : AV → Option (List e.T)
  | .cont e' xs => castL (e := e') (e' := e) xs
  | _ => none

def SK.get : (s : SK) → AV → Option s.T
  | .data t, a => getData t a
  | .int k, a => getInt k a
  | .bool, a => getBool a
  | .str, a => getStr a
  | .cont e, a => getCont e a
  | .fix b, a => cond (eqAV a b) (some ()) none

theorem SK.get_put : ∀ (s : SK) (a : AV) (x : s.T), s.get a = some x → a = s.put x
  | .data t, a, x, h => by
    simp only [SK.get] at h
    unfold getData at h
    split at h
    · split at h
      · rename_i hd
        cases h
        rw [decX_eq t _ _ _ hd, List.append_nil]; rfl
      · simp at h
    · simp at h
  | .int k, a, x, h => by
    simp only [SK.get] at h
    unfold getInt at h
    split at h
    · obtain ⟨hk, e⟩ := cond_some h
      simp only [decide_eq_true_eq] at hk
      subst hk; subst e; rfl
    · simp at h
  | .bool, a, x, h => by
    simp only [SK.get] at h
    unfold getBool at h
    split at h
    · cases h; rfl
    · simp at h
  | .str, a, x, h => by
    simp only [SK.get] at h
    unfold getStr at h
    split at h
    · cases h; rfl
    · simp at h
  | .cont e, a, x, h => by
    simp only [SK.get] at h
    unfold getCont at h
    split at h
    · obtain ⟨he, e1⟩ := castL_eq h
      subst he; subst e1; rfl
    · simp at h
  | .fix b, a, x, h => by
    simp only [SK.get] at h
    obtain ⟨h1, _⟩ := cond_some h
    exact eqAV_eq a b h1

@[reducible] def XT : List SK → Type
  | [] => Unit
  | s :: ss => s.T × XT ss

def putX : (l : List SK) → XT l → List AV
  | [], _ => []
  | s :: ss, x => s.put x.1 :: putX ss x.2

def getX : (l : List SK) → List AV → Option (XT l)
  | [], [] => some ()
  | s :: ss, a :: as => match s.get a, getX ss as with
    | some x, some y => some (x, y)
    | _, _ => none
  | _, _ => none

theorem getX_put : ∀ (l : List SK) (as : List AV) (x : XT l), getX l as = some x → as = putX l x
  | [], [], x, h => rfl
  | [], _ :: _, x, h => by simp [getX] at h
  | s :: ss, [], x, h => by simp [getX] at h
  | s :: ss, a :: as, x, h => by
    simp only [getX] at h
    split at h
    · rename_i y z h1 h2
      cases h
      rw [SK.get_put s a y h1, getX_put ss as z h2]; rfl
    · simp at h

def eqJmp : Jmp → Jmp → Bool
  | .ret, .ret => true
  | .exit a, .exit b => Nat.beq a b
  | .goto a, .goto b => Nat.beq a b
  | _, _ => false

def eqSt : LSt → LSt → Bool
  | .ready, .ready => true
  | .busy, .busy => true
  | .over, .over => true
  | .done a, .done b => eqJmp a b
  | _, _ => false

theorem eqSt_eq : ∀ {a b : LSt}, eqSt a b = true → a = b := by
  intro a b h
  cases a <;> cases b <;> simp only [eqSt, Bool.false_eq_true] at h <;> try rfl
  rename_i x y
  cases x <;> cases y <;> simp only [eqJmp, Bool.false_eq_true] at h <;> first | rfl | rw [Nat.eq_of_beq_eq_true h]

inductive OS where
  | box (t : TypeId) (ks : List SK)
  | row (t : TypeId) (e : Ty) (g : Nat)
  | siter
  | loop (k r : Nat) (st : LSt) (ks : List SK)
  | map
  | gone

@[reducible] def OS.T : OS → Type
  | .box _ ks => XT ks
  | .row _ e _ => List e.T
  | .siter => ByteArray × Nat
  | .loop _ _ _ ks => XT ks
  | .map => List (Int × Int)
  | .gone => Unit

def OS.put : (s : OS) → s.T → Option HObj
  | .box t ks, x => some (.box t (putX ks x))
  | .row t e g, xs => some (.row t e g xs)
  | .siter, x => some (.siter x.1 x.2)
  | .loop k r st ks, x => some (.loop k r st (putX ks x))
  | .map, x => some (.map x)
  | .gone, _ => none

def getBox (t : TypeId) (ks : List SK) : Option HObj → Option (XT ks)
  | some (.box t' cs) => cond (Nat.beq t' t) (getX ks cs) none
  | _ => none
def getRow (t : TypeId) (e : Ty) (g : Nat) : Option HObj → Option (List e.T)
  | some (.row t' e' g' xs) => cond (Nat.beq t' t && Nat.beq g' g) (castL (e := e') (e' := e) xs) none
  | _ => none
def getSiter : Option HObj → Option (ByteArray × Nat)
  | some (.siter s pos) => some (s, pos)
  | _ => none
def getLoop (k r : Nat) (st : LSt) (ks : List SK) : Option HObj → Option (XT ks)
  | some (.loop k' r' st' ts) => cond (Nat.beq k' k && Nat.beq r' r && eqSt st' st) (getX ks ts) none
  | _ => none
def getMap : Option HObj → Option (List (Int × Int))
  | some (.map es) => some es
  | _ => none
def getGone : Option HObj → Option Unit
  | none => some ()
  | _ => none

def OS.get : (s : OS) → Option HObj → Option s.T
  | .box t ks, o => getBox t ks o
  | .row t e g, o => getRow t e g o
  | .siter, o => getSiter o
  | .loop k r st ks, o => getLoop k r st ks o
  | .map, o => getMap o
  | .gone, o => getGone o

theorem cond_true_of {α : Type} {c : Bool} {a : Option α} {b : α} (h : cond c a none = some b) : c = true ∧ a = some b := by
  cases c <;> simp_all

theorem OS.get_put : ∀ (s : OS) (o : Option HObj) (x : s.T), s.get o = some x → o = s.put x
  | .box t ks, o, x, h => by
    simp only [OS.get] at h
    unfold getBox at h
    split at h
    · obtain ⟨h1, h2⟩ := cond_true_of h
      rw [Nat.eq_of_beq_eq_true h1, getX_put _ _ _ h2]; rfl
    · simp at h
  | .row t e g, o, x, h => by
    simp only [OS.get] at h
    unfold getRow at h
    split at h
    · obtain ⟨h1, h2⟩ := cond_true_of h
      simp only [Bool.and_eq_true] at h1
      obtain ⟨he, e1⟩ := castL_eq h2
      subst he; subst e1
      rw [Nat.eq_of_beq_eq_true h1.1, Nat.eq_of_beq_eq_true h1.2]; rfl
    · simp at h
  | .siter, o, x, h => by
    simp only [OS.get] at h
    unfold getSiter at h
    split at h
    · cases h; rfl
    · simp at h
  | .map, o, x, h => by
    simp only [OS.get] at h
    unfold getMap at h
    split at h
    · cases h; rfl
    · simp at h
  | .loop k r st ks, o, x, h => by
    simp only [OS.get] at h
    unfold getLoop at h
    split at h
    · obtain ⟨h1, h2⟩ := cond_true_of h
      simp only [Bool.and_eq_true] at h1
      rw [Nat.eq_of_beq_eq_true h1.1.1, Nat.eq_of_beq_eq_true h1.1.2, eqSt_eq h1.2, getX_put _ _ _ h2]; rfl
    · simp at h
  | .gone, o, x, h => by
    simp only [OS.get] at h
    unfold getGone at h
    split at h
    · rfl
    · simp at h

@[reducible] def OT : List (Nat × OS) → Type
  | [] => Unit
  | s :: ss => s.2.T × OT ss

def putO : (l : List (Nat × OS)) → OT l → List (Nat × Option HObj)
  | [], _ => []
  | s :: ss, x => (s.1, s.2.put x.1) :: putO ss x.2

def getO (f : Nat → Option HObj) : (l : List (Nat × OS)) → Option (OT l)
  | [] => some ()
  | s :: ss => match s.2.get (f s.1), getO f ss with
    | some x, some y => some (x, y)
    | _, _ => none

theorem getO_put (f : Nat → Option HObj) : ∀ (l : List (Nat × OS)) (x : OT l), getO f l = some x → (l.map (·.1)).map (fun i => (i, f i)) = putO l x
  | [], x, h => rfl
  | s :: ss, x, h => by
    simp only [getO] at h
    split at h
    · rename_i y z h1 h2
      cases h
      simp only [List.map_cons, putO]
      rw [OS.get_put s.2 _ y h1, getO_put f ss z h2]
    · simp at h

@[reducible] def RT : List RowH → Type
  | [] => Unit
  | r :: rs => List r.e.T × RT rs

def putRows : (l : List RowH) → RT l → List (Nat × Option HObj)
  | [], _ => []
  | r :: rs, x => (r.id, some (.row r.te r.e 0 x.1)) :: putRows rs x.2

def srcT (σ : St) (r : RowH) : Option (List r.e.T × Option Nat) :=
  match σ.valAt r.at' with
  | .lit (.slice none 0 0) => some ([], none)
  | .sl a g => match σ.heap a with
    | some (.row te e g' xs) => cond (Nat.beq g g' && Nat.beq te r.te) (match castL (e := e) (e' := r.e) xs with
      | some ys => some (ys, some a)
      | none => none) none
    | _ => none
  | _ => none

def getRows (σ : St) : (l : List RowH) → Option (RT l × List (Option Nat))
  | [] => some ((), [])
  | r :: rs => match srcT σ r, getRows σ rs with
    | some (x, s), some (y, ss) => some ((x, y), s :: ss)
    | _, _ => none

theorem srcT_srcOf {σ : St} {r : RowH} {x : List r.e.T} {s : Option Nat} (h : srcT σ r = some (x, s)) : srcOf σ r = some ⟨r.id, s, r.te, r.e, x⟩ := by
  unfold srcT at h
  unfold srcOf
  split at h
  · rename_i hx; cases h; simp only [hx]
  · rename_i a g hx
    simp only [hx]
    split at h
    · rename_i te e g' xs hH
      simp only [hH]
      cases hb : (Nat.beq g g' && Nat.beq te r.te) with
      | false => rw [hb] at h; simp at h
      | true =>
        rw [hb] at h
        simp only [cond_true] at h ⊢
        split at h
        · rename_i ys hc; cases h; simp only [hc]
        · simp at h
    · simp at h
  · simp at h

theorem getRows_srcs {σ : St} : ∀ {l : List RowH} {x : RT l} {ss : List (Option Nat)}, getRows σ l = some (x, ss) →
    ∃ ls, srcs σ l = some ls ∧ ls.map (fun s => (s.id, some (HObj.row s.te s.e 0 s.xs))) = putRows l x ∧ ls.map (·.id) = l.map (·.id) ∧ Src.list ls = ss.filterMap id
  | [], x, ss, h => by simp only [getRows, Option.some.injEq, Prod.mk.injEq] at h; obtain ⟨_, rfl⟩ := h; exact ⟨[], rfl, rfl, rfl, rfl⟩
  | r :: rs, x, ss, h => by
    simp only [getRows] at h
    split at h
    · rename_i y s z ss' h1 h2
      cases h
      obtain ⟨ls, k1, k2, k3, k4⟩ := getRows_srcs h2
      refine ⟨⟨r.id, s, r.te, r.e, y⟩ :: ls, ?_, ?_, ?_, ?_⟩
      · simp only [srcs, srcT_srcOf h1, k1]
      · simp only [List.map_cons, k2, putRows]
      · simp only [List.map_cons, k3]
      · unfold Src.list at k4 ⊢
        cases s with
        | none => simp only [List.filterMap_cons, k4, id]
        | some a => simp only [List.filterMap_cons, k4, id]
    · simp at h

structure LShape where
  nt : Nat
  keep : List (Nat × SK)
  od : List (Nat × OS)      -- what was there ahead of the call
  own : List (Nat × OS)     -- what is the call's own
  rows : List RowH

def LShape.hint (s : LShape) : Hint := ⟨s.keep.map (·.1), s.own.map (·.1), s.rows⟩

@[reducible] def LShape.X (s : LShape) : Type := XT (s.keep.map (·.2)) × OT (s.od ++ s.own) × RT s.rows

def LShape.ids (s : LShape) : List Nat := (s.od ++ s.own).map (·.1)

def zipT : List Nat → List AV → List (Nat × AV)
  | t :: ts, a :: as => (t, a) :: zipT ts as
  | _, _ => []

def LShape.emb (s : LShape) (x : s.X) : St :=
  ⟨s.nt, lkT (rowT s.rows ++ zipT (s.keep.map (·.1)) (putX _ x.1)), lkH (putRows _ x.2.2 ++ putO _ x.2.1), s.ids ++ s.rows.map (·.id)⟩

def eqNats : List Nat → List Nat → Bool
  | [], [] => true
  | a :: as, b :: bs => Nat.beq a b && eqNats as bs
  | _, _ => false

theorem eqNats_eq : ∀ {as bs : List Nat}, eqNats as bs = true → as = bs
  | [], [], _ => rfl
  | [], _ :: _, h => by simp [eqNats] at h
  | _ :: _, [], h => by simp [eqNats] at h
  | a :: as, b :: bs, h => by
    simp only [eqNats, Bool.and_eq_true] at h
    rw [Nat.eq_of_beq_eq_true h.1, eqNats_eq h.2]

def LShape.fits (s : LShape) (σ : St) (ss : List (Option Nat)) : Bool :=
  Nat.beq σ.nt s.nt && distinct (ss.filterMap id) && distinct (s.rows.map (·.id)) && s.rows.all (fun r => !mem s.ids r.id) && (ss.filterMap id).all (fun a => !mem s.ids a)

def LShape.read (s : LShape) (σ : St) : Option s.X :=
  match getX (s.keep.map (·.2)) ((s.keep.map (·.1)).map fun t => clean s.ids (σ.val (.tmp t))), getO (fun i => (σ.heap i).map (headObj s.rows s.ids i)) (s.od ++ s.own), getRows σ s.rows with
  | some x, some y, some (z, ss) => cond (s.fits σ ss) (some (x, y, z)) none
  | _, _, _ => none

theorem zipT_map (f : Nat → AV) : ∀ (l : List Nat), l.map (fun t => (t, f t)) = zipT l (l.map f)
  | [] => rfl
  | t :: l => by simp only [List.map_cons, zipT, zipT_map f l]

theorem LShape.read_head {s : LShape} {σ : St} {x : s.X} (h : s.read σ = some x) : head (s.od.map (·.1)) s.hint σ = some (s.emb x) := by
  unfold LShape.read at h
  split at h
  · rename_i y z r ss h1 h2 h3
    obtain ⟨hf, rfl⟩ := cond_some h
    unfold LShape.fits at hf
    simp only [Bool.and_eq_true] at hf
    obtain ⟨⟨⟨⟨f1, f2⟩, f3⟩, f4⟩, f5⟩ := hf
    obtain ⟨ls, k1, k2, k3, k4⟩ := getRows_srcs h3
    have hL : s.od.map (·.1) ++ s.hint.ids = s.ids := by simp [LShape.hint, LShape.ids]
    have g1 := getX_put _ _ _ h1
    have g2 := getO_put _ _ _ h2
    unfold head
    simp only [hL]
    have hs : srcs σ s.hint.rows = some ls := k1
    rw [hs]
    have e1 : ls.all (fun p => !mem s.ids p.id) = true := by
      rw [List.all_eq_true] at f4 ⊢
      intro p hp
      have : p.id ∈ s.rows.map (·.id) := by rw [← k3]; exact List.mem_map.2 ⟨p, hp, rfl⟩
      obtain ⟨q, hq, e⟩ := List.mem_map.1 this
      rw [← e]; exact f4 q hq
    simp only [k3, k4, f2, f3, e1, f5, Bool.and_self, Bool.and_true, cond_true]
    rw [Nat.eq_of_beq_eq_true f1]
    simp only [LShape.emb, Option.some.injEq, St.mk.injEq, true_and]
    refine ⟨?_, ?_, trivial⟩
    · congr 1
      show rowT s.rows ++ (s.keep.map (·.1)).map (fun t => (t, clean s.ids (σ.val (.tmp t)))) = _
      rw [zipT_map (fun t => clean s.ids (σ.val (.tmp t))), g1]
    · rw [k2]
      congr 2
  · simp at h
end Go.Sy
