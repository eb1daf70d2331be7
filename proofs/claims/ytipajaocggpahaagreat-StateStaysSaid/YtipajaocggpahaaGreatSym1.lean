/- The words of an abstract interpreter for the model's code, over any program: types of data, abstract values, abstract heaps, and what it means that a world is as they say. -/
import Derived.Orders
import Derived.Below
namespace Go.Sy
open Go Go.RowKit

inductive Ty where
  | int (k : IntKind)
  | bool
  | str
  | row (e : Ty)
  | pair (a b : Ty)
  | one (a : Ty)
  | fnc (k : Nat)
  deriving DecidableEq

@[reducible] def Ty.T : Ty → Type
  | .int _ => Int
  | .bool => Bool
  | .str => ByteArray
  | .row e => List e.T
  | .pair a b => a.T × b.T
  | .one a => a.T
  | .fnc _ => Unit

def Ty.size : Ty → Nat
  | .int _ => 1
  | .bool => 1
  | .str => 1
  | .row _ => 1
  | .pair a b => a.size + b.size
  | .one a => a.size
  | .fnc _ => 1

inductive AV where
  | lit (x : Value)
  | ptr (i off : Nat)
  | elc (e : Ty) (x : e.T) (off : Nat)
  | elp (i g k off : Nat)
  | cont (e : Ty) (xs : List e.T)
  | sl (i g : Nat)
  | sub (i g lo hi : Nat)
  | bsl (i n : Nat)
  | yld (i : Nat)
  | mp (i : Nat)
  | fn (f : Fn) (first caps : List AV)
  | agg (cs : List AV)
  | tup (vs : List AV)
  | junk

structure Lc where
  blk : Option Nat
  cap : Nat

def Lc.addr (l : Lc) : Option Addr := l.blk.map fun b => ⟨b, 0, none⟩

abbrev Stable := Nat → Option Obj

def cellS (S : Stable) (a : Addr) : Option Value :=
  match S a.block with
  | some (.cells c _ _) => if a.spot.isSome then none else c[a.off]?
  | _ => none

/-- Cells that read as a datum, over memory that stays. -/
def Rd (S : Stable) : (t : Ty) → t.T → List Value → Prop
  | .int k, x, cs => cs = [.int k x]
  | .bool, x, cs => cs = [.bool x]
  | .str, x, cs => cs = [.string x]
  | .row e, xs, cs => ∃ a cap, cs = [.slice a (List.length xs) cap] ∧ (List.length xs ≤ cap ∧ (a = none → cap = 0)) ∧
      ∀ (j : Nat) (x : e.T), xs[j]? = some x → ∃ ad c, a = some ad ∧ Rd S e x c ∧ ∀ m v, c[m]? = some v → cellS S (ad.add (j * e.size + m)) = some v
  | .pair a b, x, cs => ∃ c d, cs = c ++ d ∧ Rd S a x.1 c ∧ Rd S b x.2 d
  | .one a, x, cs => Rd S a x cs
  | .fnc k, _, cs => cs = [.func (.func k) #[] #[]]

def enc : (t : Ty) → t.T → List AV
  | .int k, x => [.lit (.int k x)]
  | .bool, x => [.lit (.bool x)]
  | .str, x => [.lit (.string x)]
  | .row e, xs => [.cont e xs]
  | .pair a b, x => enc a x.1 ++ enc b x.2
  | .one a, x => enc a x
  | .fnc k, _ => [.fn (.func k) [] []]

/-- how a round of a range over a function leaves -/
inductive Jmp where
  | ret
  | exit (id : Nat)
  | goto (l : Nat)

def Jmp.code : Jmp → Code
  | .ret => .ret
  | .exit i => .exit i
  | .goto l => .goto l

/-- the state of a range over a function -/
inductive LSt where
  | ready
  | busy
  | done (j : Jmp)
  | over

def LSt.Is : LSt → LoopState → Option Code → Prop
  | .ready, s, p => s = .ready ∧ p = none
  | .busy, s, _ => s = .busy
  | .done j, s, p => s = .done ∧ p = some j.code
  | .over, _, _ => True

inductive HObj where
  | box (t : TypeId) (cells : List AV)
  | row (t : TypeId) (e : Ty) (g : Nat) (xs : List e.T)
  | siter (s : ByteArray) (pos : Nat)
  | loop (k r : Nat) (st : LSt) (tmps : List AV)
  | map (es : List (Int × Int))

abbrev Heap := Nat → Option HObj
abbrev Mu := Nat → Option Lc

def upd {α : Type} (f : Nat → α) (i : Nat) (v : α) : Nat → α := fun n => cond (Nat.beq n i) v (f n)

theorem upd_same {α : Type} (f : Nat → α) (i : Nat) (v : α) : upd f i v i = v := by simp [upd]
theorem upd_ne {α : Type} (f : Nat → α) {i j : Nat} (v : α) (h : j ≠ i) : upd f i v j = f j := by
  simp only [upd]; have : Nat.beq j i = false := by
    cases hb : Nat.beq j i with
    | false => rfl
    | true => exact absurd (Nat.eq_of_beq_eq_true hb) h
  rw [this]; rfl
theorem upd_comm {α : Type} (f : Nat → α) {i j : Nat} (v u : α) (h : i ≠ j) : upd (upd f i v) j u = upd (upd f j u) i v := by
  funext n
  by_cases h1 : n = i
  · subst h1; rw [upd_ne _ _ h, upd_same, upd_same]
  · by_cases h2 : n = j
    · subst h2; rw [upd_same, upd_ne _ _ h1, upd_same]
    · rw [upd_ne _ _ h2, upd_ne _ _ h1, upd_ne _ _ h1, upd_ne _ _ h2]

mutual
/-- A value is as an abstract value says. -/
def VR (μ : Mu) (S : Stable) (H : Heap) : AV → Value → Prop
  | .lit x, v => v = x
  | .ptr i off, v => ∃ b c, μ i = some ⟨some b, c⟩ ∧ (∀ t e g xs, H i ≠ some (.row t e g xs)) ∧ v = .pointer (some ⟨b, off, none⟩)
  | .elc e x off, v => ∃ (ad : Addr) (c : List Value), Rd S e x c ∧ (∀ m u, c[m]? = some u → cellS S (ad.add m) = some u) ∧ v = .pointer (some (ad.add off))
  | .elp i g k off, v => (∃ p, v = .pointer p) ∧ ∃ l, μ i = some l ∧ ∀ t e gc xs, H i = some (.row t e gc xs) → g ≤ gc ∧ (g = gc → ∃ b, l.blk = some b ∧ v = .pointer (some ⟨b, k * e.size + off, none⟩))
  | .cont e xs, v => Rd S (.row e) xs [v]
  | .sl i g, v => (∃ a n c, v = .slice a n c) ∧ ∃ l, μ i = some l ∧ ∀ t e gc xs, H i = some (.row t e gc xs) → g ≤ gc ∧ (g = gc → v = .slice l.addr xs.length l.cap)
  | .sub i g lo hi, v => (∃ a n c, v = .slice a n c) ∧ ∃ l, μ i = some l ∧ ∀ t e gc xs, H i = some (.row t e gc xs) → g ≤ gc ∧ (g = gc → lo ≤ hi ∧ hi ≤ xs.length ∧
      ∃ a, v = .slice a (hi - lo) (l.cap - lo) ∧ ((lo = 0 ∨ lo < hi) → a = l.addr.map (·.add (lo * e.size))) ∧ (a = none → l.addr = none))
  | .bsl i n, v => ∃ b c, μ i = some ⟨some b, c⟩ ∧ (∀ t e g xs, H i ≠ some (.row t e g xs)) ∧ ∃ cap, n ≤ cap ∧ v = .slice (some ⟨b, 0, none⟩) n cap
  | .yld i, v => ∃ b c, μ i = some ⟨some b, c⟩ ∧ (∀ t e g xs, H i ≠ some (.row t e g xs)) ∧ v = .func (.yield b) #[] #[]
  | .mp i, v => ∃ b c, μ i = some ⟨some b, c⟩ ∧ (∀ t e g xs, H i ≠ some (.row t e g xs)) ∧ v = .map (some b)
  | .fn f fi ca, v => ∃ x y, v = .func f x y ∧ VRs μ S H fi x.toList ∧ VRs μ S H ca y.toList
  | .agg cs, v => ∃ x, v = .agg x ∧ VRs μ S H cs x.toList
  | .tup cs, v => ∃ x, v = .tuple x ∧ VRs μ S H cs x.toList
  | .junk, _ => True
def VRs (μ : Mu) (S : Stable) (H : Heap) : List AV → List Value → Prop
  | [], vs => vs = []
  | a :: as, vs => ∃ v r, vs = v :: r ∧ VR μ S H a v ∧ VRs μ S H as r
end

/-- What is known of the memory that all calls find (package variables). -/
class Glob where
  pre : Stable → Prop
  /-- the ranges over functions: of which function, by their bodies' first region: the variables, the assignment, the body -/
  rng : Nat → Nat → Option (Array Tmp × Code × Code)
  mono : ∀ S S' : Stable, (∀ b o, S b = some o → S' b = some o) → pre S → pre S'

/-- a map's entries, of integers -/
def mapEs : Nat → List (Int × Int) → List MapEntry
  | _, [] => []
  | n, p :: l => ⟨.int .i64 p.1, .int .i64 p.2, n⟩ :: mapEs (n + 1) l

/-- A block is as an abstract object says. -/
def ObjR [Glob] (μ : Mu) (S : Stable) (H : Heap) (w : World) (B : Nat) (l : Lc) : HObj → Prop
  | .box t cells => ∃ b cs, l.blk = some b ∧ B ≤ b ∧ S b = none ∧ w.heap[b]? = some (.cells cs t (0, 0)) ∧ VRs μ S H cells cs.toList
  | .siter s pos => ∃ b, l.blk = some b ∧ B ≤ b ∧ S b = none ∧ w.heap[b]? = some (.stringIter s pos)
  | .loop k r st ts => ∃ b fn ss pe vs ps asn body df, l.blk = some b ∧ B ≤ b ∧ S b = none ∧ Glob.rng k r = some (ps, asn, body) ∧ st.Is ss pe ∧
      w.heap[b]? = some (.loop ⟨ss, pe, fn, vs, ps, asn, body, df⟩) ∧ VRs μ S H ts vs.toList
  | .map es => ∃ b, l.blk = some b ∧ B ≤ b ∧ S b = none ∧ w.heap[b]? = some (.map (mapEs 0 es).toArray es.length)
  | .row t e _ xs => (xs.length ≤ l.cap ∧ l.cap ≤ maxLen) ∧ ((l.blk = none ∧ l.cap = 0) ∨ ∃ b cs, l.blk = some b ∧ B ≤ b ∧ S b = none ∧ w.heap[b]? = some (.cells cs t (0, 0)) ∧ cs.size = l.cap * e.size ∧
      ∀ (j : Nat) (x : e.T), xs[j]? = some x → ∃ c, Rd S e x c ∧ ∀ m v, c[m]? = some v → cs[j * e.size + m]? = some v)

structure Rel [Glob] (μ : Mu) (S : Stable) (H : Heap) (B : Nat) (w0 w : World) : Prop where
  below : Below B w0 w
  size : B ≤ w.heap.size
  st : ∀ b o, S b = some o → w.heap[b]? = some o
  dom : ∀ i, (H i).isSome = (μ i).isSome
  obj : ∀ i o, H i = some o → ∃ l, μ i = some l ∧ ObjR μ S H w B l o
  sep : ∀ i j li lj b, i ≠ j → μ i = some li → μ j = some lj → li.blk = some b → lj.blk ≠ some b
  pre : Glob.pre S

/-- What is known of one state stays known in a later one. -/
structure Ext (μ : Mu) (S : Stable) (H : Heap) (μ' : Mu) (S' : Stable) (H' : Heap) : Prop where
  mu : ∀ i l, μ i = some l → μ' i = some l ∨ ∃ l' t e g xs t' g' xs', μ' i = some l' ∧ H i = some (.row t e g xs) ∧ H' i = some (.row t' e g' xs') ∧ g < g'
  st : ∀ b o, S b = some o → S' b = some o
  row : ∀ i t e g xs, (μ i).isSome → H' i = some (.row t e g xs) → ∃ t' g0 xs', H i = some (.row t' e g0 xs') ∧ g0 ≤ g ∧ (g0 = g → xs'.length = xs.length)

theorem cellS_mono {S S' : Stable} (h : ∀ b o, S b = some o → S' b = some o) {a : Addr} {v : Value} (hc : cellS S a = some v) : cellS S' a = some v := by
  unfold cellS at *
  cases hS : S a.block with
  | none => simp [hS] at hc
  | some o => rw [h _ _ hS]; rw [hS] at hc; exact hc

theorem Rd_mono {S S' : Stable} (h : ∀ b o, S b = some o → S' b = some o) : ∀ (t : Ty) (x : t.T) (cs : List Value), Rd S t x cs → Rd S' t x cs
  | .int _, _, _, hr => hr
  | .bool, _, _, hr => hr
  | .str, _, _, hr => hr
  | .row e, xs, cs, hr => by
    obtain ⟨a, cap, h1, h2, h3⟩ := hr
    refine ⟨a, cap, h1, h2, fun j x hj => ?_⟩
    obtain ⟨ad, c, e1, e2, e3⟩ := h3 j x hj
    exact ⟨ad, c, e1, Rd_mono h e x c e2, fun m v hv => cellS_mono h (e3 m v hv)⟩
  | .pair a b, x, cs, hr => by
    obtain ⟨c, d, h1, h2, h3⟩ := hr
    exact ⟨c, d, h1, Rd_mono h a _ _ h2, Rd_mono h b _ _ h3⟩
  | .one a, x, cs, hr => Rd_mono h a x cs hr
  | .fnc _, _, _, hr => hr

theorem Rd_length {S : Stable} : ∀ (t : Ty) (x : t.T) (cs : List Value), Rd S t x cs → cs.length = t.size
  | .int _, _, _, hr => by cases hr; rfl
  | .bool, _, _, hr => by cases hr; rfl
  | .str, _, _, hr => by cases hr; rfl
  | .row e, xs, cs, hr => by obtain ⟨a, cap, rfl, _, _⟩ := hr; rfl
  | .pair a b, x, cs, hr => by
    obtain ⟨c, d, rfl, h2, h3⟩ := hr
    rw [List.length_append, Rd_length a _ _ h2, Rd_length b _ _ h3]; rfl
  | .one a, x, cs, hr => Rd_length a x cs hr
  | .fnc _, _, _, hr => by cases hr; rfl

section
variable {μ : Mu} {S : Stable} {H : Heap} {μ' : Mu} {S' : Stable} {H' : Heap}

mutual
theorem VR_mono (h : Ext μ S H μ' S' H') : ∀ (a : AV) (v : Value), VR μ S H a v → VR μ' S' H' a v
  | .lit _, v, hr => by simp only [VR] at hr ⊢; exact hr
  | .ptr i off, v, hr => by
    simp only [VR] at hr ⊢
    obtain ⟨b, c, h1, h2, h3⟩ := hr
    refine ⟨b, c, ?_, fun t e g xs hH => ?_, h3⟩
    · rcases h.mu _ _ h1 with h | ⟨l', t, e, g, xs, t', g', xs', _, e2, _⟩
      · exact h
      · exact absurd e2 (h2 _ _ _ _)
    · obtain ⟨t', g0, xs', e1, _, _⟩ := h.row i t e g xs (by rw [h1]; rfl) hH
      exact h2 _ _ _ _ e1
  | .elc e x off, v, hr => by
    simp only [VR] at hr ⊢
    obtain ⟨ad, c, h1, h2, h3⟩ := hr
    exact ⟨ad, c, Rd_mono h.st _ _ _ h1, fun m u hm => cellS_mono h.st (h2 m u hm), h3⟩
  | .elp i g k off, v, hr => by
    simp only [VR] at hr ⊢
    obtain ⟨h0, l, h1, h2⟩ := hr
    refine ⟨h0, ?_⟩
    rcases h.mu _ _ h1 with h0 | ⟨l', t1, e1, g1, xs1, t2, g2, xs2, k1, k2, k3, k4⟩
    · refine ⟨l, h0, fun t e gc xs hH => ?_⟩
      obtain ⟨t', g0, xs', e1, e2, e3⟩ := h.row i t e gc xs (by rw [h1]; rfl) hH
      obtain ⟨f1, f2⟩ := h2 t' e g0 xs' e1
      exact ⟨by omega, fun hg => f2 (by omega)⟩
    · refine ⟨l', k1, fun t e gc xs hH => ?_⟩
      rw [k3] at hH
      obtain ⟨f1, _⟩ := h2 _ _ _ _ k2
      have hg2 : g2 = gc := by injection hH with hH; injection hH
      exact ⟨by omega, fun hg => by omega⟩
  | .cont e xs, v, hr => by simp only [VR] at hr ⊢; exact Rd_mono h.st (.row e) xs [v] hr
  | .sl i g, v, hr => by
    simp only [VR] at hr ⊢
    obtain ⟨h0, l, h1, h2⟩ := hr
    refine ⟨h0, ?_⟩
    rcases h.mu _ _ h1 with h0 | ⟨l', t1, e1, g1, xs1, t2, g2, xs2, k1, k2, k3, k4⟩
    · refine ⟨l, h0, fun t e gc xs hH => ?_⟩
      obtain ⟨t', g0, xs', e1, e2, e3⟩ := h.row i t e gc xs (by rw [h1]; rfl) hH
      obtain ⟨f1, f2⟩ := h2 t' e g0 xs' e1
      exact ⟨by omega, fun hg => by rw [f2 (by omega), e3 (by omega)]⟩
    · refine ⟨l', k1, fun t e gc xs hH => ?_⟩
      rw [k3] at hH
      obtain ⟨f1, _⟩ := h2 _ _ _ _ k2
      have hg2 : g2 = gc := by injection hH with hH; injection hH
      exact ⟨by omega, fun hg => by omega⟩
  | .sub i g lo hi, v, hr => by
    simp only [VR] at hr ⊢
    obtain ⟨h0, l, h1, h2⟩ := hr
    refine ⟨h0, ?_⟩
    rcases h.mu _ _ h1 with h0 | ⟨l', t1, e1, g1, xs1, t2, g2, xs2, k1, k2, k3, k4⟩
    · refine ⟨l, h0, fun t e gc xs hH => ?_⟩
      obtain ⟨t', g0, xs', e1, e2, e3⟩ := h.row i t e gc xs (by rw [h1]; rfl) hH
      obtain ⟨f1, f2⟩ := h2 t' e g0 xs' e1
      exact ⟨by omega, fun hg => by rw [← e3 (by omega)]; exact f2 (by omega)⟩
    · refine ⟨l', k1, fun t e gc xs hH => ?_⟩
      rw [k3] at hH
      obtain ⟨f1, _⟩ := h2 _ _ _ _ k2
      have hg2 : g2 = gc := by injection hH with hH; injection hH
      exact ⟨by omega, fun hg => by omega⟩
  | .bsl i n, v, hr => by
    simp only [VR] at hr ⊢
    obtain ⟨b, c, h1, h2, h3⟩ := hr
    refine ⟨b, c, ?_, fun t e g xs hH => ?_, h3⟩
    · rcases h.mu _ _ h1 with h | ⟨l', t, e, g, xs, t', g', xs', _, e2, _⟩
      · exact h
      · exact absurd e2 (h2 _ _ _ _)
    · obtain ⟨t', g0, xs', e1, _, _⟩ := h.row i t e g xs (by rw [h1]; rfl) hH
      exact h2 _ _ _ _ e1
  | .yld i, v, hr => by
    simp only [VR] at hr ⊢
    obtain ⟨b, c, h1, h2, h3⟩ := hr
    refine ⟨b, c, ?_, fun t e g xs hH => ?_, h3⟩
    · rcases h.mu _ _ h1 with h | ⟨l', t, e, g, xs, t', g', xs', _, e2, _⟩
      · exact h
      · exact absurd e2 (h2 _ _ _ _)
    · obtain ⟨t', g0, xs', e1, _, _⟩ := h.row i t e g xs (by rw [h1]; rfl) hH
      exact h2 _ _ _ _ e1
  | .mp i, v, hr => by
    simp only [VR] at hr ⊢
    obtain ⟨b, c, h1, h2, h3⟩ := hr
    refine ⟨b, c, ?_, fun t e g xs hH => ?_, h3⟩
    · rcases h.mu _ _ h1 with h | ⟨l', t, e, g, xs, t', g', xs', _, e2, _⟩
      · exact h
      · exact absurd e2 (h2 _ _ _ _)
    · obtain ⟨t', g0, xs', e1, _, _⟩ := h.row i t e g xs (by rw [h1]; rfl) hH
      exact h2 _ _ _ _ e1
  | .fn f fi ca, v, hr => by
    simp only [VR] at hr ⊢
    obtain ⟨x, y, h1, h2, h3⟩ := hr
    exact ⟨x, y, h1, VRs_mono h fi _ h2, VRs_mono h ca _ h3⟩
  | .agg cs, v, hr => by
    simp only [VR] at hr ⊢
    obtain ⟨x, h1, h2⟩ := hr
    exact ⟨x, h1, VRs_mono h cs _ h2⟩
  | .tup cs, v, hr => by
    simp only [VR] at hr ⊢
    obtain ⟨x, h1, h2⟩ := hr
    exact ⟨x, h1, VRs_mono h cs _ h2⟩
  | .junk, _, _ => by simp only [VR]
theorem VRs_mono (h : Ext μ S H μ' S' H') : ∀ (as : List AV) (vs : List Value), VRs μ S H as vs → VRs μ' S' H' as vs
  | [], vs, hr => by simp only [VRs] at hr ⊢; exact hr
  | a :: as, vs, hr => by
    simp only [VRs] at hr ⊢
    obtain ⟨v, r, h1, h2, h3⟩ := hr
    exact ⟨v, r, h1, VR_mono h a v h2, VRs_mono h as r h3⟩
end

theorem Ext.refl : Ext μ S H μ S H := ⟨fun _ _ h => .inl h, fun _ _ h => h, fun _ t _ g xs _ h => ⟨t, g, xs, h, Nat.le_refl _, fun _ => rfl⟩⟩

theorem VRs_length : ∀ {as : List AV} {vs : List Value}, VRs μ S H as vs → as.length = vs.length
  | [], vs, h => by simp only [VRs] at h; subst h; rfl
  | a :: as, vs, h => by
    simp only [VRs] at h
    obtain ⟨v, r, rfl, _, h3⟩ := h
    simp [VRs_length h3]

theorem VRs_get : ∀ {as : List AV} {vs : List Value}, VRs μ S H as vs → ∀ (j : Nat) (a : AV), as[j]? = some a → ∃ v, vs[j]? = some v ∧ VR μ S H a v
  | [], vs, h, j, a, hj => by simp at hj
  | b :: as, vs, h, j, a, hj => by
    simp only [VRs] at h
    obtain ⟨v, r, rfl, h2, h3⟩ := h
    cases j with
    | zero => simp at hj; subst hj; exact ⟨v, by simp, h2⟩
    | succ j => simp at hj; obtain ⟨u, hu, hr⟩ := VRs_get h3 j a hj; exact ⟨u, by simpa using hu, hr⟩

theorem VRs_append : ∀ {as bs : List AV} {vs us : List Value}, VRs μ S H as vs → VRs μ S H bs us → VRs μ S H (as ++ bs) (vs ++ us)
  | [], bs, vs, us, h, h' => by simp only [VRs] at h; subst h; simpa using h'
  | a :: as, bs, vs, us, h, h' => by
    simp only [VRs] at h
    obtain ⟨v, r, rfl, h2, h3⟩ := h
    simp only [List.cons_append, VRs]
    exact ⟨v, r ++ us, rfl, h2, VRs_append h3 h'⟩

theorem VRs_set : ∀ {as : List AV} {vs : List Value}, VRs μ S H as vs → ∀ (j : Nat) (a : AV) (v : Value), VR μ S H a v → VRs μ S H (as.set j a) (vs.set j v)
  | [], vs, h, j, a, v, ha => by simp only [VRs] at h; subst h; simp [VRs]
  | b :: as, vs, h, j, a, v, ha => by
    simp only [VRs] at h
    obtain ⟨u, r, rfl, h2, h3⟩ := h
    cases j with
    | zero => simp only [List.set, VRs]; exact ⟨v, r, rfl, ha, h3⟩
    | succ j => simp only [List.set, VRs]; exact ⟨u, _, rfl, h2, VRs_set h3 j a v ha⟩

theorem VRs_drop : ∀ (n : Nat) {as : List AV} {vs : List Value}, VRs μ S H as vs → VRs μ S H (as.drop n) (vs.drop n)
  | 0, _, _, h => by simpa using h
  | n + 1, [], vs, h => by simp only [VRs] at h; subst h; simp [VRs]
  | n + 1, a :: as, vs, h => by
    simp only [VRs] at h
    obtain ⟨v, r, rfl, _, h3⟩ := h
    simpa using VRs_drop n h3

theorem VRs_take : ∀ (n : Nat) {as : List AV} {vs : List Value}, VRs μ S H as vs → VRs μ S H (as.take n) (vs.take n)
  | 0, _, _, h => by simp [VRs]
  | n + 1, [], vs, h => by simp only [VRs] at h; subst h; simp [VRs]
  | n + 1, a :: as, vs, h => by
    simp only [VRs] at h
    obtain ⟨v, r, rfl, h2, h3⟩ := h
    simp only [List.take_succ_cons, VRs]
    exact ⟨v, _, rfl, h2, VRs_take n h3⟩

theorem VRs_lits : ∀ (l : List Value), VRs μ S H (l.map .lit) l
  | [] => by simp [VRs]
  | v :: l => by simp only [List.map_cons, VRs]; exact ⟨v, l, rfl, by simp only [VR], VRs_lits l⟩

/-- What reads as a datum is as its abstract cells say. -/
theorem enc_VRs : ∀ (t : Ty) (x : t.T) (cs : List Value), Rd S t x cs → VRs μ S H (enc t x) cs
  | .int k, x, cs, h => by cases h; simp [enc, VRs, VR]
  | .bool, x, cs, h => by cases h; simp [enc, VRs, VR]
  | .str, x, cs, h => by cases h; simp [enc, VRs, VR]
  | .row e, xs, cs, h => by
    have h' := h
    obtain ⟨a, cap, rfl, _, _⟩ := h
    simp only [enc, VRs, VR]
    exact ⟨_, [], rfl, h', rfl⟩
  | .pair a b, x, cs, h => by
    obtain ⟨c, d, rfl, h2, h3⟩ := h
    exact VRs_append (enc_VRs a _ _ h2) (enc_VRs b _ _ h3)
  | .one a, x, cs, h => enc_VRs a x cs h
  | .fnc k, x, cs, h => by cases h; simp only [enc, VRs, VR]; exact ⟨_, [], rfl, ⟨#[], #[], rfl, rfl, rfl⟩, rfl⟩
end
end Go.Sy
