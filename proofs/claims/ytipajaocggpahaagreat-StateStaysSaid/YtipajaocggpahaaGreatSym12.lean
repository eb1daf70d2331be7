/- What stands at the head of a loop's round: temporaries and objects that go on, and nothing else; rows under fixed numbers. -/
import Derived.Test.YtipajaocggpahaaGreatSym11
namespace Go.Sy
open Go Go.RowKit
set_option linter.unusedSimpArgs false
set_option linter.unusedVariables false

def mem (L : List Nat) (i : Nat) : Bool := L.any (Nat.beq i)

theorem mem_iff {L : List Nat} {i : Nat} : mem L i = true ↔ i ∈ L := by
  unfold mem
  rw [List.any_eq_true]
  exact ⟨fun ⟨x, h1, h2⟩ => by rw [Nat.eq_of_beq_eq_true h2]; exact h1, fun h => ⟨i, h, by simp⟩⟩

def distinct : List Nat → Bool
  | [] => true
  | i :: l => !(l.any fun j => Nat.beq i j) && distinct l

mutual
def AV.refsIn (L : List Nat) : AV → Bool
  | .ptr i _ => mem L i
  | .elp i _ _ _ => mem L i
  | .sl i _ => mem L i
  | .sub i _ _ _ => mem L i
  | .bsl i _ => mem L i
  | .yld i => mem L i
  | .mp i => mem L i
  | .fn _ a b => refsAll L a && refsAll L b
  | .agg l => refsAll L l
  | .tup l => refsAll L l
  | _ => true
def refsAll (L : List Nat) : List AV → Bool
  | [] => true
  | a :: l => a.refsIn L && refsAll L l
end

def clean (L : List Nat) (a : AV) : AV := cond (a.refsIn L) a .junk

def cleanObj (L : List Nat) : HObj → HObj
  | .box t cs => .box t (cs.map (clean L))
  | .row t e g xs => .row t e g xs
  | .siter s pos => .siter s pos
  | .loop k r st ts => .loop k r st (ts.map (clean L))
  | .map es => .map es

/-- where a row stands that a loop carries: in a temporary, or in a box's cell -/
inductive Pl where
  | t (slot : Nat)
  | c (box off : Nat)

structure RowH where
  at' : Pl
  id : Nat
  te : TypeId
  e : Ty

structure Hint where
  keep : List Nat
  ids : List Nat
  rows : List RowH

/-- what goes on at each round's head, and behind the loop, by how it was left (0: an exit of the block, 1: a return) -/
structure LoopH where
  top : Hint
  out : Option Hint
  ret : Option Hint

def lkT : List (Nat × AV) → Nat → AV
  | [], _ => .junk
  | (t, v) :: l, q => cond (Nat.beq q t) v (lkT l q)

def lkH : List (Nat × Option HObj) → Heap
  | [], _ => none
  | (i, o) :: l, q => cond (Nat.beq q i) o (lkH l q)

/-- a row that a loop carries: where it comes from, and what it holds -/
structure Src where
  id : Nat
  src : Option Nat
  te : TypeId
  e : Ty
  xs : List e.T

def nthJ : List AV → Nat → AV
  | [], _ => .junk
  | a :: _, 0 => a
  | _ :: l, n + 1 => nthJ l n

def boxAt : Option HObj → Nat → AV
  | some (.box _ cs), off => nthJ cs off
  | _, _ => .junk

def St.valAt (σ : St) : Pl → AV
  | .t s => σ.val (.tmp s)
  | .c i off => boxAt (σ.heap i) off

/-- the temporaries that hold a loop's rows -/
def rowT : List RowH → List (Nat × AV)
  | [] => []
  | r :: rs => match r.at' with
    | .t s => (s, AV.sl r.id 0) :: rowT rs
    | .c _ _ => rowT rs

/-- the cells that hold a loop's rows -/
def rowC : List RowH → Nat → List AV → List AV
  | [], _, cs => cs
  | r :: rs, i, cs => match r.at' with
    | .t _ => rowC rs i cs
    | .c b off => rowC rs i (cond (Nat.beq b i) (cs.set off (AV.sl r.id 0)) cs)

def headObj (rs : List RowH) (L : List Nat) (i : Nat) : HObj → HObj
  | .box t cs => .box t (rowC rs i (cs.map (clean L)))
  | o => cleanObj L o

def srcOf (σ : St) (r : RowH) : Option Src :=
  match σ.valAt r.at' with
  | .lit (.slice none 0 0) => some ⟨r.id, none, r.te, r.e, []⟩
  | .sl a g => match σ.heap a with
    | some (.row te e g' xs) => cond (Nat.beq g g' && Nat.beq te r.te) (match castL (e := e) (e' := r.e) xs with
      | some ys => some ⟨r.id, some a, r.te, r.e, ys⟩
      | none => none) none
    | _ => none
  | _ => none

def srcs (σ : St) : List RowH → Option (List Src)
  | [] => some []
  | r :: rs => match srcOf σ r, srcs σ rs with
    | some s, some l => some (s :: l)
    | _, _ => none

def Src.list (l : List Src) : List Nat := l.filterMap (·.src)

def head (od : List Nat) (h : Hint) (σ : St) : Option St :=
  match srcs σ h.rows with
  | none => none
  | some l => cond (distinct (Src.list l) && distinct (l.map (·.id)) && l.all (fun s => !mem (od ++ h.ids) s.id) && (Src.list l).all (fun a => !mem (od ++ h.ids) a))
      (some ⟨σ.nt, lkT (rowT h.rows ++ h.keep.map (fun t => (t, clean (od ++ h.ids) (σ.val (.tmp t))))),
        lkH (l.map (fun s => (s.id, some (.row s.te s.e 0 s.xs))) ++ (od ++ h.ids).map (fun i => (i, (σ.heap i).map (headObj h.rows (od ++ h.ids) i)))),
        (od ++ h.ids) ++ l.map (·.id)⟩) none

section
variable [Glob] {N : Stable} {w w0 : World} {μ μ' μo : Mu} {S So : Stable} {H H' Ho : Heap} {B : Nat} {L : List Nat} {σ σ' : St} {a : Act}

/-- two states agree on the objects of a list -/
structure Ag (L : List Nat) (μ : Mu) (H : Heap) (μ' : Mu) (H' : Heap) : Prop where
  mu : ∀ i ∈ L, μ' i = μ i
  ob : ∀ i ∈ L, ∀ t e g xs, H' i = some (.row t e g xs) → H i = some (.row t e g xs)

omit [Glob] in
theorem Ag.row {L : List Nat} (h : Ag L μ H μ' H') {i : Nat} (hi : i ∈ L) {t : TypeId} {e : Ty} {g : Nat} {xs : List e.T} (hr : H' i = some (.row t e g xs)) : H i = some (.row t e g xs) := h.ob i hi t e g xs hr

omit [Glob] in
theorem headObj_row {rs : List RowH} {L : List Nat} {i : Nat} {o : Option HObj} {t : TypeId} {e : Ty} {g : Nat} {xs : List e.T} (hr : o.map (headObj rs L i) = some (.row t e g xs)) : o = some (.row t e g xs) := by
  cases o with
  | none => simp at hr
  | some o =>
    simp only [Option.map_some, Option.some.injEq] at hr
    cases o with
    | row t' e' g' xs' => simp only [headObj, cleanObj] at hr; rw [hr]
    | _ => simp [headObj, cleanObj] at hr

omit [Glob] in
mutual
theorem VR_ag (h : Ag L μ H μ' H') : ∀ (a : AV) (v : Value), a.refsIn L = true → VR μ S H a v → VR μ' S H' a v
  | .lit _, v, _, hr => by simp only [VR] at hr ⊢; exact hr
  | .ptr i off, v, hl, hr => by
    simp only [AV.refsIn] at hl
    have hi := mem_iff.1 hl
    simp only [VR] at hr ⊢
    obtain ⟨b, c, h1, h2, h3⟩ := hr
    exact ⟨b, c, by rw [h.mu i hi]; exact h1, fun t e g xs hH => h2 t e g xs (h.row hi hH), h3⟩
  | .elc e x off, v, _, hr => by simp only [VR] at hr ⊢; exact hr
  | .elp i g k off, v, hl, hr => by
    simp only [AV.refsIn] at hl
    have hi := mem_iff.1 hl
    simp only [VR] at hr ⊢
    obtain ⟨h0, l, h1, h2⟩ := hr
    exact ⟨h0, l, by rw [h.mu i hi]; exact h1, fun t e gc xs hH => h2 t e gc xs (h.row hi hH)⟩
  | .cont e xs, v, _, hr => by simp only [VR] at hr ⊢; exact hr
  | .sl i g, v, hl, hr => by
    simp only [AV.refsIn] at hl
    have hi := mem_iff.1 hl
    simp only [VR] at hr ⊢
    obtain ⟨h0, l, h1, h2⟩ := hr
    exact ⟨h0, l, by rw [h.mu i hi]; exact h1, fun t e gc xs hH => h2 t e gc xs (h.row hi hH)⟩
  | .sub i g lo hi, v, hl, hr => by
    simp only [AV.refsIn] at hl
    have hi := mem_iff.1 hl
    simp only [VR] at hr ⊢
    obtain ⟨h0, l, h1, h2⟩ := hr
    exact ⟨h0, l, by rw [h.mu i hi]; exact h1, fun t e gc xs hH => h2 t e gc xs (h.row hi hH)⟩
  | .bsl i n, v, hl, hr => by
    simp only [AV.refsIn] at hl
    have hi := mem_iff.1 hl
    simp only [VR] at hr ⊢
    obtain ⟨b, c, h1, h2, h3⟩ := hr
    exact ⟨b, c, by rw [h.mu i hi]; exact h1, fun t e g xs hH => h2 t e g xs (h.row hi hH), h3⟩
  | .yld i, v, hl, hr => by
    simp only [AV.refsIn] at hl
    have hi := mem_iff.1 hl
    simp only [VR] at hr ⊢
    obtain ⟨b, c, h1, h2, h3⟩ := hr
    exact ⟨b, c, by rw [h.mu i hi]; exact h1, fun t e g xs hH => h2 t e g xs (h.row hi hH), h3⟩
  | .mp i, v, hl, hr => by
    simp only [AV.refsIn] at hl
    have hi := mem_iff.1 hl
    simp only [VR] at hr ⊢
    obtain ⟨b, c, h1, h2, h3⟩ := hr
    exact ⟨b, c, by rw [h.mu i hi]; exact h1, fun t e g xs hH => h2 t e g xs (h.row hi hH), h3⟩
  | .fn f fi ca, v, hl, hr => by
    simp only [AV.refsIn, Bool.and_eq_true] at hl
    simp only [VR] at hr ⊢
    obtain ⟨x, y, h1, h2, h3⟩ := hr
    exact ⟨x, y, h1, VRs_ag h fi _ hl.1 h2, VRs_ag h ca _ hl.2 h3⟩
  | .agg cs, v, hl, hr => by
    simp only [AV.refsIn] at hl
    simp only [VR] at hr ⊢
    obtain ⟨x, h1, h2⟩ := hr
    exact ⟨x, h1, VRs_ag h cs _ hl h2⟩
  | .tup cs, v, hl, hr => by
    simp only [AV.refsIn] at hl
    simp only [VR] at hr ⊢
    obtain ⟨x, h1, h2⟩ := hr
    exact ⟨x, h1, VRs_ag h cs _ hl h2⟩
  | .junk, _, _, _ => by simp only [VR]
theorem VRs_ag (h : Ag L μ H μ' H') : ∀ (as : List AV) (vs : List Value), refsAll L as = true → VRs μ S H as vs → VRs μ' S H' as vs
  | [], vs, _, hr => by simp only [VRs] at hr ⊢; exact hr
  | a :: as, vs, hl, hr => by
    simp only [refsAll, Bool.and_eq_true] at hl
    simp only [VRs] at hr ⊢
    obtain ⟨v, r, h1, h2, h3⟩ := hr
    exact ⟨v, r, h1, VR_ag h a v hl.1 h2, VRs_ag h as r hl.2 h3⟩
end

omit [Glob] in
theorem clean_VR (h : Ag L μ H μ' H') {a : AV} {v : Value} (hr : VR μ S H a v) : VR μ' S H' (clean L a) v := by
  unfold clean
  cases hl : a.refsIn L with
  | true => exact VR_ag h a v hl hr
  | false => simp only [cond_false, VR]

omit [Glob] in
theorem clean_VRs (h : Ag L μ H μ' H') : ∀ {as : List AV} {vs : List Value}, VRs μ S H as vs → VRs μ' S H' (as.map (clean L)) vs
  | [], vs, hr => by simp only [VRs] at hr; subst hr; simp [VRs]
  | a :: as, vs, hr => by
    simp only [VRs] at hr
    obtain ⟨v, r, rfl, h2, h3⟩ := hr
    simp only [List.map_cons, VRs]
    exact ⟨v, r, rfl, clean_VR h h2, clean_VRs h h3⟩

omit [Glob] in
mutual
/-- what a value refers to is there -/
theorem VR_refs (h : ∀ i, μ i ≠ none → i ∈ L) : ∀ (a : AV) (v : Value), VR μ S H a v → a.refsIn L = true
  | .lit _, v, _ => rfl
  | .ptr i off, v, hr => by
    simp only [VR] at hr
    obtain ⟨b, c, h1, _⟩ := hr
    simp only [AV.refsIn]; exact mem_iff.2 (h i (by rw [h1]; simp))
  | .elc e x off, v, _ => rfl
  | .elp i g k off, v, hr => by
    simp only [VR] at hr
    obtain ⟨_, l, h1, _⟩ := hr
    simp only [AV.refsIn]; exact mem_iff.2 (h i (by rw [h1]; simp))
  | .cont e xs, v, _ => rfl
  | .sl i g, v, hr => by
    simp only [VR] at hr
    obtain ⟨_, l, h1, _⟩ := hr
    simp only [AV.refsIn]; exact mem_iff.2 (h i (by rw [h1]; simp))
  | .sub i g lo hi, v, hr => by
    simp only [VR] at hr
    obtain ⟨_, l, h1, _⟩ := hr
    simp only [AV.refsIn]; exact mem_iff.2 (h i (by rw [h1]; simp))
  | .bsl i n, v, hr => by
    simp only [VR] at hr
    obtain ⟨b, c, h1, _⟩ := hr
    simp only [AV.refsIn]; exact mem_iff.2 (h i (by rw [h1]; simp))
  | .yld i, v, hr => by
    simp only [VR] at hr
    obtain ⟨b, c, h1, _⟩ := hr
    simp only [AV.refsIn]; exact mem_iff.2 (h i (by rw [h1]; simp))
  | .mp i, v, hr => by
    simp only [VR] at hr
    obtain ⟨b, c, h1, _⟩ := hr
    simp only [AV.refsIn]; exact mem_iff.2 (h i (by rw [h1]; simp))
  | .fn f fi ca, v, hr => by
    simp only [VR] at hr
    obtain ⟨x, y, h1, h2, h3⟩ := hr
    simp only [AV.refsIn, Bool.and_eq_true]
    exact ⟨VRs_refs h fi _ h2, VRs_refs h ca _ h3⟩
  | .agg cs, v, hr => by
    simp only [VR] at hr
    obtain ⟨x, _, h2⟩ := hr
    simp only [AV.refsIn]; exact VRs_refs h cs _ h2
  | .tup cs, v, hr => by
    simp only [VR] at hr
    obtain ⟨x, _, h2⟩ := hr
    simp only [AV.refsIn]; exact VRs_refs h cs _ h2
  | .junk, _, _ => rfl
theorem VRs_refs (h : ∀ i, μ i ≠ none → i ∈ L) : ∀ (as : List AV) (vs : List Value), VRs μ S H as vs → refsAll L as = true
  | [], vs, _ => rfl
  | a :: as, vs, hr => by
    simp only [VRs] at hr
    obtain ⟨v, r, _, h2, h3⟩ := hr
    simp only [refsAll, Bool.and_eq_true]
    exact ⟨VR_refs h a v h2, VRs_refs h as r h3⟩
end

omit [Glob] in
theorem lkT_VR {μ : Mu} {S : Stable} {H : Heap} {f : Nat → Value} : ∀ (l : List (Nat × AV)), (∀ p ∈ l, VR μ S H p.2 (f p.1)) → ∀ t, VR μ S H (lkT l t) (f t)
  | [], _, t => by simp only [lkT, VR]
  | (q, v) :: l, h, t => by
    simp only [lkT]
    cases hb : Nat.beq t q with
    | true =>
      have := Nat.eq_of_beq_eq_true hb
      subst this
      exact h (t, v) (by simp)
    | false => exact lkT_VR l (fun p hp => h p (by simp [hp])) t

omit [Glob] in
theorem lkH_map {f : Nat → Option HObj} : ∀ (l : List Nat) (q : Nat), lkH (l.map fun i => (i, f i)) q = cond (mem l q) (f q) none
  | [], q => rfl
  | i :: l, q => by
    simp only [List.map_cons, lkH]
    cases hb : Nat.beq q i with
    | true =>
      have := Nat.eq_of_beq_eq_true hb
      subst this
      have : mem (q :: l) q = true := mem_iff.2 (by simp)
      rw [this]; rfl
    | false =>
      have hne : q ≠ i := fun e => by subst e; simp at hb
      rw [lkH_map l q]
      have : mem (i :: l) q = mem l q := by
        rw [Bool.eq_iff_iff, mem_iff, mem_iff]; simp [hne]
      rw [this]; rfl

omit [Glob] in
theorem lkH_src {g : Src → Option HObj} {rest : List (Nat × Option HObj)} : ∀ (l : List Src) (s : Src), s ∈ l → distinct (l.map (·.id)) = true → lkH (l.map (fun s => (s.id, g s)) ++ rest) s.id = g s
  | [], s, h, _ => by simp at h
  | p :: l, s, h, hd => by
    simp only [List.map_cons, distinct, Bool.and_eq_true, Bool.not_eq_true'] at hd
    simp only [List.map_cons, List.cons_append, lkH]
    rcases List.mem_cons.1 h with rfl | h
    · simp
    · have hne : Nat.beq s.id p.id = false := by
        cases hb : Nat.beq s.id p.id with
        | false => rfl
        | true =>
          have e := Nat.eq_of_beq_eq_true hb
          have := List.any_eq_false.1 hd.1 s.id (List.mem_map.2 ⟨s, h, rfl⟩)
          rw [e] at this; simp at this
      rw [hne]
      exact lkH_src l s h hd.2

omit [Glob] in
theorem lkH_rest {g : Src → Option HObj} {rest : List (Nat × Option HObj)} : ∀ (l : List Src) (q : Nat), q ∉ l.map (·.id) → lkH (l.map (fun s => (s.id, g s)) ++ rest) q = lkH rest q
  | [], q, _ => rfl
  | p :: l, q, h => by
    simp only [List.map_cons, List.mem_cons, not_or] at h
    simp only [List.map_cons, List.cons_append, lkH]
    have hne : Nat.beq q p.id = false := by
      cases hb : Nat.beq q p.id with
      | false => rfl
      | true => exact absurd (Nat.eq_of_beq_eq_true hb) h.1
    rw [hne]
    exact lkH_rest l q h.2

def Src.loc (μ : Mu) (s : Src) : Option Lc :=
  match s.src with
  | none => some ⟨none, 0⟩
  | some a => μ a

def muH (l : List Src) (L : List Nat) (μ : Mu) : Mu := fun q =>
  match l.find? (fun s => Nat.beq s.id q) with
  | some s => s.loc μ
  | none => cond (mem L q) (μ q) none

omit [Glob] in
theorem muH_src : ∀ (l : List Src) (s : Src), s ∈ l → distinct (l.map (·.id)) = true → muH l L μ s.id = s.loc μ := by
  intro l s hs hd
  unfold muH
  have : l.find? (fun p => Nat.beq p.id s.id) = some s := by
    induction l with
    | nil => simp at hs
    | cons p l ih =>
      simp only [List.map_cons, distinct, Bool.and_eq_true, Bool.not_eq_true'] at hd
      rcases List.mem_cons.1 hs with rfl | hs
      · simp
      · have hne : Nat.beq p.id s.id = false := by
          cases hb : Nat.beq p.id s.id with
          | false => rfl
          | true =>
            have e := Nat.eq_of_beq_eq_true hb
            have := List.any_eq_false.1 hd.1 s.id (List.mem_map.2 ⟨s, hs, rfl⟩)
            rw [e] at this; simp at this
        rw [List.find?_cons, hne]
        exact ih hs hd.2
  rw [this]

omit [Glob] in
theorem muH_rest {l : List Src} {q : Nat} (h : q ∉ l.map (·.id)) : muH l L μ q = cond (mem L q) (μ q) none := by
  unfold muH
  have : l.find? (fun p => Nat.beq p.id q) = none := by
    rw [List.find?_eq_none]
    intro p hp hb
    exact h (List.mem_map.2 ⟨p, hp, Nat.eq_of_beq_eq_true hb⟩)
  rw [this]

/-- a source is what it says -/
structure SrcOK (H : Heap) (s : Src) : Prop where
  nil : s.src = none → s.xs = []
  row : ∀ a, s.src = some a → ∃ g, H a = some (.row s.te s.e g s.xs)

omit [Glob] in
theorem nthJ_VR : ∀ {as : List AV} {vs : List Value}, VRs μ S H as vs → ∀ (n : Nat), VR μ S H (nthJ as n) (vs.getD n undef)
  | [], vs, h, n => by simp only [nthJ, VR]
  | a :: as, vs, h, n => by
    simp only [VRs] at h
    obtain ⟨v, r, rfl, h1, h2⟩ := h
    cases n with
    | zero => simpa [nthJ] using h1
    | succ n => simpa [nthJ] using nthJ_VR h2 n

theorem valAt_VR (A : AR N μ S σ a) (R : Rel μ S σ.heap B w0 w) (p : Pl) : ∃ v, VR μ S σ.heap (σ.valAt p) v := by
  cases p with
  | t s => exact ⟨_, A.val (.tmp s)⟩
  | c i off =>
    simp only [St.valAt]
    cases ho : σ.heap i with
    | none => exact ⟨undef, by simp only [boxAt, VR]⟩
    | some o =>
      cases o with
      | box t cs =>
        obtain ⟨l, _, b, vs, _, _, _, _, h5⟩ := R.obj i _ ho
        exact ⟨_, nthJ_VR h5 off⟩
      | _ => exact ⟨undef, by simp only [boxAt, VR]⟩

omit [Glob] in
theorem srcOf_ok {r : RowH} {s : Src} {v : Value} (hv : VR μ S σ.heap (σ.valAt r.at') v) (h : srcOf σ r = some s) :
    s.id = r.id ∧ SrcOK σ.heap s ∧ ∃ l, s.loc μ = some l ∧ ∀ v, VR μ S σ.heap (σ.valAt r.at') v → v = .slice l.addr s.xs.length l.cap := by
  unfold srcOf at h
  split at h
  · rename_i hx
    cases h
    refine ⟨rfl, ⟨fun _ => rfl, fun a h => by simp at h⟩, ⟨none, 0⟩, rfl, fun v hv => ?_⟩
    rw [hx] at hv
    simp only [VR] at hv
    exact hv
  · rename_i i g hx
    split at h
    · rename_i te e g' xs hH
      cases hb : (Nat.beq g g' && Nat.beq te r.te) with
      | false => rw [hb] at h; simp at h
      | true =>
        rw [hb] at h
        simp only [cond_true] at h
        simp only [Bool.and_eq_true] at hb
        have hgg := Nat.eq_of_beq_eq_true hb.1
        have htt := Nat.eq_of_beq_eq_true hb.2
        split at h
        · rename_i ys hc
          obtain ⟨he, hys⟩ := castL_eq hc
          obtain ⟨sl, id0, te0, e0⟩ := r
          simp only at htt he hys
          subst htt
          subst he
          simp only at hys
          subst hys
          cases h
          have hv' := hv
          rw [hx] at hv'
          simp only [VR] at hv'
          obtain ⟨_, l, hm, h3⟩ := hv'
          refine ⟨rfl, ⟨fun h => by simp at h, fun a h => by cases h; exact ⟨g', hH⟩⟩, l, hm, fun v hv => ?_⟩
          rw [hx] at hv
          simp only [VR] at hv
          obtain ⟨_, l', hm', h3'⟩ := hv
          rw [hm] at hm'
          cases hm'
          exact (h3' _ _ _ _ hH).2 hgg
        · simp at h
    · simp at h
  · simp at h

theorem srcs_ok (A : AR N μ S σ a) (R : Rel μ S σ.heap B w0 w) : ∀ {rs : List RowH} {l : List Src}, srcs σ rs = some l →
    (∀ s ∈ l, SrcOK σ.heap s ∧ (s.loc μ).isSome = true) ∧ (∀ r ∈ rs, ∃ s ∈ l, s.id = r.id ∧ ∃ lc, s.loc μ = some lc ∧ ∀ v, VR μ S σ.heap (σ.valAt r.at') v → v = .slice lc.addr s.xs.length lc.cap)
  | [], l, h => by simp only [srcs, Option.some.injEq] at h; subst h; simp
  | r :: rs, l, h => by
    simp only [srcs] at h
    split at h
    · rename_i s l' h1 h2
      cases h
      obtain ⟨v, hv⟩ := valAt_VR A R r.at'
      obtain ⟨k1, k2, lc, k3, k4⟩ := srcOf_ok hv h1
      obtain ⟨q1, q2⟩ := srcs_ok A R h2
      refine ⟨fun p hp => ?_, fun p hp => ?_⟩
      · rcases List.mem_cons.1 hp with rfl | hp
        · exact ⟨k2, by rw [k3]; rfl⟩
        · exact q1 p hp
      · rcases List.mem_cons.1 hp with rfl | hp
        · exact ⟨s, by simp, k1, lc, k3, k4⟩
        · obtain ⟨s', a1, a2⟩ := q2 p hp
          exact ⟨s', by simp [a1], a2⟩
    · simp at h

omit [Glob] in
theorem rowC_VRs {i : Nat} {vs : List Value} : ∀ (rs : List RowH) {cs : List AV}, (∀ r ∈ rs, ∀ off, r.at' = .c i off → ∀ v, vs[off]? = some v → VR μ S H (.sl r.id 0) v) → VRs μ S H cs vs → VRs μ S H (rowC rs i cs) vs
  | [], cs, _, h => h
  | r :: rs, cs, hr, h => by
    have ih : ∀ {cs : List AV}, VRs μ S H cs vs → VRs μ S H (rowC rs i cs) vs := fun h => rowC_VRs rs (fun p hp => hr p (by simp [hp])) h
    simp only [rowC]
    split
    · exact ih h
    · rename_i b off hat
      cases hb : Nat.beq b i with
      | false => exact ih h
      | true =>
        have e := Nat.eq_of_beq_eq_true hb
        subst e
        refine ih ?_
        simp only [cond_true]
        cases hv : vs[off]? with
        | some v =>
          have := VRs_set h off _ v (hr r (by simp) off hat v hv)
          have e2 : vs.set off v = vs := by
            obtain ⟨hlt, he⟩ := List.getElem?_eq_some_iff.1 hv
            rw [← he]; exact List.set_getElem_self hlt
          rw [e2] at this
          exact this
        | none =>
          have hl : vs.length ≤ off := List.getElem?_eq_none_iff.1 hv
          rw [List.set_eq_of_length_le (by rw [VRs_length h]; exact hl)]
          exact h

omit [Glob] in
theorem rowT_mem {p : Nat × AV} : ∀ {rs : List RowH}, p ∈ rowT rs → ∃ r ∈ rs, r.at' = .t p.1 ∧ p.2 = .sl r.id 0
  | [], h => by simp [rowT] at h
  | r :: rs, h => by
    simp only [rowT] at h
    split at h
    · rename_i s hs
      rcases List.mem_cons.1 h with rfl | h
      · exact ⟨r, by simp, hs, rfl⟩
      · obtain ⟨q, h1, h2⟩ := rowT_mem h; exact ⟨q, by simp [h1], h2⟩
    · obtain ⟨q, h1, h2⟩ := rowT_mem h; exact ⟨q, by simp [h1], h2⟩

omit [Glob] in
theorem src_unique {l : List Src} (hd : distinct (Src.list l) = true) : ∀ {s p : Src}, s ∈ l → p ∈ l → ∀ {a : Nat}, s.src = some a → p.src = some a → distinct (l.map (·.id)) = true → s.id = p.id := by
  induction l with
  | nil => intro s p hs; simp at hs
  | cons q l ih =>
    intro s p hs hp a h1 h2 hi
    simp only [List.map_cons, distinct, Bool.and_eq_true, Bool.not_eq_true'] at hi
    have hd' : distinct (Src.list l) = true ∧ ∀ b, q.src = some b → b ∉ Src.list l := by
      unfold Src.list at hd
      cases hq : q.src with
      | none => rw [List.filterMap_cons, hq] at hd; exact ⟨hd, fun b h => by simp at h⟩
      | some b =>
        rw [List.filterMap_cons, hq] at hd
        simp only [distinct, Bool.and_eq_true, Bool.not_eq_true'] at hd
        refine ⟨hd.2, fun c hc hm => ?_⟩
        cases hc
        have := List.any_eq_false.1 hd.1 b hm
        simp at this
    have inl : ∀ {x : Src}, x ∈ l → x.src = some a → a ∈ Src.list l := fun hx hxa => List.mem_filterMap.2 ⟨_, hx, hxa⟩
    rcases List.mem_cons.1 hs with e1 | hs' <;> rcases List.mem_cons.1 hp with e2 | hp'
    · rw [e1, e2]
    · exact absurd (inl hp' h2) (hd'.2 a (by rw [← e1]; exact h1))
    · exact absurd (inl hs' h1) (hd'.2 a (by rw [← e2]; exact h2))
    · exact ih hd'.1 hs' hp' h1 h2 hi.2

theorem head_ok {od : List Nat} {h : Hint} (hh : head od h σ = some σ') (A : AR N μ S σ a) (R : Rel μ S σ.heap B w0 w) (hod : ∀ i, μo i ≠ none → i ∈ od) (Co : Carry B μo So Ho μ S σ.heap) :
    ∃ μ', AR N μ' S σ' a ∧ Rel μ' S σ'.heap B w0 w ∧ Carry B μo So Ho μ' S σ'.heap ∧ Bd σ' := by
  unfold head at hh
  split at hh
  · simp at hh
  · rename_i l hl
    obtain ⟨hc, rfl⟩ := cond_some hh
    simp only [Bool.and_eq_true, List.all_eq_true, Bool.not_eq_true'] at hc
    obtain ⟨⟨⟨hd1, hd2⟩, hd3⟩, hd4⟩ := hc
    obtain ⟨s1, s2⟩ := srcs_ok A R hl
    -- numbers of rows lie apart from the others
    have notL : ∀ s ∈ l, s.id ∉ od ++ h.ids := fun s hs hm => by
      have := hd3 s hs
      rw [mem_iff.2 hm] at this; simp at this
    have srcNotL : ∀ s ∈ l, ∀ x, s.src = some x → x ∉ od ++ h.ids := fun s hs x hx hm => by
      have := hd4 x (List.mem_filterMap.2 ⟨s, hs, hx⟩)
      rw [mem_iff.2 hm] at this; simp at this
    have inIds : ∀ q, q ∈ od ++ h.ids → q ∉ l.map (·.id) := fun q hq hm => by
      obtain ⟨s, hs, rfl⟩ := List.mem_map.1 hm
      exact notL s hs hq
    let μ' : Mu := muH l (od ++ h.ids) μ
    let H' : Heap := lkH (l.map (fun s => (s.id, some (.row s.te s.e 0 s.xs))) ++ (od ++ h.ids).map (fun i => (i, (σ.heap i).map (headObj h.rows (od ++ h.ids) i))))
    have F1 : ∀ s ∈ l, H' s.id = some (.row s.te s.e 0 s.xs) := fun s hs => lkH_src l s hs hd2
    have F2 : ∀ q, q ∉ l.map (·.id) → H' q = cond (mem (od ++ h.ids) q) ((σ.heap q).map (headObj h.rows (od ++ h.ids) q)) none := fun q hq => by
      show lkH _ q = _
      rw [lkH_rest l q hq, lkH_map]
    have M1 : ∀ s ∈ l, μ' s.id = s.loc μ := fun s hs => muH_src l s hs hd2
    have M2 : ∀ q, q ∉ l.map (·.id) → μ' q = cond (mem (od ++ h.ids) q) (μ q) none := fun q hq => muH_rest hq
    have ag : Ag (od ++ h.ids) μ σ.heap μ' H' := ⟨fun i hi => by rw [M2 i (inIds i hi), mem_iff.2 hi]; rfl, fun i hi t e g xs hr => by
      rw [F2 i (inIds i hi), mem_iff.2 hi] at hr
      exact headObj_row hr⟩
    have cases_ : ∀ q l', μ' q = some l' → (∃ s ∈ l, s.id = q ∧ s.loc μ = some l') ∨ (q ∈ od ++ h.ids ∧ q ∉ l.map (·.id) ∧ μ q = some l') := fun q l' hq => by
      by_cases hm : q ∈ l.map (·.id)
      · obtain ⟨s, hs, rfl⟩ := List.mem_map.1 hm
        rw [M1 s hs] at hq
        exact .inl ⟨s, hs, rfl, hq⟩
      · rw [M2 q hm] at hq
        cases hb : mem (od ++ h.ids) q with
        | true => rw [hb] at hq; exact .inr ⟨mem_iff.1 hb, hm, hq⟩
        | false => rw [hb] at hq; simp at hq
    have slR : ∀ r ∈ h.rows, ∀ v, VR μ S σ.heap (σ.valAt r.at') v → VR μ' S H' (.sl r.id 0) v := by
      intro r hr v hv
      obtain ⟨s, hs, e1, lc, e2, e3⟩ := s2 r hr
      have e3' := e3 v hv
      simp only [VR]
      refine ⟨⟨_, _, _, e3'⟩, lc, by rw [← e1]; exact (M1 s hs).trans e2, fun t1 e1' g1 xs1 hH => ?_⟩
      have hH2 : H' r.id = some (.row t1 e1' g1 xs1) := hH
      rw [← e1, F1 s hs] at hH2
      injection hH2 with hH2
      injection hH2 with k1 k2 k3 k4
      refine ⟨Nat.zero_le _, fun _ => ?_⟩
      rw [e3']
      subst k2
      cases k4
      rfl
    refine ⟨μ', ⟨A.defers, A.size, fun t ht => ?_⟩, ⟨R.below, R.size, R.st, fun q => ?_, fun q o hq => ?_, fun i j li lj b hij hi hj hb => ?_, R.pre⟩, ⟨fun x v hv => ?_, Co.st, Co.sub⟩, fun q hq => ?_⟩
    · refine lkT_VR (f := fun t => a.tmps.getD t undef) _ (fun p hp => ?_) t
      rcases List.mem_append.1 hp with hp | hp
      · obtain ⟨r, hr, hat, hpe⟩ := rowT_mem hp
        rw [hpe]
        refine slR r hr _ ?_
        rw [hat]
        exact A.val (.tmp p.1)
      · obtain ⟨t', ht', rfl⟩ := List.mem_map.1 hp
        exact clean_VR ag (A.val (.tmp t'))
    · by_cases hm : q ∈ l.map (·.id)
      · obtain ⟨s, hs, rfl⟩ := List.mem_map.1 hm
        show (H' s.id).isSome = (μ' s.id).isSome
        rw [F1 s hs, M1 s hs, (s1 s hs).2]; rfl
      · show (H' q).isSome = (μ' q).isSome
        rw [F2 q hm, M2 q hm]
        cases mem (od ++ h.ids) q with
        | true => simp only [cond_true, Option.isSome_map]; exact R.dom q
        | false => rfl
    · by_cases hm : q ∈ l.map (·.id)
      · obtain ⟨s, hs, rfl⟩ := List.mem_map.1 hm
        have hq' : H' s.id = some o := hq
        rw [F1 s hs] at hq'
        cases hq'
        obtain ⟨ok, hsome⟩ := s1 s hs
        cases hsrc : s.src with
        | none =>
          have hloc : s.loc μ = some ⟨none, 0⟩ := by unfold Src.loc; rw [hsrc]
          refine ⟨_, (M1 s hs).trans hloc, ?_, .inl ⟨rfl, rfl⟩⟩
          rw [ok.nil hsrc]; exact ⟨Nat.le_refl _, Nat.zero_le _⟩
        | some x =>
          obtain ⟨g, hx⟩ := ok.row x hsrc
          obtain ⟨lx, k1, k2⟩ := R.obj x _ hx
          have hloc : s.loc μ = some lx := by unfold Src.loc; rw [hsrc]; exact k1
          exact ⟨lx, (M1 s hs).trans hloc, k2⟩
      · have hq' : H' q = some o := hq
        rw [F2 q hm] at hq'
        cases hb : mem (od ++ h.ids) q with
        | false => rw [hb] at hq'; simp at hq'
        | true =>
          rw [hb] at hq'
          simp only [cond_true] at hq'
          cases ho : σ.heap q with
          | none => rw [ho] at hq'; simp at hq'
          | some o' =>
            rw [ho] at hq'
            simp only [Option.map_some, Option.some.injEq] at hq'
            subst hq'
            obtain ⟨lq, k1, k2⟩ := R.obj q o' ho
            refine ⟨lq, by show μ' q = _; rw [M2 q hm, hb]; exact k1, ?_⟩
            cases o' with
            | box t cs =>
              obtain ⟨b, vs, a1, a2, a3, a4, a5⟩ := k2
              refine ⟨b, vs, a1, a2, a3, a4, rowC_VRs h.rows (fun r hr off hat v hv => slR r hr v ?_) (clean_VRs ag a5)⟩
              have := nthJ_VR a5 off
              rw [hat]
              simp only [St.valAt, ho, boxAt]
              rw [List.getD_eq_getElem?_getD, hv] at this
              exact this
            | siter s pos => exact k2
            | map es => exact k2
            | loop k r st ts =>
              obtain ⟨b, fn, ss, pe, vs, ps, asn, body, df, q1, q2, q3, q4, q5, q6, q7⟩ := k2
              exact ⟨b, fn, ss, pe, vs, ps, asn, body, df, q1, q2, q3, q4, q5, q6, clean_VRs ag q7⟩
            | row t e g xs => exact k2
    · rcases cases_ i li hi with ⟨s, hs, e1, e2⟩ | ⟨h1, h2, h3⟩ <;> rcases cases_ j lj hj with ⟨p, hp, f1, f2⟩ | ⟨k1, k2, k3⟩
      · unfold Src.loc at e2 f2
        cases hs1 : s.src with
        | none => rw [hs1] at e2; cases e2; simp at hb
        | some x =>
          rw [hs1] at e2
          cases hp1 : p.src with
          | none => rw [hp1] at f2; cases f2; simp
          | some y =>
            rw [hp1] at f2
            by_cases exy : x = y
            · subst exy
              exact absurd (src_unique hd1 hs hp hs1 hp1 hd2) (by rw [e1, f1]; exact hij)
            · exact R.sep x y li lj b exy e2 f2 hb
      · unfold Src.loc at e2
        cases hs1 : s.src with
        | none => rw [hs1] at e2; cases e2; simp at hb
        | some x =>
          rw [hs1] at e2
          exact R.sep x j li lj b (fun e => srcNotL s hs x hs1 (e ▸ k1)) e2 k3 hb
      · unfold Src.loc at f2
        cases hp1 : p.src with
        | none => rw [hp1] at f2; cases f2; simp
        | some y =>
          rw [hp1] at f2
          exact R.sep i y li lj b (fun e => srcNotL p hp y hp1 (e ▸ h1)) h3 f2 hb
      · exact R.sep i j li lj b hij h3 k3 hb
    · have h1 := VR_refs hod x v hv
      exact VR_ag ag x v (by
        have := VR_refs (L := od ++ h.ids) (fun i hi => List.mem_append.2 (.inl (hod i hi))) x v hv
        exact this) (Co.vr x v hv)
    · by_cases hm : q ∈ l.map (·.id)
      · exact List.mem_append.2 (.inr hm)
      · have hq' : H' q ≠ none := hq
        rw [F2 q hm] at hq'
        cases hb : mem (od ++ h.ids) q with
        | true => exact List.mem_append.2 (.inl (mem_iff.1 hb))
        | false => rw [hb] at hq'; simp at hq'

omit [Glob] in
theorem lkH_keys : ∀ (l : List (Nat × Option HObj)) (q : Nat), lkH l q ≠ none → q ∈ l.map (·.1)
  | [], q, h => absurd rfl h
  | (i, o) :: l, q, h => by
    simp only [lkH] at h
    cases hb : Nat.beq q i with
    | true => rw [Nat.eq_of_beq_eq_true hb]; simp
    | false =>
      rw [hb] at h
      have := lkH_keys l q h
      simp only [List.map_cons, List.mem_cons]; exact .inr this

omit [Glob] in
theorem head_bd {od : List Nat} {h : Hint} (hh : head od h σ = some σ') : Bd σ' := by
  unfold head at hh
  split at hh
  · simp at hh
  · obtain ⟨_, rfl⟩ := cond_some hh
    intro q hq
    have := lkH_keys _ q hq
    simp only [List.map_append, List.map_map, List.mem_append, List.mem_map, Function.comp_apply] at this ⊢
    rcases this with ⟨s, h1, h2⟩ | ⟨i, h1, h2⟩ | ⟨i, h1, h2⟩
    · exact .inr ⟨s, h1, h2⟩
    · subst h2; exact .inl (.inl h1)
    · subst h2; exact .inl (.inr h1)
end
end Go.Sy
