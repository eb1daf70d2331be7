/- Functions that turn a row that is the caller's own into another one: their contracts, told of data, and what a call makes of an abstract state. -/
import Derived.Test.YtipajaocggpahaaGreatSym8
namespace Go.Sy
open Go Go.RowKit
set_option linter.unusedSimpArgs false
set_option linter.unusedVariables false

/-- the row's elements; the further parameters; is the row itself turned (and nothing handed back); what becomes of it -/
structure UCon where
  te : TypeId
  e : Ty
  ps : List Ty
  keep : Bool
  f : List e.T → Args ps → Option (List e.T)

def UCon.OK [Glob] (P : Program) (k : FuncId) (u : UCon) : Prop :=
  ∀ (zs : List u.e.T) (x : Args u.ps) (ys : List u.e.T), u.f zs x = some ys → ∀ (S : Stable) (w : World) (B : Nat) (v0 : Value) (cs0 vs : List Value), (∀ b o, S b = some o → w.heap[b]? = some o) → Glob.pre S → RdArgs S u.ps x vs →
    RdL S u.e zs cs0 → w.ownsRow B u.te u.e.size v0 zs.length cs0 → (∀ b, v0.ownBlock = some b → S b = none) → B ≤ w.heap.size →
    Calls P k (v0 :: vs).toArray w fun e w' => ∃ v cs, e = .returned (cond u.keep (.tuple #[]) v) ∧ (u.keep = true → v = v0 ∧ ys.length = zs.length) ∧ RdL S u.e ys cs ∧ w'.ownsRow B u.te u.e.size v ys.length cs ∧
      (∀ b, v.ownBlock = some b → v0.ownBlock = some b ∨ w.heap.size ≤ b) ∧ w.grownBy w' v0.ownBlock

def updRow (u : UCon) (Hh : Heap) (i g : Nat) (part : Option Nat) (rest : List AV) : Option (HObj × AV) :=
  match Hh i with
  | some (.row te e g' xs) => match castL (e := e) (e' := u.e) (match part with
      | none => xs
      | some b => xs.take b) with
    | some zs => match decArgs (fun q => cond (Nat.beq q i) none (Hh q)) u.ps rest with
      | some x => match u.f zs x with
        | some ys => cond (Nat.beq g g' && Nat.beq te u.te && u.e.flat) (match u.keep with
            | true => cond (Nat.beq (List.length ys) (List.length zs) && part.isNone) (some (.row te u.e g ys, .lit (.tuple #[]))) none
            | false => some (.row te u.e (g + 1) ys, .sl i (g + 1))) none
        | none => none
      | none => none
    | none => none
  | _ => none

def updOut (u : UCon) (Hh : Heap) : List AV → Option (Nat × HObj × AV)
  | .sl i g :: rest => match updRow u Hh i g none rest with
    | some (o, v) => some (i, o, v)
    | none => none
  | .sub i g a b :: rest => cond (Nat.beq a 0) (match updRow u Hh i g (some b) rest with
    | some (o, v) => some (i, o, v)
    | none => none) none
  | _ => none

section
variable [Glob] {P : Program} {w w' w0 : World} {μ μ' : Mu} {S S' : Stable} {H Hh H' : Heap} {B : Nat}

omit [Glob] in
theorem RdL_flat {e : Ty} (hf : e.flat = true) : ∀ {xs : List e.T} {cs : List Value}, RdL S e xs cs → RdL S' e xs cs
  | [], _, h => h
  | x :: xs, cs, h => by
    obtain ⟨c, d, h1, h2, h3⟩ := h
    exact ⟨c, d, h1, Rd_flat _ _ _ hf h2, RdL_flat hf h3⟩

theorem ObjR_take {l : Lc} {te : TypeId} {e : Ty} {g : Nat} {xs : List e.T} (b : Nat) (h : ObjR μ S H w B l (.row te e g xs)) : ObjR μ S H w B l (.row te e g (xs.take b)) := by
  obtain ⟨⟨h1, h2⟩, h3⟩ := h
  refine ⟨⟨by rw [List.length_take]; omega, h2⟩, ?_⟩
  rcases h3 with h3 | ⟨b', cs, e1, q1, q2, q3, q4, q5⟩
  · exact .inl h3
  · refine .inr ⟨b', cs, e1, q1, q2, q3, q4, fun j x hj => q5 j x ?_⟩
    rw [List.getElem?_take] at hj
    split at hj
    · exact hj
    · simp at hj

omit [Glob] in
theorem addr_inj {l l' : Lc} (h : l.addr = l'.addr) : l.blk = l'.blk := by
  obtain ⟨b, c⟩ := l
  obtain ⟨b', c'⟩ := l'
  cases b <;> cases b' <;> simp_all [Lc.addr]

omit [Glob] in
theorem own_addr (l : Lc) (n c : Nat) : Value.ownBlock (.slice l.addr n c) = l.blk := by
  obtain ⟨b, c⟩ := l
  cases b <;> rfl

/-- the row turned: moved, or where it lies -/
theorem row_turned (R : Rel μ S H B w0 w) {i : Nat} {l : Lc} {te : TypeId} {e : Ty} {g g' : Nat} {xs ys : List e.T} {cs : List Value} {v : Value} (hm : μ i = some l) (hi : H i = some (.row te e g xs)) (hlt : g < g')
    (hR : RdL S e ys cs) (hown : w'.ownsRow B te e.size v ys.length cs) (hv : ∀ b, v.ownBlock = some b → l.blk = some b ∨ w.heap.size ≤ b) (hg : w.grownBy w' l.blk) :
    ∃ μ', Rel μ' S (upd H i (some (.row te e g' ys))) B w0 w' ∧ Ext μ S H μ' S (upd H i (some (.row te e g' ys))) ∧ VR μ' S (upd H i (some (.row te e g' ys))) (.sl i g') v := by
  have hS : ∀ b, v.ownBlock = some b → S b = none := by
    intro b hb
    rcases hv b hb with h | h
    · exact (R.ge hm h).2
    · cases hs : S b with
      | none => rfl
      | some o => have := R.st_lt hs; omega
  obtain ⟨l', rfl, h1, hO⟩ := owns_row (μ := μ) (H := H) (g := g') hR hS hown
  have E : Ext μ S H (upd μ i (some l')) S (upd H i (some (.row te e g' ys))) := Ext.moved hm hi hlt
  refine ⟨upd μ i (some l'), R.put (fun b hb => ?_) (fun b hb => ⟨l, hm, hb⟩) hg E (ObjR_mono E (fun _ _ => rfl) (fun b hb => hS b (by rw [h1]; exact hb)) hO), E, VR_sl⟩
  rcases hv b (by rw [h1]; exact hb) with h | h
  · exact .inl ⟨l, hm, h⟩
  · exact .inr h

theorem row_kept (R : Rel μ S H B w0 w) {i : Nat} {l : Lc} {te : TypeId} {e : Ty} {g : Nat} {xs ys : List e.T} {cs : List Value} (hm : μ i = some l) (hi : H i = some (.row te e g xs)) (hl : ys.length = xs.length)
    (hR : RdL S e ys cs) (hown : w'.ownsRow B te e.size (.slice l.addr xs.length l.cap) ys.length cs) (hg : w.grownBy w' l.blk) :
    Rel μ S (upd H i (some (.row te e g ys))) B w0 w' ∧ Ext μ S H μ S (upd H i (some (.row te e g ys))) := by
  have hS : ∀ b, Value.ownBlock (.slice l.addr xs.length l.cap) = some b → S b = none := by
    intro b hb
    rw [own_addr] at hb
    exact (R.ge hm hb).2
  obtain ⟨l', he, h1, hO⟩ := owns_row (μ := μ) (H := H) (g := g) hR hS hown
  simp only [Value.slice.injEq] at he
  have hll : l' = l := by
    obtain ⟨b, c⟩ := l
    obtain ⟨b', c'⟩ := l'
    have e1 := addr_inj he.1
    have e2 := he.2.2
    simp only at e1 e2
    rw [e1, e2]
  subst hll
  have E : Ext μ S H μ S (upd H i (some (.row te e g ys))) := Ext.row_same hi hl.symm
  have hmu : upd μ i (some l') = μ := by
    funext q
    by_cases e1 : q = i
    · subst e1; rw [upd_same, hm]
    · rw [upd_ne _ _ e1]
  have := R.put (w' := w') (i := i) (l := l') (ho := .row te e g ys) (fun b hb => .inl ⟨l', hm, hb⟩) (fun b hb => ⟨l', hm, hb⟩) hg (by rw [hmu]; exact E) (by rw [hmu]; exact ObjR_mono E (fun _ _ => rfl) (fun b hb => (R.ge hm hb).2) hO)
  rw [hmu] at this
  exact ⟨this, E⟩

theorem updRow_ok {k : FuncId} {u : UCon} (hu : u.OK P k) (sub : ∀ i o, Hh i = some o → H i = some o) (R : Rel μ S H B w0 w) {i g : Nat} {part : Option Nat} {rest : List AV} {v0 : Value} {us : List Value} {l : Lc} (hm : μ i = some l)
    (hv0 : ∀ te e xs, H i = some (.row te e g xs) → v0 = .slice l.addr (match part with
      | none => xs.length
      | some b => b) l.cap ∧ ∀ b, part = some b → b ≤ xs.length)
    (hv : VRs μ S H rest us) {o : HObj} {v : AV} (h : updRow u Hh i g part rest = some (o, v)) :
    Calls P k (v0 :: us).toArray w fun x w' => ∃ r μ', x = .returned r ∧ VR μ' S (upd H i (some o)) v r ∧ Rel μ' S (upd H i (some o)) B w0 w' ∧ Carry B μ S H μ' S (upd H i (some o)) := by
  unfold updRow at h
  split at h
  case h_2 => simp at h
  rename_i te e g' xs hHh
  have hH := sub _ _ hHh
  split at h
  case h_2 => simp at h
  rename_i zs hzs
  split at h
  case h_2 => simp at h
  rename_i x hx
  split at h
  case h_2 => simp at h
  rename_i ys hys
  obtain ⟨hc, h5⟩ := cond_out h
  clear h
  simp only [Bool.and_eq_true] at hc
  obtain ⟨⟨c1, c2⟩, c3⟩ := hc
  have c1 := Nat.eq_of_beq_eq_true c1
  have c2 := Nat.eq_of_beq_eq_true c2
  subst c1 c2
  obtain ⟨he, hz⟩ := castL_eq hzs
  obtain ⟨l0, hm0, hO⟩ := R.obj i _ hH
  have : l0 = l := Option.some.inj (hm0.symm.trans hm)
  subst this
  obtain ⟨k1, k2⟩ := hv0 _ _ _ hH
  obtain ⟨ute, ue, ups, uk, uf⟩ := u
  simp only at he zs x ys hzs hx hys c3 h5 hu
  subst he
  simp only at hz
  have hO' : ObjR μ S H w B l0 (.row ute e g zs) := by
    rw [hz]
    cases part with
    | none => exact hO
    | some b => exact ObjR_take b hO
  have hlen : v0 = .slice l0.addr zs.length l0.cap := by
    rw [k1, hz]
    cases part with
    | none => rfl
    | some b => have := k2 b rfl; simp only [List.length_take]; rw [Nat.min_eq_left this]
  obtain ⟨cs0, r1, r2⟩ := row_owns hO'
  have r1 : RdL S e zs cs0 := r1
  let S1 : Stable := fun b => if l0.blk = some b then none else w.heap[b]?
  have hS1 : ∀ b o, S b = some o → S1 b = some o := by
    intro b o hb
    show (if l0.blk = some b then none else w.heap[b]?) = some o
    rw [if_neg (fun hq => by rw [(R.ge hm hq).2] at hb; simp at hb)]
    exact R.st b o hb
  have hS1w : ∀ b o, S1 b = some o → w.heap[b]? = some o := by
    intro b o hb
    have hb : (if l0.blk = some b then none else w.heap[b]?) = some o := hb
    split at hb
    · simp at hb
    · exact hb
  have hrow : ∀ j t e g xs l, (fun q => cond (Nat.beq q i) none (Hh q)) j = some (.row t e g xs) → μ j = some l → Rd S1 (.row e) xs [.slice l.addr xs.length l.cap] := by
    intro j t e g xs l hj hmj
    have hji : j ≠ i := by
      intro hq
      subst hq
      simp [Nat.beq_refl] at hj
    have hHj : Hh j = some (.row t e g xs) := by
      have hb : Nat.beq j i = false := by
        cases hb : Nat.beq j i with
        | false => rfl
        | true => exact absurd (Nat.eq_of_beq_eq_true hb) hji
      simpa [hb] using hj
    obtain ⟨lj, m1, m2⟩ := R.obj j _ (sub _ _ hHj)
    have : lj = l := Option.some.inj (m1.symm.trans hmj)
    subst this
    refine ⟨lj.addr, lj.cap, rfl, ⟨m2.1.1, fun ha => ?_⟩, fun q y hq => ?_⟩
    · rcases m2.2 with h3 | ⟨b, cs, e1, _⟩
      · exact h3.2
      · simp [Lc.addr, e1] at ha
    rcases m2.2 with h3 | ⟨b, cs, e1, _, _, h4, _, h6⟩
    · have hlt : q < xs.length := (List.getElem?_eq_some_iff.1 hq).1
      have := m2.1.1; omega
    · obtain ⟨c, n1, n2⟩ := h6 q y hq
      refine ⟨⟨b, 0, none⟩, c, by simp [Lc.addr, e1], Rd_mono hS1 _ _ _ n1, fun m z hz => ?_⟩
      rw [plain_add, Nat.zero_add]
      have hne : l0.blk ≠ some b := fun hq => R.sep i j l0 lj b (Ne.symm hji) hm m1 hq e1
      have hb : S1 b = some (.cells cs t (0, 0)) := by
        show (if l0.blk = some b then none else w.heap[b]?) = _
        rw [if_neg hne]; exact h4
      simp only [cellS, hb, Option.isSome_none, Bool.false_eq_true, if_false]
      exact n2 m z hz
  have ha := decArgs_Rd (S' := S1) (H := H) hS1 hrow (fun j o hj => by
    cases hb : Nat.beq j i with
    | true => simp [hb] at hj
    | false => simp only [hb, cond_false] at hj; exact sub _ _ hj) hv hx
  have hcall := hu zs x ys hys S1 w B v0 cs0 us hS1w (Glob.mono _ _ hS1 R.pre) ha (RdL_flat c3 r1) (by rw [hlen]; exact r2) (fun b hb => by
    rw [hlen, own_addr] at hb
    show (if l0.blk = some b then none else w.heap[b]?) = none
    rw [if_pos hb]) R.size
  refine hcall.mono ?_
  rintro q w' ⟨r, cs, rfl, q1, q2, q3, q4, q5⟩
  rw [hlen, own_addr] at q4 q5
  have q2' : RdL S e ys cs := RdL_flat c3 q2
  cases hk : uk with
  | true =>
    rw [hk] at h5
    simp only at h5
    obtain ⟨hc2, h6⟩ := cond_some h5
    cases h6
    simp only [Bool.and_eq_true] at hc2
    have hpn : part = none := by simpa using hc2.2
    subst hpn
    obtain ⟨rfl, ql⟩ := q1 hk
    have hz' : zs = xs := hz
    subst hz'
    rw [hlen] at q3
    obtain ⟨R', E⟩ := row_kept R hm hH ql q2' q3 q5
    refine ⟨.tuple #[], μ, by simp, by simp only [VR], R', Carry.of E⟩
  | false =>
    rw [hk] at h5
    simp only [Option.some.injEq, Prod.mk.injEq] at h5
    obtain ⟨rfl, rfl⟩ := h5
    obtain ⟨μ', R', E, hVR⟩ := row_turned R hm hH (Nat.lt_succ_self g) q2' q3 q4 q5
    exact ⟨r, μ', by simp, hVR, R', Carry.of E⟩

/-- A call that turns a row. -/
theorem call_upd {k : FuncId} {u : UCon} (hu : u.OK P k) (sub : ∀ i o, Hh i = some o → H i = some o) (R : Rel μ S H B w0 w) {as : List AV} {us : Array Value} (hv : VRs μ S H as us.toList) {i : Nat} {o : HObj} {v : AV} (h : updOut u Hh as = some (i, o, v)) :
    Calls P k us w fun x w' => ∃ r μ', x = .returned r ∧ VR μ' S (upd H i (some o)) v r ∧ Rel μ' S (upd H i (some o)) B w0 w' ∧ Carry B μ S H μ' S (upd H i (some o)) := by
  unfold updOut at h
  split at h
  · rename_i i' g rest
    split at h
    case h_2 => simp at h
    rename_i o' v' hr
    cases h
    simp only [VRs] at hv
    obtain ⟨v0, r, hus, h1, h2⟩ := hv
    have hus' : us = (v0 :: r).toArray := by apply Array.ext'; simpa using hus
    subst hus'
    simp only [VR] at h1
    obtain ⟨_, l, hm, h3⟩ := h1
    exact updRow_ok hu sub R hm (fun te e xs hH => ⟨(h3 _ _ _ _ hH).2 rfl, fun b hb => by simp at hb⟩) h2 hr
  · rename_i i' g a b rest
    obtain ⟨ha, h⟩ := cond_out h
    have ha := Nat.eq_of_beq_eq_true ha
    subst ha
    split at h
    case h_2 => simp at h
    rename_i o' v' hr
    cases h
    simp only [VRs] at hv
    obtain ⟨v0, r, hus, h1, h2⟩ := hv
    have hus' : us = (v0 :: r).toArray := by apply Array.ext'; simpa using hus
    subst hus'
    simp only [VR] at h1
    obtain ⟨_, l, hm, h3⟩ := h1
    refine updRow_ok hu sub R hm (fun te e xs hH => ?_) h2 hr
    obtain ⟨p1, p2, ad, rfl, p3, _⟩ := (h3 _ _ _ _ hH).2 rfl
    have had := p3 (by simp)
    have had' : ad = l.addr := by
      rw [had]
      cases l.addr with
      | none => rfl
      | some q => simp [add_zero]
    subst had'
    exact ⟨rfl, fun b' hb' => by cases hb'; exact p2⟩
  · simp at h
end
end Go.Sy
