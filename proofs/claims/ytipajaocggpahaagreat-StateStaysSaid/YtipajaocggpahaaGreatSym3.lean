/- How a world that is as an abstract heap says stays so. -/
import Derived.Test.YtipajaocggpahaaGreatSym2
namespace Go.Sy
open Go Go.RowKit
set_option linter.unusedSimpArgs false

section
variable [Glob] {P : Program} {w w' w0 : World} {μ μ' : Mu} {S S' : Stable} {H H' : Heap} {B : Nat}

theorem ObjR_mono (h : Ext μ S H μ' S' H') {l : Lc} {o : HObj} (hw : ∀ b, l.blk = some b → w'.heap[b]? = w.heap[b]?)
    (hs : ∀ b, l.blk = some b → S' b = none) (hr : ObjR μ S H w B l o) : ObjR μ' S' H' w' B l o := by
  cases o with
  | box t cells =>
    obtain ⟨b, cs, h1, h2, h3, h4, h5⟩ := hr
    exact ⟨b, cs, h1, h2, hs b h1, by rw [hw b h1]; exact h4, VRs_mono h _ _ h5⟩
  | siter s pos =>
    obtain ⟨b, h1, h2, h3, h4⟩ := hr
    exact ⟨b, h1, h2, hs b h1, by rw [hw b h1]; exact h4⟩
  | map es =>
    obtain ⟨b, h1, h2, h3, h4⟩ := hr
    exact ⟨b, h1, h2, hs b h1, by rw [hw b h1]; exact h4⟩
  | loop k r st ts =>
    obtain ⟨b, fn, ss, pe, vs, ps, asn, body, df, h1, h2, h3, h4, h5, h6, h7⟩ := hr
    exact ⟨b, fn, ss, pe, vs, ps, asn, body, df, h1, h2, hs b h1, h4, h5, by rw [hw b h1]; exact h6, VRs_mono h _ _ h7⟩
  | row t e g xs =>
    obtain ⟨h0, h1⟩ := hr
    refine ⟨h0, ?_⟩
    rcases h1 with h1 | ⟨b, cs, h1, h2, h3, h4, h5, h6⟩
    · exact .inl h1
    · exact .inr ⟨b, cs, h1, h2, hs b h1, by rw [hw b h1]; exact h4, h5, fun j x hj => by
        obtain ⟨c, k1, k2⟩ := h6 j x hj
        exact ⟨c, Rd_mono h.st _ _ _ k1, k2⟩⟩

theorem Rel.lt (R : Rel μ S H B w0 w) {i : Nat} {l : Lc} {b : Nat} (hl : μ i = some l) (hb : l.blk = some b) : b < w.heap.size := by
  have hd := R.dom i
  rw [hl] at hd
  cases ho : H i with
  | none => rw [ho] at hd; simp at hd
  | some o =>
    obtain ⟨l', h1, h2⟩ := R.obj i o ho
    have e1 : l' = l := Option.some.inj (h1.symm.trans hl)
    subst e1
    cases o with
    | box t cells =>
      obtain ⟨b', cs, e, _, _, h4, _⟩ := h2
      have e2 : b' = b := Option.some.inj (e.symm.trans hb)
      subst e2
      exact (Array.getElem?_eq_some_iff.1 h4).1
    | siter s pos =>
      obtain ⟨b', e, _, _, h4⟩ := h2
      have e2 : b' = b := Option.some.inj (e.symm.trans hb)
      subst e2
      exact (Array.getElem?_eq_some_iff.1 h4).1
    | map es =>
      obtain ⟨b', e, _, _, h4⟩ := h2
      have e2 : b' = b := Option.some.inj (e.symm.trans hb)
      subst e2
      exact (Array.getElem?_eq_some_iff.1 h4).1
    | loop k r st ts =>
      obtain ⟨b', _, _, _, _, _, _, _, _, e, _, _, _, _, h4, _⟩ := h2
      have e2 : b' = b := Option.some.inj (e.symm.trans hb)
      subst e2
      exact (Array.getElem?_eq_some_iff.1 h4).1
    | row t e g xs =>
      rcases h2.2 with h1 | ⟨b', cs, e, _, _, h4, _⟩
      · rw [h1.1] at hb; simp at hb
      · have e2 : b' = b := Option.some.inj (e.symm.trans hb)
        subst e2
        exact (Array.getElem?_eq_some_iff.1 h4).1

theorem Rel.ge (R : Rel μ S H B w0 w) {i : Nat} {l : Lc} {b : Nat} (hl : μ i = some l) (hb : l.blk = some b) : B ≤ b ∧ S b = none := by
  have hd := R.dom i
  rw [hl] at hd
  cases ho : H i with
  | none => rw [ho] at hd; simp at hd
  | some o =>
    obtain ⟨l', h1, h2⟩ := R.obj i o ho
    have e1 : l' = l := Option.some.inj (h1.symm.trans hl)
    subst e1
    cases o with
    | box t cells =>
      obtain ⟨b', cs, e, k1, k2, _, _⟩ := h2
      have e2 : b' = b := Option.some.inj (e.symm.trans hb)
      subst e2
      exact ⟨k1, k2⟩
    | siter s pos =>
      obtain ⟨b', e, k1, k2, _⟩ := h2
      have e2 : b' = b := Option.some.inj (e.symm.trans hb)
      subst e2
      exact ⟨k1, k2⟩
    | map es =>
      obtain ⟨b', e, k1, k2, _⟩ := h2
      have e2 : b' = b := Option.some.inj (e.symm.trans hb)
      subst e2
      exact ⟨k1, k2⟩
    | loop k r st ts =>
      obtain ⟨b', _, _, _, _, _, _, _, _, e, k1, k2, _⟩ := h2
      have e2 : b' = b := Option.some.inj (e.symm.trans hb)
      subst e2
      exact ⟨k1, k2⟩
    | row t e g xs =>
      rcases h2.2 with h1 | ⟨b', cs, e, k1, k2, _, _⟩
      · rw [h1.1] at hb; simp at hb
      · have e2 : b' = b := Option.some.inj (e.symm.trans hb)
        subst e2
        exact ⟨k1, k2⟩

theorem Rel.st_lt (R : Rel μ S H B w0 w) {b : Nat} {o : Obj} (h : S b = some o) : b < w.heap.size := (Array.getElem?_eq_some_iff.1 (R.st b o h)).1

omit [Glob] in
theorem alloc_heap_lt (w : World) (o : Obj) {k : Nat} (h : k < w.heap.size) : (w.alloc o).heap[k]? = w.heap[k]? := Below.heap_alloc w o k h
omit [Glob] in
theorem alloc_heap_new (w : World) (o : Obj) : (w.alloc o).heap[w.heap.size]? = some o := by
  show (w.heap.push o)[w.heap.size]? = some o
  simp

omit [Glob] in
theorem Ext.new {i : Nat} {ho : HObj} {l : Lc} (hi : μ i = none) : Ext μ S H (upd μ i (some l)) S (upd H i (some ho)) := by
  refine ⟨fun j l' hj => .inl ?_, fun _ _ h => h, fun j t e g xs hj hH => ?_⟩
  · have : j ≠ i := fun e => by subst e; rw [hi] at hj; simp at hj
    rw [upd_ne _ _ this]; exact hj
  · have : j ≠ i := fun e => by subst e; rw [hi] at hj; simp at hj
    rw [upd_ne _ _ this] at hH
    exact ⟨t, g, xs, hH, Nat.le_refl _, fun _ => rfl⟩

/-- One object more, in a new block. -/
theorem Rel.new (R : Rel μ S H B w0 w) {i : Nat} (hi : H i = none) (o : Obj) (ho : HObj) (l : Lc) (hl : l.blk = some w.heap.size)
    (hO : ObjR (upd μ i (some l)) S (upd H i (some ho)) (w.alloc o) B l ho) :
    Rel (upd μ i (some l)) S (upd H i (some ho)) B w0 (w.alloc o) ∧ Ext μ S H (upd μ i (some l)) S (upd H i (some ho)) := by
  have hm : μ i = none := by
    have := R.dom i; rw [hi] at this
    cases h : μ i with
    | none => rfl
    | some _ => rw [h] at this; simp at this
  have E : Ext μ S H (upd μ i (some l)) S (upd H i (some ho)) := Ext.new hm
  refine ⟨⟨R.below.alloc R.size o, by have := R.size; simp; omega, fun b o' h => ?_, fun j => ?_, fun j o' hj => ?_, ?_, R.pre⟩, E⟩
  · rw [alloc_heap_lt w o (R.st_lt h)]; exact R.st b o' h
  · by_cases e : j = i
    · subst e; rw [upd_same, upd_same]; rfl
    · rw [upd_ne _ _ e, upd_ne _ _ e]; exact R.dom j
  · by_cases e : j = i
    · subst e; rw [upd_same] at hj; cases hj; exact ⟨l, upd_same _ _ _, hO⟩
    · rw [upd_ne _ _ e] at hj
      obtain ⟨l', h1, h2⟩ := R.obj j o' hj
      refine ⟨l', by rw [upd_ne _ _ e]; exact h1, ObjR_mono E (fun b hb => alloc_heap_lt w o (R.lt h1 hb)) (fun b hb => (R.ge h1 hb).2) h2⟩
  · intro j k lj lk b hjk hj hk hb
    by_cases e : j = i
    · subst e
      rw [upd_same] at hj; cases hj
      rw [upd_ne _ _ (Ne.symm hjk)] at hk
      rw [hl] at hb; cases hb
      intro hb'
      have := R.lt hk hb'; omega
    · rw [upd_ne _ _ e] at hj
      by_cases e2 : k = i
      · subst e2
        rw [upd_same] at hk; cases hk
        rw [hl]
        have := R.lt hj hb
        intro h; cases h; omega
      · rw [upd_ne _ _ e2] at hk
        exact R.sep j k lj lk b hjk hj hk hb

/-- One object written anew, where it lies. -/
theorem Rel.wr (R : Rel μ S H B w0 w) {i : Nat} {l : Lc} {b : Nat} (hl : μ i = some l) (hb : l.blk = some b) (ho : HObj)
    (hw : Below b w w') (hsz : w'.heap.size = w.heap.size) (hk : ∀ k, k ≠ b → w'.heap[k]? = w.heap[k]?)
    (E : Ext μ S H μ S (upd H i (some ho))) (hO : ObjR μ S (upd H i (some ho)) w' B l ho) : Rel μ S (upd H i (some ho)) B w0 w' := by
  have hB := (R.ge hl hb)
  refine ⟨R.below.trans (hw.mono hB.1), by rw [hsz]; exact R.size, fun b' o h => ?_, fun j => ?_, fun j o hj => ?_, R.sep, R.pre⟩
  · rw [hk b' (fun e => by subst e; rw [hB.2] at h; simp at h)]; exact R.st b' o h
  · by_cases e : j = i
    · subst e; rw [upd_same, hl]; rfl
    · rw [upd_ne _ _ e]; exact R.dom j
  · by_cases e : j = i
    · subst e; rw [upd_same] at hj; cases hj; exact ⟨l, hl, hO⟩
    · rw [upd_ne _ _ e] at hj
      obtain ⟨l', h1, h2⟩ := R.obj j o hj
      refine ⟨l', h1, ObjR_mono E (fun b' hb' => hk b' (fun e2 => ?_)) (fun b' hb' => (R.ge h1 hb').2) h2⟩
      subst e2
      exact R.sep j i l' l _ e h1 hl hb' hb

omit [Glob] in
theorem Ext.box {i : Nat} {t t' : TypeId} {cs cs' : List AV} (_h : H i = some (.box t cs)) : Ext μ S H μ S (upd H i (some (.box t' cs'))) := by
  refine ⟨fun _ _ h => .inl h, fun _ _ h => h, fun j t0 e g xs _ hH => ?_⟩
  by_cases ej : j = i
  · subst ej; rw [upd_same] at hH; simp at hH
  · rw [upd_ne _ _ ej] at hH; exact ⟨t0, g, xs, hH, Nat.le_refl _, fun _ => rfl⟩

omit [Glob] in
theorem Ext.row_same {i : Nat} {t : TypeId} {e : Ty} {g : Nat} {xs ys : List e.T} (h : H i = some (.row t e g xs)) (hl : xs.length = ys.length) :
    Ext μ S H μ S (upd H i (some (.row t e g ys))) := by
  refine ⟨fun _ _ h => .inl h, fun _ _ h => h, fun j t0 e0 g0 zs _ hH => ?_⟩
  by_cases ej : j = i
  · subst ej; rw [upd_same] at hH
    injection hH with hH
    injection hH with e1 e2 e3 e4
    subst e2
    have e5 := eq_of_heq e4
    subst e1 e3 e5
    exact ⟨t, g, xs, h, Nat.le_refl _, fun _ => hl⟩
  · rw [upd_ne _ _ ej] at hH; exact ⟨t0, g0, zs, hH, Nat.le_refl _, fun _ => rfl⟩
end
def Ty.isAgg : Ty → Bool
  | .pair _ _ => true
  | .one _ => true
  | _ => false

/-! reading data off abstract values -/
def castL {e e' : Ty} (xs : List e.T) : Option (List e'.T) := if h : e = e' then some (h ▸ xs) else none

def decInt (k : IntKind) : List AV → Option (Int × List AV)
  | .lit (.int k' x) :: r => cond (decide (k' = k)) (some (x, r)) none
  | _ => none

def decBool : List AV → Option (Bool × List AV)
  | .lit (.bool x) :: r => some (x, r)
  | _ => none

def decStr : List AV → Option (ByteArray × List AV)
  | .lit (.string x) :: r => some (x, r)
  | _ => none

def decRow (H : Heap) (e : Ty) : List AV → Option (List e.T × List AV)
  | .cont e' xs :: r => match castL (e := e') (e' := e) xs with
    | some ys => some (ys, r)
    | none => none
  | .sl i g :: r => match H i with
    | some (.row _ e' g' xs) => cond (Nat.beq g g') (match castL (e := e') (e' := e) xs with
      | some ys => some (ys, r)
      | none => none) none
    | _ => none
  | .lit (.slice none 0 0) :: r => some ([], r)
  | .sub i g lo hi :: r => match H i with
    | some (.row _ e' g' xs) => cond (Nat.beq g g') (match castL (e := e') (e' := e) ((xs.take hi).drop lo) with
      | some ys => some (ys, r)
      | none => none) none
    | _ => none
  | _ => none

def decFnc (k : Nat) : List AV → Option (Unit × List AV)
  | .fn (.func k') [] [] :: r => cond (Nat.beq k' k) (some ((), r)) none
  | _ => none

def dec (H : Heap) : (t : Ty) → List AV → Option (t.T × List AV)
  | .int k, l => decInt k l
  | .bool, l => decBool l
  | .str, l => decStr l
  | .row e, l => decRow H e l
  | .pair a b, l => match dec H a l with
    | some (x, l') => match dec H b l' with
      | some (y, l'') => some ((x, y), l'')
      | none => none
    | none => none
  | .one a, l => dec H a l
  | .fnc k, l => decFnc k l

def decAll (H : Heap) (t : Ty) (cs : List AV) : Option t.T :=
  match dec H t cs with
  | some (x, []) => some x
  | _ => none

def AV.inside : AV → List AV
  | .agg cs => cs
  | a => [a]

def AV.isAgg : AV → Bool
  | .agg _ => true
  | _ => false


section
variable [Glob] {P : Program} {w w' w0 : World} {μ : Mu} {S S' : Stable} {H Hh : Heap} {B : Nat}
omit [Glob] in
theorem castL_eq {e e' : Ty} {xs : List e.T} {ys : List e'.T} (h : castL xs = some ys) : ∃ he : e = e', ys = he ▸ xs := by
  unfold castL at h
  split at h
  · rename_i he; exact ⟨he, (Option.some.inj h).symm⟩
  · simp at h

omit [Glob] in
/-- a part of a row reads as the part of its list -/
theorem Rd_sub {e : Ty} {xs : List e.T} {ad a : Option Addr} {cap lo hi : Nat} (h : Rd S (.row e) xs [.slice ad xs.length cap]) (h1 : lo ≤ hi) (h2 : hi ≤ xs.length)
    (ha : (lo = 0 ∨ lo < hi) → a = ad.map (·.add (lo * e.size))) (hn : a = none → ad = none) : Rd S (.row e) ((xs.take hi).drop lo) [.slice a (hi - lo) (cap - lo)] := by
  obtain ⟨a0, c0, e0, ⟨k1, k2⟩, k3⟩ := h
  cases e0
  have hl : ((xs.take hi).drop lo).length = hi - lo := by simp; omega
  refine ⟨a, cap - lo, by rw [hl], ⟨by omega, fun h0 => by have := k2 (hn h0); omega⟩, fun j x hj => ?_⟩
  · have hlt : j < hi - lo := by
      rcases Nat.lt_or_ge j (hi - lo) with h | h
      · exact h
      · rw [List.getElem?_eq_none (by omega)] at hj; simp at hj
    rw [List.getElem?_drop, List.getElem?_take] at hj
    rw [if_pos (by omega)] at hj
    obtain ⟨q, c, e1, e2, e3⟩ := k3 (lo + j) x hj
    subst e1
    refine ⟨q.add (lo * e.size), c, by rw [ha (.inr (by omega))]; rfl, e2, fun m v hm => ?_⟩
    rw [add_add, ← Nat.add_assoc, ← Nat.add_mul]
    exact e3 m v hm

omit [Glob] in
theorem VR_cont {e : Ty} {xs : List e.T} {v : Value} (h : VR μ S H (.cont e xs) v) : Rd S (.row e) xs [v] := by simpa only [VR] using h

omit [Glob] in
/-- What is read off abstract cells is what the cells read as, over a memory in which all rows that may be looked at stay. -/
theorem dec_Rd (hS : ∀ b o, S b = some o → S' b = some o)
    (hrow : ∀ i t e g xs l, Hh i = some (.row t e g xs) → μ i = some l → Rd S' (.row e) xs [.slice l.addr xs.length l.cap])
    (sub : ∀ i o, Hh i = some o → H i = some o) :
    ∀ (t : Ty) (as : List AV) (vs : List Value) (x : t.T) (r : List AV), VRs μ S H as vs → dec Hh t as = some (x, r) →
      ∃ cs us, vs = cs ++ us ∧ Rd S' t x cs ∧ VRs μ S H r us
  | .int k, as, vs, x, r, hv, h => by
    simp only [dec] at h
    unfold decInt at h
    split at h
    · obtain ⟨hk, he⟩ := cond_some h
      cases he
      simp only [decide_eq_true_eq] at hk
      subst hk
      simp only [VRs, VR] at hv
      obtain ⟨v, u, rfl, rfl, h2⟩ := hv
      exact ⟨[_], u, rfl, rfl, h2⟩
    · simp at h
  | .bool, as, vs, x, r, hv, h => by
    simp only [dec] at h
    unfold decBool at h
    split at h
    · cases h
      simp only [VRs, VR] at hv
      obtain ⟨v, u, rfl, rfl, h2⟩ := hv
      exact ⟨[_], u, rfl, rfl, h2⟩
    · simp at h
  | .str, as, vs, x, r, hv, h => by
    simp only [dec] at h
    unfold decStr at h
    split at h
    · cases h
      simp only [VRs, VR] at hv
      obtain ⟨v, u, rfl, rfl, h2⟩ := hv
      exact ⟨[_], u, rfl, rfl, h2⟩
    · simp at h
  | .row e, as, vs, x, r, hv, h => by
    simp only [dec] at h
    unfold decRow at h
    split at h
    · rename_i e' xs r'
      split at h
      · rename_i ys hc
        cases h
        obtain ⟨he, rfl⟩ := castL_eq hc
        subst he
        simp only [VRs] at hv
        obtain ⟨v, u, rfl, h1, h2⟩ := hv
        exact ⟨[v], u, rfl, Rd_mono hS _ _ _ (VR_cont h1), h2⟩
      · simp at h
    · rename_i i g r'
      split at h
      · rename_i t' e' g' xs hH
        have hg : Nat.beq g g' = true := by
          cases hb : Nat.beq g g' with
          | true => rfl
          | false => rw [hb] at h; simp at h
        rw [hg] at h
        simp only [cond_true] at h
        split at h
        · rename_i ys hc
          cases h
          obtain ⟨he, rfl⟩ := castL_eq hc
          subst he
          have hgg := Nat.eq_of_beq_eq_true hg
          simp only [VRs] at hv
          obtain ⟨v, u, rfl, h1, h2⟩ := hv
          simp only [VR] at h1
          obtain ⟨_, l, hm, h3⟩ := h1
          have := (h3 _ _ _ _ (sub _ _ hH)).2 hgg
          subst this
          exact ⟨[_], u, rfl, hrow _ _ _ _ _ _ hH hm, h2⟩
        · simp at h
      · simp at h
    · cases h
      simp only [VRs, VR] at hv
      obtain ⟨v, u, rfl, rfl, h2⟩ := hv
      exact ⟨[_], u, rfl, ⟨none, 0, rfl, ⟨Nat.le_refl _, fun _ => rfl⟩, fun j x hj => by simp at hj⟩, h2⟩
    · rename_i i g lo hi r'
      split at h
      · rename_i t' e' g' xs hH
        have hg : Nat.beq g g' = true := by
          cases hb : Nat.beq g g' with
          | true => rfl
          | false => rw [hb] at h; simp at h
        rw [hg] at h
        simp only [cond_true] at h
        split at h
        · rename_i ys hc
          cases h
          obtain ⟨he, rfl⟩ := castL_eq hc
          subst he
          have hgg := Nat.eq_of_beq_eq_true hg
          simp only [VRs] at hv
          obtain ⟨v, u, rfl, h1, h2⟩ := hv
          simp only [VR] at h1
          obtain ⟨_, l, hm, h3⟩ := h1
          obtain ⟨h4, h5, a, rfl, h6, h7⟩ := (h3 _ _ _ _ (sub _ _ hH)).2 hgg
          exact ⟨[_], u, rfl, Rd_sub (hrow _ _ _ _ _ _ hH hm) h4 h5 h6 h7, h2⟩
        · simp at h
      · simp at h
    · simp at h
  | .fnc k, as, vs, x, r, hv, h => by
    simp only [dec] at h
    unfold decFnc at h
    split at h
    · obtain ⟨hk, he⟩ := cond_some h
      cases he
      have hk := Nat.eq_of_beq_eq_true hk
      subst hk
      simp only [VRs, VR] at hv
      obtain ⟨v, u, rfl, ⟨a, b, rfl, h2, h3⟩, h4⟩ := hv
      have ha : a = #[] := by simpa using h2
      have hb : b = #[] := by simpa using h3
      subst ha hb
      exact ⟨[_], u, rfl, rfl, h4⟩
    · simp at h
  | .pair a b, as, vs, x, r, hv, h => by
    simp only [dec] at h
    split at h
    · rename_i y l' h1
      split at h
      · rename_i z l'' h2
        cases h
        obtain ⟨c1, u1, e1, k1, r1⟩ := dec_Rd hS hrow sub a as vs y l' hv h1
        obtain ⟨c2, u2, e2, k2, r2⟩ := dec_Rd hS hrow sub b l' u1 z r r1 h2
        exact ⟨c1 ++ c2, u2, by rw [e1, e2, List.append_assoc], ⟨c1, c2, rfl, k1, k2⟩, r2⟩
      · simp at h
    · simp at h
  | .one a, as, vs, x, r, hv, h => by
    simp only [dec] at h
    exact dec_Rd hS hrow sub a as vs x r hv h

end
end Go.Sy
