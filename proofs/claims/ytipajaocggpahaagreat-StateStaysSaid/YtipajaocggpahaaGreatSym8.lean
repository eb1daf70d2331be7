/- What a call by its contract makes of an abstract state. -/
import Derived.Test.YtipajaocggpahaaGreatSym7
namespace Go.Sy
open Go Go.RowKit
set_option linter.unusedSimpArgs false
set_option linter.unusedVariables false

def cntR : RTy → Nat
  | .val _ => 0
  | .own _ _ => 1
  | .pair a b => cntR a + cntR b
  | .one a => cntR a

def encR : (t : RTy) → t.T → Nat → List AV
  | .val t, x, _ => enc t x
  | .own _ _, _, i => [.sl i 0]
  | .pair a b, x, i => encR a x.1 i ++ encR b x.2 (i + cntR a)
  | .one a, x, i => encR a x i

def objR : (t : RTy) → t.T → Nat → List (Nat × HObj)
  | .val _, _, _ => []
  | .own te e, xs, i => [(i, .row te e 0 xs)]
  | .pair a b, x, i => objR a x.1 i ++ objR b x.2 (i + cntR a)
  | .one a, x, i => objR a x i

def headAV : List AV → AV
  | [a] => a
  | _ => .junk

def encRV (t : RTy) (x : t.T) (i : Nat) : AV := cond t.isAgg (.agg (encR t x i)) (headAV (encR t x i))

def encRs : (rs : List RTy) → Res rs → Nat → List AV
  | [], _, _ => []
  | t :: ts, x, i => encRV t x.1 i :: encRs ts x.2 (i + cntR t)

def objRs : (rs : List RTy) → Res rs → Nat → List (Nat × HObj)
  | [], _, _ => []
  | t :: ts, x, i => objR t x.1 i ++ objRs ts x.2 (i + cntR t)

def resAV : List AV → AV
  | [a] => a
  | vs => .tup vs

def setAll (H : Heap) : List (Nat × HObj) → Heap
  | [] => H
  | (i, o) :: l => setAll (upd H i (some o)) l

def freshAll (H : Heap) : List (Nat × HObj) → Bool
  | [] => true
  | (i, o) :: l => (H i).isNone && freshAll (upd H i (some o)) l

def rowsOf : List OwnR → Nat → List (Nat × HObj)
  | [], _ => []
  | o :: os, i => (i, .row o.te o.e 0 o.xs) :: rowsOf os (i + 1)

/-- What was known stays known; and no more memory stays than what stayed, or is new. -/
structure Carry (B : Nat) (μ : Mu) (S : Stable) (H : Heap) (μ' : Mu) (S' : Stable) (H' : Heap) : Prop where
  vr : ∀ a v, VR μ S H a v → VR μ' S' H' a v
  st : ∀ b, S' b ≠ none → S b ≠ none ∨ B ≤ b
  sub : ∀ b o, S b = some o → S' b = some o

section
variable [Glob] {P : Program} {w w' w0 : World} {μ μ' : Mu} {S S' : Stable} {H Hh H' : Heap} {B : Nat}

omit [Glob] in
theorem Carry.of (h : Ext μ S H μ' S H') : Carry B μ S H μ' S H' := ⟨fun a v => VR_mono h a v, fun _ h => .inl h, fun _ _ h => h⟩
omit [Glob] in
theorem Carry.refl : Carry B μ S H μ S H := ⟨fun _ _ h => h, fun _ h => .inl h, fun _ _ h => h⟩
omit [Glob] in
theorem Carry.trans {μ'' : Mu} {S'' : Stable} {H'' : Heap} (h : Carry B μ S H μ' S' H') (k : Carry B μ' S' H' μ'' S'' H'') : Carry B μ S H μ'' S'' H'' :=
  ⟨fun a v x => k.vr a v (h.vr a v x), fun b hb => (k.st b hb).elim (fun x => h.st b x) .inr, fun b o x => k.sub b o (h.sub b o x)⟩
omit [Glob] in
theorem Carry.list (h : Carry B μ S H μ' S' H') : ∀ {as : List AV} {vs : List Value}, VRs μ S H as vs → VRs μ' S' H' as vs
  | [], vs, hr => by simp only [VRs] at hr ⊢; exact hr
  | a :: as, vs, hr => by
    simp only [VRs] at hr ⊢
    obtain ⟨v, r, h1, h2, h3⟩ := hr
    exact ⟨v, r, h1, h.vr a v h2, Carry.list h h3⟩

omit [Glob] in
theorem rowsOf_append : ∀ (o p : List OwnR) (i : Nat), rowsOf (o ++ p) i = rowsOf o i ++ rowsOf p (i + o.length)
  | [], p, i => by simp [rowsOf]
  | a :: o, p, i => by simp [rowsOf, rowsOf_append o p (i + 1), Nat.add_comm, Nat.add_left_comm]

omit [Glob] in
theorem encR_VRs : ∀ (t : RTy) (x : t.T) (cs : List Value) (os : List OwnR) (i : Nat), RdR S t x cs os →
    cntR t = os.length ∧ objR t x i = rowsOf os i ∧
    ((∀ (j : Nat) (o : OwnR), os[j]? = some o → μ (i + j) = some o.loc ∧ H (i + j) = some (.row o.te o.e 0 o.xs)) → VRs μ S H (encR t x i) cs)
  | .val t, x, cs, os, i, h => by
    obtain ⟨h1, rfl⟩ := h
    exact ⟨rfl, rfl, fun _ => enc_VRs t x cs h1⟩
  | .own te e, xs, cs, os, i, h => by
    obtain ⟨l, rfl, rfl⟩ := h
    refine ⟨rfl, rfl, fun hj => ?_⟩
    obtain ⟨h1, h2⟩ := hj 0 _ rfl
    simp only [Nat.add_zero] at h1 h2
    simp only [encR, VRs, VR]
    refine ⟨_, [], rfl, ⟨⟨_, _, _, rfl⟩, l, h1, fun t1 e1 g1 xs1 hH => ?_⟩, rfl⟩
    rw [h2] at hH
    injection hH with hH
    injection hH with k1 k2 k3 k4
    subst k2 k3
    cases k4
    exact ⟨Nat.le_refl _, fun _ => rfl⟩
  | .pair a b, x, cs, os, i, h => by
    obtain ⟨c, d, o, p, rfl, rfl, h1, h2⟩ := h
    obtain ⟨a1, a2, a3⟩ := encR_VRs a x.1 c o i h1
    obtain ⟨b1, b2, b3⟩ := encR_VRs b x.2 d p (i + cntR a) h2
    refine ⟨by simp [cntR, a1, b1], by rw [objR, a2, b2, rowsOf_append, a1], fun hj => ?_⟩
    refine VRs_append (a3 fun j q hq => hj j q ?_) (b3 fun j q hq => ?_)
    · rw [List.getElem?_append_left (by
        rcases Nat.lt_or_ge j o.length with h | h
        · exact h
        · rw [List.getElem?_eq_none h] at hq; simp at hq)]; exact hq
    · have := hj (o.length + j) q (by rw [List.getElem?_append_right (by omega)]; simpa using hq)
      rw [a1, Nat.add_assoc]; exact this
  | .one a, x, cs, os, i, h => encR_VRs a x cs os i h

omit [Glob] in
theorem encRV_VR {t : RTy} {x : t.T} {v : Value} {os : List OwnR} {i : Nat} (h : RdRV S t x v os) :
    cntR t = os.length ∧ objR t x i = rowsOf os i ∧
    ((∀ (j : Nat) (o : OwnR), os[j]? = some o → μ (i + j) = some o.loc ∧ H (i + j) = some (.row o.te o.e 0 o.xs)) → VR μ S H (encRV t x i) v) := by
  unfold RdRV at h
  unfold encRV
  cases ha : t.isAgg with
  | true =>
    rw [ha, if_pos rfl] at h
    obtain ⟨cs, rfl, h⟩ := h
    obtain ⟨h1, h2, h3⟩ := encR_VRs (μ := μ) (H := H) t x _ os i h
    exact ⟨h1, h2, fun hj => by simp only [cond_true, VR]; exact ⟨cs, rfl, h3 hj⟩⟩
  | false =>
    rw [ha, if_neg (by simp)] at h
    obtain ⟨h1, h2, h3⟩ := encR_VRs (μ := μ) (H := H) t x _ os i h
    refine ⟨h1, h2, fun hj => ?_⟩
    have := h3 hj
    simp only [cond_false]
    have hl := VRs_length this
    match he : encR t x i, this, hl with
    | [a], this, _ => simp only [VRs] at this; obtain ⟨_, _, e, k, _⟩ := this; cases e; exact k
    | [], _, hl => simp at hl
    | _ :: _ :: _, _, hl => simp at hl

omit [Glob] in
theorem encRs_VRs : ∀ (rs : List RTy) (y : Res rs) (us : List Value) (os : List OwnR) (i : Nat), RdRs S rs y us os →
    objRs rs y i = rowsOf os i ∧
    ((∀ (j : Nat) (o : OwnR), os[j]? = some o → μ (i + j) = some o.loc ∧ H (i + j) = some (.row o.te o.e 0 o.xs)) → VRs μ S H (encRs rs y i) us)
  | [], y, us, os, i, h => by obtain ⟨rfl, rfl⟩ := h; exact ⟨rfl, fun _ => by simp [encRs, VRs]⟩
  | t :: ts, y, us, os, i, h => by
    obtain ⟨v, r, o, p, rfl, rfl, h1, h2⟩ := h
    obtain ⟨a1, a2, a3⟩ := encRV_VR (μ := μ) (H := H) (i := i) h1
    obtain ⟨b2, b3⟩ := encRs_VRs ts y.2 r p (i + cntR t) h2
    refine ⟨by rw [objRs, a2, b2, rowsOf_append, a1], fun hj => ?_⟩
    simp only [encRs, VRs]
    refine ⟨v, r, rfl, a3 fun j q hq => hj j q ?_, b3 fun j q hq => ?_⟩
    · rw [List.getElem?_append_left (by
        rcases Nat.lt_or_ge j o.length with h | h
        · exact h
        · rw [List.getElem?_eq_none h] at hq; simp at hq)]; exact hq
    · have := hj (o.length + j) q (by rw [List.getElem?_append_right (by omega)]; simpa using hq)
      rw [a1, Nat.add_assoc]; exact this

omit [Glob] in
theorem resAV_VR : ∀ {as : List AV} {vs : List Value}, VRs μ S H as vs → VR μ S H (resAV as) (resVal vs)
  | [], vs, h => by simp only [VRs] at h; subst h; simp only [resAV, resVal, VR]; exact ⟨_, rfl, by simp [VRs]⟩
  | [a], vs, h => by
    simp only [VRs] at h
    obtain ⟨v, r, rfl, h1, rfl⟩ := h
    exact h1
  | a :: b :: as, vs, h => by
    have h' := h
    simp only [VRs] at h
    obtain ⟨v, r, rfl, h1, u, r', rfl, h2, h3⟩ := h
    simp only [resAV, resVal, VR]
    exact ⟨_, rfl, by simpa using h'⟩

/-- A world that has grown, and a memory that stays, with more in it. -/
theorem Rel.grow (R : Rel μ S H B w0 w) (hb : Below w.heap.size w w') (h1 : ∀ b o, S b = some o → S' b = some o) (h2 : ∀ b o, S' b = some o → w'.heap[b]? = some o)
    (h3 : ∀ b, S' b ≠ none → S b ≠ none ∨ w.heap.size ≤ b) : Rel μ S' H B w0 w' ∧ Ext μ S H μ S' H := by
  have E : Ext μ S H μ S' H := ⟨fun _ _ h => .inl h, h1, fun _ t _ g xs _ h => ⟨t, g, xs, h, Nat.le_refl _, fun _ => rfl⟩⟩
  refine ⟨⟨R.below.trans (hb.mono R.size), Nat.le_trans R.size hb.size, h2, R.dom, fun i o ho => ?_, R.sep, Glob.mono _ _ h1 R.pre⟩, E⟩
  obtain ⟨l, k1, k2⟩ := R.obj i o ho
  refine ⟨l, k1, ObjR_mono E (fun b hb' => hb.block b (R.lt k1 hb')) (fun b hb' => ?_) k2⟩
  cases hs : S' b with
  | none => rfl
  | some o' =>
    rcases h3 b (by rw [hs]; simp) with h | h
    · exact absurd (R.ge k1 hb').2 h
    · have := R.lt k1 hb'; omega

/-- One object more, that lies there already. -/
theorem Rel.add (R : Rel μ S H B w0 w) {i : Nat} (hi : H i = none) (ho : HObj) (l : Lc) (hsep : ∀ j lj b, μ j = some lj → l.blk = some b → lj.blk ≠ some b)
    (hO : ObjR (upd μ i (some l)) S (upd H i (some ho)) w B l ho) :
    Rel (upd μ i (some l)) S (upd H i (some ho)) B w0 w ∧ Ext μ S H (upd μ i (some l)) S (upd H i (some ho)) := by
  have hm : μ i = none := by
    have := R.dom i; rw [hi] at this
    cases h : μ i with
    | none => rfl
    | some _ => rw [h] at this; simp at this
  have E : Ext μ S H (upd μ i (some l)) S (upd H i (some ho)) := Ext.new hm
  refine ⟨⟨R.below, R.size, R.st, fun j => ?_, fun j o' hj => ?_, ?_, R.pre⟩, E⟩
  · by_cases e : j = i
    · subst e; rw [upd_same, upd_same]; rfl
    · rw [upd_ne _ _ e, upd_ne _ _ e]; exact R.dom j
  · by_cases e : j = i
    · subst e; rw [upd_same] at hj; cases hj; exact ⟨l, upd_same _ _ _, hO⟩
    · rw [upd_ne _ _ e] at hj
      obtain ⟨l', h1, h2⟩ := R.obj j o' hj
      exact ⟨l', by rw [upd_ne _ _ e]; exact h1, ObjR_mono E (fun _ _ => rfl) (fun b hb => (R.ge h1 hb).2) h2⟩
  · intro j k lj lk b hjk hj hk hb
    by_cases e : j = i
    · subst e
      rw [upd_same] at hj; cases hj
      rw [upd_ne _ _ (Ne.symm hjk)] at hk
      exact hsep k lk b hk hb
    · rw [upd_ne _ _ e] at hj
      by_cases e2 : k = i
      · subst e2
        rw [upd_same] at hk; cases hk
        intro hb'
        exact hsep j lj b hj hb' hb
      · rw [upd_ne _ _ e2] at hk
        exact R.sep j k lj lk b hjk hj hk hb

theorem Rel.addAll : ∀ (os : List OwnR) (i : Nat) (μ : Mu) (H : Heap), Rel μ S H B w0 w → freshAll H (rowsOf os i) = true → (∀ o ∈ os, OwnOK S w B o) → os.Pairwise ApartR →
    (∀ o ∈ os, ∀ j lj b, μ j = some lj → o.loc.blk = some b → lj.blk ≠ some b) →
    ∃ μ', Rel μ' S (setAll H (rowsOf os i)) B w0 w ∧ Carry B μ S H μ' S (setAll H (rowsOf os i)) ∧
      (∀ k l, μ k = some l → μ' k = some l) ∧ (∀ k o, H k = some o → setAll H (rowsOf os i) k = some o) ∧
      (∀ (j : Nat) (o : OwnR), os[j]? = some o → μ' (i + j) = some o.loc ∧ setAll H (rowsOf os i) (i + j) = some (.row o.te o.e 0 o.xs))
  | [], i, μ, H, R, _, _, _, _ => ⟨μ, R, Carry.refl, fun _ _ h => h, fun _ _ h => h, fun j o hj => by simp at hj⟩
  | o :: os, i, μ, H, R, hf, hO, hA, hsep => by
    simp only [rowsOf, freshAll, Bool.and_eq_true, Option.isNone_iff_eq_none] at hf
    obtain ⟨hi, hf⟩ := hf
    have hO0 := hO o (by simp)
    obtain ⟨R1, E1⟩ := R.add hi (.row o.te o.e 0 o.xs) o.loc (hsep o (by simp)) hO0
    have hm : μ i = none := by
      have := R.dom i; rw [hi] at this
      cases h : μ i with
      | none => rfl
      | some _ => rw [h] at this; simp at this
    have hA' := List.pairwise_cons.1 hA
    obtain ⟨μ', R2, C2, M2, H2, G2⟩ := Rel.addAll os (i + 1) _ _ R1 hf (fun p hp => hO p (by simp [hp])) hA'.2 (fun p hp j lj b hj hb => by
      by_cases e : j = i
      · subst e; rw [upd_same] at hj; cases hj
        intro hb'
        exact hA'.1 p hp b hb' hb
      · rw [upd_ne _ _ e] at hj
        exact hsep p (by simp [hp]) j lj b hj hb)
    refine ⟨μ', R2, (Carry.of E1).trans C2, fun k l hk => M2 k l ?_, fun k o' hk => H2 k o' ?_, fun j p hj => ?_⟩
    · rw [upd_ne _ _ (fun e => by subst e; rw [hm] at hk; simp at hk)]; exact hk
    · rw [upd_ne _ _ (fun e => by subst e; rw [hi] at hk; simp at hk)]; exact hk
    · cases j with
      | zero =>
        simp at hj; subst hj
        exact ⟨M2 i _ (upd_same _ _ _), H2 i _ (upd_same _ _ _)⟩
      | succ j =>
        simp at hj
        have := G2 j p hj
        rw [show i + 1 + j = i + (j + 1) from by omega] at this
        exact this

omit [Glob] in
/-- no slice inside: the memory that stays does not matter -/
theorem Rd_flat : ∀ (t : Ty) (x : t.T) (cs : List Value), t.flat = true → Rd S t x cs → Rd S' t x cs
  | .int _, _, _, _, h => h
  | .bool, _, _, _, h => h
  | .str, _, _, _, h => h
  | .row e, _, _, hf, _ => by simp [Ty.flat] at hf
  | .pair a b, x, cs, hf, h => by
    simp only [Ty.flat, Bool.and_eq_true] at hf
    obtain ⟨c, d, h1, h2, h3⟩ := h
    exact ⟨c, d, h1, Rd_flat a _ _ hf.1 h2, Rd_flat b _ _ hf.2 h3⟩
  | .one a, x, cs, hf, h => Rd_flat a x cs hf h
  | .fnc _, _, _, _, h => h

omit [Glob] in
theorem RdR_flat : ∀ (t : RTy) (x : t.T) (cs : List Value) (os : List OwnR), t.flat = true → RdR S t x cs os → RdR S' t x cs os ∧ ∀ o ∈ os, o.e.flat = true
  | .val t, x, cs, os, hf, h => ⟨⟨Rd_flat t x cs hf h.1, h.2⟩, by rw [h.2]; simp⟩
  | .own te e, xs, cs, os, hf, h => ⟨h, by obtain ⟨l, _, rfl⟩ := h; simpa [RTy.flat] using hf⟩
  | .pair a b, x, cs, os, hf, h => by
    simp only [RTy.flat, Bool.and_eq_true] at hf
    obtain ⟨c, d, o, p, h1, h2, h3, h4⟩ := h
    obtain ⟨a1, a2⟩ := RdR_flat a _ _ _ hf.1 h3
    obtain ⟨b1, b2⟩ := RdR_flat b _ _ _ hf.2 h4
    exact ⟨⟨c, d, o, p, h1, h2, a1, b1⟩, by rw [h2]; intro q hq; rcases List.mem_append.1 hq with h | h; exact a2 q h; exact b2 q h⟩
  | .one a, x, cs, os, hf, h => RdR_flat a x cs os hf h

omit [Glob] in
theorem RdRs_flat : ∀ (rs : List RTy) (y : Res rs) (us : List Value) (os : List OwnR), flats rs = true → RdRs S rs y us os → RdRs S' rs y us os ∧ ∀ o ∈ os, o.e.flat = true
  | [], y, us, os, _, h => ⟨h, by rw [h.2]; simp⟩
  | t :: ts, y, us, os, hf, h => by
    simp only [flats, Bool.and_eq_true] at hf
    obtain ⟨v, r, o, p, h1, h2, h3, h4⟩ := h
    obtain ⟨b1, b2⟩ := RdRs_flat ts _ _ _ hf.2 h4
    have : RdRV S' t y.1 v o ∧ ∀ q ∈ o, q.e.flat = true := by
      unfold RdRV at h3 ⊢
      split at h3
      · rename_i ha
        obtain ⟨cs, k1, k2⟩ := h3
        obtain ⟨m1, m2⟩ := RdR_flat t _ _ _ hf.1 k2
        exact ⟨by rw [if_pos ha]; exact ⟨cs, k1, m1⟩, m2⟩
      · rename_i ha
        obtain ⟨m1, m2⟩ := RdR_flat t _ _ _ hf.1 h3
        exact ⟨by rw [if_neg ha]; exact m1, m2⟩
    exact ⟨⟨v, r, o, p, h1, h2, this.1, b1⟩, by rw [h2]; intro q hq; rcases List.mem_append.1 hq with h | h; exact this.2 q h; exact b2 q h⟩

def readHeap (c : Con) (H : Heap) : Heap := cond (flats c.rs) H (fun _ => none)

/-- A call by its contract. -/
theorem call_con {k : FuncId} {c : Con} (hc : c.OK P k) (sub : ∀ i o, Hh i = some o → H i = some o) (R : Rel μ S H B w0 w) {as : List AV} {us : Array Value} (hv : VRs μ S H as us.toList)
    {x : Args c.ps} {y : Res c.rs} (hd : decArgs (readHeap c Hh) c.ps as = some x) (hf : c.f x = some y) {id : Nat} (hfr : freshAll H (objRs c.rs y id) = true) :
    Calls P k us w fun e w' => ∃ v μ' S', e = .returned v ∧ VR μ' S' (setAll H (objRs c.rs y id)) (resAV (encRs c.rs y id)) v ∧
      Rel μ' S' (setAll H (objRs c.rs y id)) B w0 w' ∧ Carry B μ S H μ' S' (setAll H (objRs c.rs y id)) := by
  cases hfl : flats c.rs with
  | true =>
    have hd' : decArgs Hh c.ps as = some x := by unfold readHeap at hd; rw [hfl] at hd; exact hd
    have ha := decArgs_Rd (S' := allS w) (fun b o h => R.st b o h) (fun i t e g xs l h hm => row_Rd R (sub _ _ h) hm) sub hv hd'
    have := hc x y hf (allS w) w us.toList (fun b o h => h) (Glob.mono _ _ R.st R.pre) ha
    rw [Array.toArray_toList] at this
    refine this.mono ?_
    rintro e w' ⟨vs, S', os, rfl, hb, h1, h2, h3, h4, h5, h6⟩
    obtain ⟨R1, E1⟩ := R.grow (S' := S) hb (fun _ _ h => h) (fun b o h => by rw [hb.block b (R.st_lt h)]; exact R.st b o h) (fun b h => .inl h)
    obtain ⟨f1, f2⟩ := RdRs_flat (S' := S) c.rs y vs os hfl h4
    obtain ⟨e1, e2⟩ := encRs_VRs (μ := μ) (H := H) c.rs y vs os id f1
    rw [e1] at hfr ⊢
    have hO : ∀ o ∈ os, OwnOK S w' B o := by
      intro o ho
      obtain ⟨k1, k2⟩ := h5 o ho
      refine ⟨k1, ?_⟩
      rcases k2 with k2 | ⟨b, cs, q1, q2, q3, q4, q5, q6⟩
      · exact .inl k2
      · refine .inr ⟨b, cs, q1, Nat.le_trans R.size q2, ?_, q4, q5, fun j z hj => ?_⟩
        · cases hs : S b with
          | none => rfl
          | some o' => have := R.st_lt hs; omega
        · obtain ⟨d, m1, m2⟩ := q6 j z hj
          exact ⟨d, Rd_flat _ _ _ (f2 o ho) m1, m2⟩
    obtain ⟨μ', R2, C2, M2, H2, G2⟩ := Rel.addAll os id μ H R1 hfr hO h6 (fun o ho j lj b hj hb' hb2 => by
      obtain ⟨_, k2⟩ := h5 o ho
      rcases k2 with k2 | ⟨b', _, q1, q2, _⟩
      · rw [k2.1] at hb'; simp at hb'
      · rw [q1] at hb'; cases hb'
        have := R.lt hj hb2; omega)
    obtain ⟨_, e3⟩ := encRs_VRs (μ := μ') (H := setAll H (rowsOf os id)) c.rs y vs os id f1
    exact ⟨_, μ', S, rfl, resAV_VR (e3 G2), R2, (Carry.of E1).trans C2⟩
  | false =>
    have hd' : decArgs (fun _ => none) c.ps as = some x := by unfold readHeap at hd; rw [hfl] at hd; exact hd
    have ha := decArgs_Rd (S' := S) (H := H) (Hh := fun _ => none) (fun b o h => h) (fun i t e g xs l h hm => by simp at h) (fun i o h => by simp at h) hv hd'
    have := hc x y hf S w us.toList R.st R.pre ha
    rw [Array.toArray_toList] at this
    refine this.mono ?_
    rintro e w' ⟨vs, S', os, rfl, hb, h1, h2, h3, h4, h5, h6⟩
    obtain ⟨R1, E1⟩ := R.grow (S' := S') hb h1 h2 h3
    obtain ⟨e1, e2⟩ := encRs_VRs (μ := μ) (H := H) c.rs y vs os id h4
    rw [e1] at hfr ⊢
    have hO : ∀ o ∈ os, OwnOK S' w' B o := by
      intro o ho
      obtain ⟨k1, k2⟩ := h5 o ho
      refine ⟨k1, ?_⟩
      rcases k2 with k2 | ⟨b, cs, q1, q2, q3, q4, q5, q6⟩
      · exact .inl k2
      · exact .inr ⟨b, cs, q1, Nat.le_trans R.size q2, q3, q4, q5, q6⟩
    obtain ⟨μ', R2, C2, M2, H2, G2⟩ := Rel.addAll os id μ H R1 hfr hO h6 (fun o ho j lj b hj hb' hb2 => by
      obtain ⟨_, k2⟩ := h5 o ho
      rcases k2 with k2 | ⟨b', _, q1, q2, _⟩
      · rw [k2.1] at hb'; simp at hb'
      · rw [q1] at hb'; cases hb'
        have := R.lt hj hb2; omega)
    obtain ⟨_, e3⟩ := encRs_VRs (μ := μ') (H := setAll H (rowsOf os id)) c.rs y vs os id h4
    exact ⟨_, μ', S', rfl, resAV_VR (e3 G2), R2, Carry.trans ⟨fun a v => VR_mono E1 a v, fun b hb => (h3 b hb).elim .inl (fun x => .inr (Nat.le_trans R.size x)), h1⟩ C2⟩
end
end Go.Sy
