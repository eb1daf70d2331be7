/- The record of a range over a function, and the mark that it leaves. -/
import Derived.Test.YtipajaocggpahaaGreatSym12
import Derived.RangeFuncRecord
namespace Go.Sy
open Go Go.RowKit
set_option linter.unusedSimpArgs false
set_option linter.unusedVariables false

/-- what the cells of one memory say, those of another one say -/
def CellsSub (S S' : Stable) : Prop := ∀ a v, cellS S a = some v → cellS S' a = some v

theorem Rd_cells {S S' : Stable} (h : CellsSub S S') : ∀ (t : Ty) (x : t.T) (cs : List Value), Rd S t x cs → Rd S' t x cs
  | .int _, _, _, hr => hr
  | .bool, _, _, hr => hr
  | .str, _, _, hr => hr
  | .row e, xs, cs, hr => by
    obtain ⟨a, cap, h1, h2, h3⟩ := hr
    refine ⟨a, cap, h1, h2, fun j x hj => ?_⟩
    obtain ⟨ad, c, e1, e2, e3⟩ := h3 j x hj
    exact ⟨ad, c, e1, Rd_cells h e x c e2, fun m v hv => h _ _ (e3 m v hv)⟩
  | .pair a b, x, cs, hr => by
    obtain ⟨c, d, h1, h2, h3⟩ := hr
    exact ⟨c, d, h1, Rd_cells h a _ _ h2, Rd_cells h b _ _ h3⟩
  | .one a, x, cs, hr => Rd_cells h a x cs hr
  | .fnc _, _, _, hr => hr

section
variable {μ : Mu} {S S' : Stable} {H : Heap}
mutual
theorem VR_cells (h : CellsSub S S') : ∀ (a : AV) (v : Value), VR μ S H a v → VR μ S' H a v
  | .lit _, v, hr => by simp only [VR] at hr ⊢; exact hr
  | .ptr i off, v, hr => by simp only [VR] at hr ⊢; exact hr
  | .elc e x off, v, hr => by
    simp only [VR] at hr ⊢
    obtain ⟨ad, c, h1, h2, h3⟩ := hr
    exact ⟨ad, c, Rd_cells h _ _ _ h1, fun m u hm => h _ _ (h2 m u hm), h3⟩
  | .elp i g k off, v, hr => by simp only [VR] at hr ⊢; exact hr
  | .cont e xs, v, hr => by simp only [VR] at hr ⊢; exact Rd_cells h (.row e) xs [v] hr
  | .sl i g, v, hr => by simp only [VR] at hr ⊢; exact hr
  | .sub i g lo hi, v, hr => by simp only [VR] at hr ⊢; exact hr
  | .bsl i n, v, hr => by simp only [VR] at hr ⊢; exact hr
  | .yld i, v, hr => by simp only [VR] at hr ⊢; exact hr
  | .mp i, v, hr => by simp only [VR] at hr ⊢; exact hr
  | .fn f fi ca, v, hr => by
    simp only [VR] at hr ⊢
    obtain ⟨x, y, h1, h2, h3⟩ := hr
    exact ⟨x, y, h1, VRs_cells h fi _ h2, VRs_cells h ca _ h3⟩
  | .agg cs, v, hr => by
    simp only [VR] at hr ⊢
    obtain ⟨x, h1, h2⟩ := hr
    exact ⟨x, h1, VRs_cells h cs _ h2⟩
  | .tup cs, v, hr => by
    simp only [VR] at hr ⊢
    obtain ⟨x, h1, h2⟩ := hr
    exact ⟨x, h1, VRs_cells h cs _ h2⟩
  | .junk, _, _ => by simp only [VR]
theorem VRs_cells (h : CellsSub S S') : ∀ (as : List AV) (vs : List Value), VRs μ S H as vs → VRs μ S' H as vs
  | [], vs, hr => by simp only [VRs] at hr ⊢; exact hr
  | a :: as, vs, hr => by
    simp only [VRs] at hr ⊢
    obtain ⟨v, r, h1, h2, h3⟩ := hr
    exact ⟨v, r, h1, VR_cells h a v h2, VRs_cells h as r h3⟩
end
end

section
variable [Glob] {P : Program} {w w' w0 : World} {μ μ' μo : Mu} {S S' So N : Stable} {H H' Ho : Heap} {B : Nat}

/-- memory that stays, one block less -/
def cutS (S : Stable) (D : Nat) : Stable := fun b => cond (Nat.beq b D) none (S b)

omit [Glob] in
theorem cutS_ne {S : Stable} {D b : Nat} (h : b ≠ D) : cutS S D b = S b := by
  unfold cutS
  cases hb : Nat.beq b D with
  | true => exact absurd (Nat.eq_of_beq_eq_true hb) h
  | false => rfl
omit [Glob] in
theorem cutS_same {S : Stable} {D : Nat} : cutS S D D = none := by simp [cutS]

omit [Glob] in
theorem cutS_cells {S : Stable} {D : Nat} {x : Option (List Deferred)} (h : S D = some (.deferred x)) : CellsSub S (cutS S D) := by
  intro a v hv
  unfold cellS at hv ⊢
  by_cases e : a.block = D
  · rw [e, h] at hv; simp at hv
  · rw [cutS_ne e]; exact hv

/-- the mark's block is taken: nothing else is known less -/
theorem Rel.take (R : Rel μ S H B w0 w) {D : Nat} (hD : S D = some (.deferred (some []))) (hB : B ≤ D) (hN : ∀ b o, N b = some o → S b = some o) (hND : N D = none) (hp : Glob.pre N) :
    Rel μ (cutS S D) H B w0 (w.putObj D (.deferred none)) := by
  have hlt := R.st_lt hD
  have hsub : ∀ b o, N b = some o → cutS S D b = some o := fun b o h => by
    have : b ≠ D := fun e => by subst e; rw [hND] at h; simp at h
    rw [cutS_ne this]; exact hN b o h
  have hbl : Below B w (w.putObj D (.deferred none)) := below_put hB _
  refine ⟨R.below.trans hbl, by simpa using R.size, fun b o h => ?_, R.dom, fun i o hi => ?_, R.sep, Glob.mono _ _ hsub hp⟩
  · have : b ≠ D := fun e => by subst e; rw [cutS_same] at h; simp at h
    rw [cutS_ne this] at h
    rw [World.putObj_heap_other this]; exact R.st b o h
  · obtain ⟨l, h1, h2⟩ := R.obj i o hi
    refine ⟨l, h1, ?_⟩
    have hne : ∀ b, l.blk = some b → b ≠ D := fun b hb e => by
      have := (R.ge h1 hb).2
      rw [e, hD] at this; simp at this
    have hc := cutS_cells hD
    cases o with
    | box t cells =>
      obtain ⟨b, cs, q1, q2, q3, q4, q5⟩ := h2
      exact ⟨b, cs, q1, q2, by rw [cutS_ne (hne b q1)]; exact q3, by rw [World.putObj_heap_other (hne b q1)]; exact q4, VRs_cells hc _ _ q5⟩
    | siter s pos =>
      obtain ⟨b, q1, q2, q3, q4⟩ := h2
      exact ⟨b, q1, q2, by rw [cutS_ne (hne b q1)]; exact q3, by rw [World.putObj_heap_other (hne b q1)]; exact q4⟩
    | map es =>
      obtain ⟨b, q1, q2, q3, q4⟩ := h2
      exact ⟨b, q1, q2, by rw [cutS_ne (hne b q1)]; exact q3, by rw [World.putObj_heap_other (hne b q1)]; exact q4⟩
    | loop k r st ts =>
      obtain ⟨b, fn, ss, pe, vs, ps, asn, body, df, q1, q2, q3, q4, q5, q6, q7⟩ := h2
      exact ⟨b, fn, ss, pe, vs, ps, asn, body, df, q1, q2, by rw [cutS_ne (hne b q1)]; exact q3, q4, q5, by rw [World.putObj_heap_other (hne b q1)]; exact q6, VRs_cells hc _ _ q7⟩
    | row t e g xs =>
      obtain ⟨q0, q1⟩ := h2
      refine ⟨q0, ?_⟩
      rcases q1 with q1 | ⟨b, cs, a1, a2, a3, a4, a5, a6⟩
      · exact .inl q1
      · exact .inr ⟨b, cs, a1, a2, by rw [cutS_ne (hne b a1)]; exact a3, by rw [World.putObj_heap_other (hne b a1)]; exact a4, a5, fun j x hj => by
          obtain ⟨c, k1, k2⟩ := a6 j x hj
          exact ⟨c, Rd_cells hc _ _ _ k1, k2⟩⟩

/-- memory that stays, one block more -/
def addS (S : Stable) (D : Nat) (o : Obj) : Stable := fun b => cond (Nat.beq b D) (some o) (S b)

omit [Glob] in
theorem addS_ne {S : Stable} {D b : Nat} {o : Obj} (h : b ≠ D) : addS S D o b = S b := by
  unfold addS
  cases hb : Nat.beq b D with
  | true => exact absurd (Nat.eq_of_beq_eq_true hb) h
  | false => rfl
omit [Glob] in
theorem addS_same {S : Stable} {D : Nat} {o : Obj} : addS S D o D = some o := by simp [addS]

/-- a block is laid that stays -/
theorem Rel.mark (R : Rel μ S H B w0 w) (o : Obj) : Rel μ (addS S w.heap.size o) H B w0 (w.alloc o) ∧ Carry B μ S H μ (addS S w.heap.size o) H := by
  have hsub : ∀ b o', S b = some o' → addS S w.heap.size o b = some o' := fun b o' h => by
    rw [addS_ne (by have := R.st_lt h; omega)]; exact h
  have E : Ext μ S H μ (addS S w.heap.size o) H := ⟨fun _ _ h => .inl h, hsub, fun _ t _ g xs _ h => ⟨t, g, xs, h, Nat.le_refl _, fun _ => rfl⟩⟩
  refine ⟨⟨R.below.alloc R.size o, by have := R.size; simp; omega, fun b o' h => ?_, R.dom, fun i o' hi => ?_, R.sep, Glob.mono _ _ hsub R.pre⟩, fun a v h => VR_mono E a v h, fun b hb => ?_, hsub⟩
  · by_cases e : b = w.heap.size
    · subst e; rw [addS_same] at h; cases h; exact alloc_heap_new w o
    · rw [addS_ne e] at h
      rw [alloc_heap_lt w o (R.st_lt h)]; exact R.st b o' h
  · obtain ⟨l, h1, h2⟩ := R.obj i o' hi
    exact ⟨l, h1, ObjR_mono E (fun b hb => alloc_heap_lt w o (R.lt h1 hb)) (fun b hb => by
      have := R.lt h1 hb
      rw [addS_ne (by omega)]; exact (R.ge h1 hb).2) h2⟩
  · by_cases e : b = w.heap.size
    · subst e; exact .inr R.size
    · rw [addS_ne e] at hb; exact .inl hb

omit [Glob] in
theorem Ext.loop {i k r : Nat} {st : LSt} {ts : List AV} : Ext μ S H μ S (upd H i (some (.loop k r st ts))) := by
  refine ⟨fun _ _ h => .inl h, fun _ _ h => h, fun j t0 e g xs _ hH => ?_⟩
  by_cases ej : j = i
  · subst ej; rw [upd_same] at hH; simp at hH
  · rw [upd_ne _ _ ej] at hH; exact ⟨t0, g, xs, hH, Nat.le_refl _, fun _ => rfl⟩

/-- the record's block, and what it holds -/
theorem Rel.loop (R : Rel μ S H B w0 w) {i k r b : Nat} {cp : Nat} {st : LSt} {ts : List AV} (h : H i = some (.loop k r st ts)) (hm : μ i = some ⟨some b, cp⟩) :
    ∃ L : Loop, w.heap[b]? = some (.loop L) ∧ Glob.rng k r = some (L.params, L.assign, L.body) ∧ st.Is L.state L.pending ∧ VRs μ S H ts L.tmps.toList := by
  obtain ⟨l, h1, h2⟩ := R.obj i _ h
  rw [hm] at h1; cases h1
  obtain ⟨b', fn, ss, pe, vs, ps, asn, body, df, q1, q2, q3, q4, q5, q6, q7⟩ := h2
  cases q1
  exact ⟨⟨ss, pe, fn, vs, ps, asn, body, df⟩, q6, q4, q5, q7⟩

/-- the record is turned -/
theorem Rel.setLoop (R : Rel μ S H B w0 w) {i k r b : Nat} {cp : Nat} {st st' : LSt} {ts : List AV} (h : H i = some (.loop k r st ts)) (hm : μ i = some ⟨some b, cp⟩) {L L' : Loop}
    (hL : w.heap[b]? = some (.loop L)) (hc : L'.params = L.params ∧ L'.assign = L.assign ∧ L'.body = L.body ∧ L'.tmps = L.tmps) (hst : st'.Is L'.state L'.pending) :
    Rel μ S (upd H i (some (.loop k r st' ts))) B w0 (w.putObj b (.loop L')) ∧ Ext μ S H μ S (upd H i (some (.loop k r st' ts))) := by
  obtain ⟨l, h1, h2⟩ := R.obj i _ h
  rw [hm] at h1; cases h1
  obtain ⟨b', fn, ss, pe, vs, ps, asn, body, df, q1, q2, q3, q4, q5, q6, q7⟩ := h2
  cases q1
  rw [hL] at q6; cases q6
  obtain ⟨c1, c2, c3, c4⟩ := hc
  obtain ⟨ss', pe', fn', vs', ps', asn', body', df'⟩ := L'
  simp only at c1 c2 c3 c4 hst
  subst c1 c2 c3 c4
  have E : Ext μ S H μ S (upd H i (some (.loop k r st' ts))) := Ext.loop
  refine ⟨R.wr hm rfl _ (below_put (Nat.le_refl _) _) (by simp) (fun k hk => World.putObj_heap_other hk) E ?_, E⟩
  exact ⟨b, fn', ss', pe', _, _, _, _, df', rfl, q2, q3, q4, hst, World.putObj_heap_same (R.lt hm rfl), VRs_mono E _ _ q7⟩

/-- leaving with marks -/
theorem leaves_marks {F : Fence} {fn : Func} {tmps : Array Value} {Rs : Ending → World → Prop} (hN : Glob.pre N) : ∀ (ms : List Nat) (S : Stable) (w : World), Rel μ S H B w0 w → Mark S N ms → (∀ b o, N b = some o → S b = some o) → (∀ D ∈ ms, B ≤ D) →
    (∀ (S' : Stable) (w' : World), Rel μ S' H B w0 w' → CellsSub S S' → (∀ b o, N b = some o → S' b = some o) → (∀ b, S' b ≠ none → S b ≠ none) → ∃ v, (results fn tmps).run P w' = .ok v w' ∧ Rs (.returned v) w') →
    LeavesInM F 0 P fn tmps Rs (ms.map fun D => ⟨.collected D, #[]⟩) .returning w
  | [], S, w, R, hm, hsub, hB, hK => hK S w R (fun _ _ h => h) hsub (fun _ h => h)
  | D :: ms, S, w, R, hm, hsub, hB, hK => by
    obtain ⟨hnd, hms⟩ := hm
    obtain ⟨hND, hSD⟩ := hms D (by simp)
    have hw := R.st _ _ hSD
    refine ⟨by simp, .inl ⟨D, _, rfl, run_takeDeferred hw, ?_⟩⟩
    have R1 := R.take hSD (hB D (by simp)) hsub hND hN
    have hnd' := List.nodup_cons.1 hnd
    refine leaves_marks hN ms _ _ R1 ⟨hnd'.2, fun D' hD' => ⟨(hms D' (by simp [hD'])).1, ?_⟩⟩ (fun b o h => ?_) (fun D' hD' => hB D' (by simp [hD'])) (fun S' w' R' hc h1 h2 => ?_)
    · rw [cutS_ne (fun e => by subst e; exact hnd'.1 hD')]; exact (hms D' (by simp [hD'])).2
    · rw [cutS_ne (fun e => by subst e; rw [hND] at h; simp at h)]; exact hsub b o h
    · refine hK S' w' R' (fun a v h => hc _ _ (cutS_cells hSD _ _ h)) h1 (fun b hb => ?_)
      have := h2 b hb
      unfold cutS at this
      intro hn
      rw [hn] at this
      apply this
      cases Nat.beq b D <;> rfl

omit [Glob] in
theorem VRs_range {f : Nat → AV} : ∀ (vs : List Value) (k : Nat), (∀ t, t < vs.length → VR μ S H (f (k + t)) (vs.getD t undef)) → VRs μ S H ((List.range' k vs.length).map f) vs
  | [], k, h => by simp [VRs]
  | v :: vs, k, h => by
    simp only [List.length_cons, List.range'_succ, List.map_cons, VRs]
    refine ⟨v, vs, rfl, by simpa using h 0 (by simp), VRs_range vs (k + 1) fun t ht => ?_⟩
    have := h (t + 1) (by simp; omega)
    rw [show k + 1 + t = k + (t + 1) by omega]
    simpa using this

/-- arguments put into temporaries -/
def setPs : List AV → List Tmp → List AV → List AV
  | ts, p :: ps, a :: as => setPs (ts.set p a) ps as
  | ts, _, _ => ts

omit [Glob] in
theorem setPs_VRs : ∀ {ts : List AV} {vs : Array Value} {ps : List Tmp} {as : List AV} {us : List Value}, VRs μ S H ts vs.toList → VRs μ S H as us →
    VRs μ S H (setPs ts ps as) ((ps.zip us).foldl (fun tmps (t, a) => tmps.setIfInBounds t a) vs).toList
  | ts, vs, [], as, us, h, h' => by simpa [setPs] using h
  | ts, vs, p :: ps, [], us, h, h' => by
    simp only [VRs] at h'; subst h'
    simpa [setPs] using h
  | ts, vs, p :: ps, a :: as, us, h, h' => by
    simp only [VRs] at h'
    obtain ⟨v, r, rfl, h2, h3⟩ := h'
    simp only [setPs, List.zip_cons_cons, List.foldl_cons]
    refine setPs_VRs ?_ h3
    rw [Array.toList_setIfInBounds]
    exact VRs_set h p a v h2
end
end Go.Sy
