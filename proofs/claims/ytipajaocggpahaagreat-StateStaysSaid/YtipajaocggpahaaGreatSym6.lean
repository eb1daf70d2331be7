/- One operation, whichever it is. -/
import Derived.Test.YtipajaocggpahaaGreatSym5d
namespace Go.Sy
open Go Go.RowKit
set_option linter.unusedSimpArgs false
set_option linter.unusedVariables false

section
variable [Glob] {P : Program} {w w0 : World} {μ : Mu} {S : Stable} {H Hh : Heap} {B : Nat}

theorem oLen_ok (sub : ∀ i o, Hh i = some o → H i = some o) (R : Rel μ S H B w0 w) {t ty : TypeId} {x : AV} {v : Value} {out : Out} (hx : VR μ S H x v) (h : oLen P Hh t x = some out) :
    Done P w w0 μ S H B (do pure (.value (← Builtin.len_ #[t] ty #[v]))) out := by
  unfold oLen at h
  split at h
  · simp only [VR] at hx; subst hx
    split at h
    · rename_i ht; cases h
      exact doneVal R (by simp [Builtin.len_, rUnder ht, goInt]; rfl) (by simp only [Out.res, VR])
    · simp at h
  · rename_i e xs
    simp only [VR, Rd] at hx
    obtain ⟨ao, cap, e1, h2, h3⟩ := hx
    cases e1
    split at h
    · rename_i _ ht; cases h
      exact doneVal R (by simp [Builtin.len_, rUnder ht, goInt]; rfl) (by simp only [Out.res, VR])
    · simp at h
  · rename_i j g
    split at h
    · rename_i _ _ t' e g' xs ht hH
      obtain ⟨hg, rfl⟩ := cond_some h
      have hgg := Nat.eq_of_beq_eq_true hg
      simp only [VR] at hx
      obtain ⟨_, l, hm, h2⟩ := hx
      have hv := (h2 _ _ _ _ (sub _ _ hH)).2 hgg
      subst hv
      exact doneVal R (by simp [Builtin.len_, rUnder ht, goInt]; rfl) (by simp only [Out.res, VR])
    · simp at h
  · simp only [VR] at hx; subst hx
    split at h
    · rename_i _ ht; cases h
      exact doneVal R (by simp [Builtin.len_, rUnder ht, goInt]; rfl) (by simp only [Out.res, VR])
    · simp at h
  · simp at h

omit [Glob] in
theorem VRs_map {ρa : Operand → AV} {ρ : Operand → Value} (hρ : ∀ x, VR μ S H (ρa x) (ρ x)) : ∀ (l : List Operand), VRs μ S H (l.map ρa) (l.map ρ)
  | [] => by simp [VRs]
  | x :: l => by simp only [List.map_cons, VRs]; exact ⟨ρ x, _, rfl, hρ x, VRs_map hρ l⟩

/-- what a call comes to: a function entered, or a round -/
def Goes (P : Program) (μ : Mu) (w : World) : Callee → Array Value → Result Next → Prop
  | .fn k, us, r => r = .ok (.enter k us) w
  | .yld i, us, r => ∃ b c, μ i = some ⟨some b, c⟩ ∧ r = (Instr.yield b us).run P w

omit [Glob] in
theorem oCall_ok {f : AV} {fv : Value} {args : List AV} {vs : List Value} {k : Callee} {as : List AV} {ty : TypeId} (hf : VR μ S H f fv) (ha : VRs μ S H args vs)
    (h : oCall P f args = some (.call k as)) :
    ∃ us : Array Value, Goes P μ w k us ((do let d ← Deferred.ofValue fv vs.toArray; invoke d.target d.args : Sem Next).run P w) ∧ VRs μ S H as us.toList := by
  unfold oCall at h
  split at h
  · rename_i k' first caps
    split at h
    · rename_i fn hfn
      split at h
      · rename_i b hb
        cases hn : fn.name == "runtime.NumGoroutine" with
        | true => rw [hn] at h; simp at h
        | false =>
          rw [hn] at h
          simp only [cond_false, Option.some.injEq, Out.call.injEq] at h
          obtain ⟨rfl, rfl⟩ := h
          simp only [VR] at hf
          obtain ⟨x, y, rfl, h1, h2⟩ := hf
          refine ⟨x ++ vs.toArray ++ y, ?_, ?_⟩
          · show _ = _
            simp only [Deferred.ofValue, Sem.run_bind, Sem.run_pure, Result.andThen_ok, invoke, callFunc, run_program, hfn, hn, Bool.false_eq_true, if_false, hb, Option.isNone_some]
          · simp only [Array.toList_append]
            exact VRs_append (VRs_append h1 ha) h2
      · simp at h
    · simp at h
  · simp only [Option.some.injEq, Out.call.injEq] at h
    obtain ⟨rfl, rfl⟩ := h
    simp only [VR] at hf
    obtain ⟨b, c, h1, _, rfl⟩ := hf
    refine ⟨vs.toArray, ⟨b, c, h1, ?_⟩, by simpa using ha⟩
    simp [Deferred.ofValue, invoke]
  · simp at h

theorem sem_ok (sub : ∀ i o, Hh i = some o → H i = some o) (R : Rel μ S H B w0 w) {ρa : Operand → AV} {ρ : Operand → Value} (hρ : ∀ x, VR μ S H (ρa x) (ρ x))
    {id : Nat} {o : Oper} {out : Out} (h : sem P Hh id o ρa = some out) (hk : out.ok = true) (hf : out.fresh H = true) :
    Done P w w0 μ S H B (execOp ρ o) out := by
  obtain ⟨dst, op, ty, pos, af, gd⟩ := o
  unfold sem at h
  cases op <;> simp only [reduceCtorEq] at h
  case move x => cases h; exact ⟨_, _, w, μ, rfl, .inl rfl, R, Ext.refl, hρ x⟩
  case assign x => cases h; exact ⟨_, _, w, μ, rfl, .inl rfl, R, Ext.refl, hρ x⟩
  case pick c a b =>
    split at h
    · rename_i t hc
      cases h
      have hcv := hρ c
      rw [hc] at hcv
      simp only [VR] at hcv
      refine ⟨.value (if t then ρ a else ρ b), _, w, μ, ?_, .inl rfl, R, Ext.refl, ?_⟩
      · simp only [execOp, hcv, asBool, Sem.run_bind, Sem.run_pure, Result.andThen_ok]
      · cases t
        · exact hρ b
        · exact hρ a
    · simp at h
  case alloc t => exact oAlloc_ok R h hf
  case box t x => exact oBox_ok R (hρ x) h hf
  case load t a => exact oLoad_ok sub R (hρ a) h hk
  case store t a x => exact oStore_ok sub R (hρ a) (hρ x) h hk
  case fieldAddr s x f => exact oField_ok sub R (hρ x) h
  case field s x f => exact oPart_ok R (hρ x) h
  case nilCheck x => exact oNil_ok sub R (hρ x) h
  case binOp op t x y yt => exact oBin_ok R (hρ x) (hρ y) h hk
  case unOp op t x => exact oUn_ok R (hρ x) h
  case convert s d x =>
    have hx := hρ x
    split at h
    · rename_i v hv
      rw [hv] at hx
      exact oConv_ok R hx h
    · exact oStr_ok sub R hx h
  case build t parts =>
    have e : parts.map (fun (i, x) => (i, ρ x)) = (parts.toList.map fun p => (p.1, ρ p.2)).toArray := by apply Array.ext'; simp
    have := oBuild_ok R hρ h
    rw [← e] at this
    exact this
  case buildSlice t n parts =>
    have e : parts.map (fun (i, x) => (i, ρ x)) = (parts.toList.map fun p => (p.1, ρ p.2)).toArray := by apply Array.ext'; simp
    have := oBuildSlice_ok R hρ h hf
    rw [← e] at this
    exact this
  case makeSlice t l c => exact oMake_ok R (hρ l) (hρ c) h hk hf
  case slice t x lo hi mx => exact oSliceH_ok sub R hρ h hk
  case range t x => exact oRange_ok R (hρ x) h hf
  case next x s => exact oNext_ok sub R (hρ x) h
  case extract t i => exact oExt_ok R (hρ t) h
  case index t x i => exact oIndex_ok R (hρ x) (hρ i) h hk
  case makeMap t r =>
    cases r with
    | none => exact oMakeMap_ok R h hf
    | some _ => simp at h
  case mapEntry t m k => exact oMapEntry_ok sub R (hρ m) (hρ k) h
  case mapUpdate t m k x => exact oMapUpdate_ok sub R (hρ m) (hρ k) (hρ x) h
  case entryStore t m s x => exact oEntryStore_ok sub R (hρ m) (hρ s) (hρ x) h hk
  case lookup t x k ok => exact oLookup_ok sub R (hρ x) (hρ k) h
  case indexAddr t x i => exact oAtH_ok sub R (hρ x) (hρ i) h hk
  case makeFunc fn first caps =>
    cases h
    refine ⟨.value (.func fn (first.map ρ) (caps.map ρ)), _, w, μ, rfl, .inl rfl, R, Ext.refl, ?_⟩
    simp only [Out.res, Out.heap, VR]
    exact ⟨_, _, rfl, by simpa using VRs_map hρ first.toList, by simpa using VRs_map hρ caps.toList⟩
  case call c =>
    obtain ⟨callee, args, argTypes⟩ := c
    simp only at h
    split at h
    · split at h
      · rename_i t x ht hx
        have e1 : argTypes = #[t] := by apply Array.ext'; simpa using ht
        have e2 : args = #[x] := by apply Array.ext'; simpa using hx
        subst e1 e2
        obtain ⟨n, u, w', μ', k1, k2⟩ := oLenH_ok (ty := ty) (oLen_ok := fun hx h => oLen_ok sub R hx h) sub R (hρ x) h
        refine ⟨n, u, w', μ', ?_, k2⟩
        rw [← k1]
        have e : (#[x] : Array Operand).map ρ = #[ρ x] := by simp
        simp only [execOp, resolve, e, Sem.run_bind, Sem.run_pure, Result.andThen_ok, invoke, builtin]
      · simp at h
    · split at h
      · rename_i t x ht hx
        have e1 : argTypes = #[t] := by apply Array.ext'; simpa using ht
        have e2 : args = #[x] := by apply Array.ext'; simpa using hx
        subst e1 e2
        obtain ⟨n, u, w', μ', k1, k2⟩ := oClear_ok (P := P) (ty := ty) sub R (hρ x) h
        refine ⟨n, u, w', μ', ?_, k2⟩
        rw [← k1]
        have e : (#[x] : Array Operand).map ρ = #[ρ x] := by simp
        simp only [execOp, resolve, e, Sem.run_bind, Sem.run_pure, Result.andThen_ok, invoke, builtin]
      · simp at h
    · split at h
      · rename_i t u x y ht hx
        obtain ⟨htu, h2⟩ := cond_out h
        have htu := Nat.eq_of_beq_eq_true htu
        subst htu
        have e1 : argTypes = #[t, t] := by apply Array.ext'; simpa using ht
        have e2 : args = #[x, y] := by apply Array.ext'; simpa using hx
        subst e1 e2
        obtain ⟨n, u, w', μ', k1, k2⟩ := oAppendH_ok (P := P) (ty := ty) sub R (hρ x) (hρ y) h2 hk hf
        refine ⟨n, u, w', μ', ?_, k2⟩
        rw [← k1]
        have e : (#[x, y] : Array Operand).map ρ = #[ρ x, ρ y] := by simp
        simp only [execOp, resolve, e, Sem.run_bind, Sem.run_pure, Result.andThen_ok, invoke, builtin]
      · simp at h
    · split at h
      · rename_i x y hx
        have e2 : args = #[x, y] := by apply Array.ext'; simpa using hx
        subst e2
        have hx := hρ x
        have hy := hρ y
        unfold oMin at h
        split at h
        · rename_i k a k' b ha hb
          rw [ha] at hx
          rw [hb] at hy
          simp only [VR] at hx hy
          obtain ⟨hk', rfl⟩ := cond_some h
          refine ⟨.value (.int k (cond (decide (b < a)) b a)), _, w, μ, ?_, .inl rfl, R, Ext.refl, by simp only [Out.res, VR]⟩
          have e : (#[x, y] : Array Operand).map ρ = #[ρ x, ρ y] := by simp
          simp only [execOp, resolve, e, hx, hy, Sem.run_bind, Sem.run_pure, Result.andThen_ok, invoke, builtin, Builtin.min_, List.foldlM_cons, List.foldlM_nil, Builtin.min2]
          by_cases hlt : b < a <;> simp [hlt]
        · simp at h
      · simp at h
    · split at h
      · rename_i x y hx
        have e2 : args = #[x, y] := by apply Array.ext'; simpa using hx
        subst e2
        have hx := hρ x
        have hy := hρ y
        unfold oMax at h
        split at h
        · rename_i k a k' b ha hb
          rw [ha] at hx
          rw [hb] at hy
          simp only [VR] at hx hy
          obtain ⟨hk', rfl⟩ := cond_some h
          refine ⟨.value (.int k (cond (decide (a < b)) b a)), _, w, μ, ?_, .inl rfl, R, Ext.refl, by simp only [Out.res, VR]⟩
          have e : (#[x, y] : Array Operand).map ρ = #[ρ x, ρ y] := by simp
          simp only [execOp, resolve, e, hx, hy, Sem.run_bind, Sem.run_pure, Result.andThen_ok, invoke, builtin, Builtin.max_, List.foldlM_cons, List.foldlM_nil, Builtin.max2]
          by_cases hlt : a < b <;> simp [hlt]
        · simp at h
      · simp at h
    · unfold oCall at h
      split at h
      · split at h
        · split at h
          · rename_i fn _ _ _ _
            cases hn : fn.name == "runtime.NumGoroutine" with
            | true => rw [hn] at h; simp at h
            | false => rw [hn] at h; simp only [cond_false, Option.some.injEq] at h; subst h; simp [Out.ok] at hk
          · simp at h
        · simp at h
      · simp only [Option.some.injEq] at h; subst h; simp [Out.ok] at hk
      · simp at h
    · simp at h

omit [Glob] in
theorem noCall_buildSlice {id t n : Nat} {parts : List (Nat × AV)} {k : Callee} {as : List AV} {Q : Prop} (h : oBuildSlice P id t n parts = some (.call k as)) : Q := by
  unfold oBuildSlice at h
  split at h
  case h_2 => simp at h
  split at h
  case h_3 => simp at h
  case h_1 =>
    split at h
    case h_2 => simp at h
    split at h
    case h_2 => simp at h
    have h := (cond_out h).2
    split at h
    case h_2 => simp at h
    split at h <;> simp at h
  case h_2 =>
    split at h
    case h_2 => simp at h
    split at h
    case h_2 => simp at h
    have h := (cond_out h).2
    split at h <;> simp at h

omit [Glob] in
theorem noCall_append {id t : Nat} {s x : AV} {k : Callee} {as : List AV} {Q : Prop} (h : oAppend P Hh id t s x = some (.call k as)) : Q := by
  unfold oAppend at h
  split at h
  case h_2 => simp at h
  split at h
  case h_2 => simp at h
  split at h
  case h_2 => simp at h
  split at h
  case h_2 => simp at h
  have h := (cond_out h).2
  (repeat' split at h) <;> first | (simp at h; done) | (have := (cond_some h).2; simp at this)

omit [Glob] in
theorem noCall_appendH {id t : Nat} {s x : AV} {k : Callee} {as : List AV} {Q : Prop} (h : oAppendH P Hh id t s x = some (.call k as)) : Q := by
  unfold oAppendH at h
  split at h
  case h_2 => exact noCall_append h
  (repeat' split at h) <;> first | (simp at h; done) | (have := (cond_some h).2; simp at this)

omit [Glob] in
theorem sem_call {ρa : Operand → AV} {ρ : Operand → Value} (hρ : ∀ x, VR μ S H (ρa x) (ρ x))
    {id : Nat} {o : Oper} {k : Callee} {as : List AV} (h : sem P Hh id o ρa = some (.call k as)) :
    ∃ us : Array Value, Goes P μ w k us ((execOp ρ o).run P w) ∧ VRs μ S H as us.toList := by
  obtain ⟨dst, op, ty, pos, af, gd⟩ := o
  unfold sem at h
  cases op <;> simp only [reduceCtorEq, Option.some.injEq] at h
  case pick c a b => split at h <;> simp at h
  case alloc t => unfold oAlloc at h; (repeat' split at h) <;> simp at h
  case box t x => unfold oBox at h; (repeat' split at h) <;> simp at h
  case load t a =>
    unfold oLoad at h; (repeat' split at h) <;> first | (simp at h; done) | skip
    all_goals (rename_i g _ _ _ _ _ _ _; have := (cond_some h).2; simp at this)
  case store t a x =>
    unfold oStore at h; (repeat' split at h) <;> first | (simp at h; done) | (have := (cond_some h).2; simp at this)
  case build t parts => exact absurd h (by unfold oBuild; (repeat' split) <;> simp)
  case buildSlice t n parts => exact noCall_buildSlice h
  case makeSlice t l c => unfold oMake at h; (repeat' split at h) <;> first | (simp at h; done) | (have := (cond_some h).2; simp at this)
  case slice t x lo hi mx =>
    unfold oSliceH oSub oSlice3 oSlice at h
    (repeat' split at h) <;> first | (simp at h; done) | (have := (cond_some h).2; simp at this)
  case range t x => unfold oRange at h; (repeat' split at h) <;> simp at h
  case next x s => unfold oNext at h; (repeat' split at h) <;> simp at h
  case fieldAddr s x f =>
    unfold oField at h
    split at h
    · split at h
      · split at h
        · rename_i ti _
          cases h0 : Nat.beq ti.size 0 <;> rw [h0] at h <;> simp at h
          split at h <;> first | (simp at h; done) | skip
          split at h <;> first | (simp at h; done) | (have := (cond_some h).2; simp at this)
        · simp at h
      · simp at h
    · simp at h
  case field s x f => unfold oPart at h; (repeat' split at h) <;> simp at h
  case nilCheck x => unfold oNil at h; (repeat' split at h) <;> first | (simp at h; done) | (have := (cond_some h).2; simp at this)
  case binOp op t x y yt =>
    unfold oBin at h; split at h
    · split at h <;> simp at h
    · have h := (cond_no h).2
      (repeat' split at h) <;> simp at h
    · simp at h
  case unOp op t x => unfold oUn at h; (repeat' split at h) <;> simp at h
  case convert s d x =>
    split at h
    · unfold oConv at h; (repeat' split at h) <;> simp at h
    · unfold oStr at h; (repeat' split at h) <;> simp at h
  case extract t i => unfold oExt at h; (repeat' split at h) <;> simp at h
  case index t x i => unfold oIndex at h; (repeat' split at h) <;> simp at h
  case makeMap t r =>
    unfold oMakeMap at h
    (repeat' split at h) <;> first | (simp at h; done) | (have := (cond_some h).2; simp at this)
  case mapEntry t m k => unfold oMapEntry at h; (repeat' split at h) <;> first | (simp at h; done) | (have := (cond_some h).2; simp at this)
  case mapUpdate t m k x => unfold oMapUpdate at h; (repeat' split at h) <;> first | (simp at h; done) | (have := (cond_some h).2; simp at this)
  case entryStore t m s x => unfold oEntryStore at h; (repeat' split at h) <;> simp at h
  case lookup t x k ok => unfold oLookup at h; (repeat' split at h) <;> first | (simp at h; done) | (have := (cond_some h).2; simp at this)
  case indexAddr t x i => unfold oAtH oAt at h; (repeat' split at h) <;> first | (simp at h; done) | (have := (cond_some h).2; simp at this)
  case call c =>
    obtain ⟨callee, args, argTypes⟩ := c
    simp only at h
    split at h
    · split at h
      · unfold oLenH oLen at h; (repeat' split at h) <;> first | (simp at h; done) | (have := (cond_some h).2; simp at this)
      · simp at h
    · split at h
      · unfold oClear at h; (repeat' split at h) <;> first | (simp at h; done) | (have := (cond_some h).2; simp at this)
      · simp at h
    · split at h
      · exact noCall_appendH (cond_out h).2
      · simp at h
    · unfold oMin at h; (repeat' split at h) <;> first | (simp at h; done) | (have := (cond_some h).2; simp at this)
    · unfold oMax at h; (repeat' split at h) <;> first | (simp at h; done) | (have := (cond_some h).2; simp at this)
    · rename_i f
      have := oCall_ok (w := w) (ty := ty) (hρ f) (VRs_map hρ args.toList) h
      obtain ⟨us, h1, h2⟩ := this
      refine ⟨us, ?_, h2⟩
      have e : (args.toList.map ρ).toArray = args.map ρ := by apply Array.ext'; simp
      rw [e] at h1
      exact h1
    · simp at h
end
end Go.Sy
