/- Functions that turn a row that is the caller's own: their contracts, out of a tree of tests. -/
import Derived.Test.YtipajaocggpahaaGreatSym18
namespace Go.Sy
open Go Go.RowKit
set_option linter.unusedSimpArgs false
set_option linter.unusedVariables false

section
variable [Glob] {P : Program} {C : Cons} {lf : Nat}

/-- a function's run, where what stands ahead of it need not stay as it is, but what od tells -/
def exOwn (P : Program) (C : Cons) (Hn : Hints) (lf n k : Nat) (od : List Nat) (as : List AV) (H : Heap) (L : List Nat) : Option (AV × Heap × List Nat) :=
  match P.funcs[k]? with
  | some fn => match fn.body with
    | some c => cond (Nat.ble as.length fn.ntmps) (exEnd P fn.results.toList (exCode P C Hn (exFun P C Hn lf n) lf 4294967296 od (some k) false c ⟨fn.ntmps, nthAV as, H, L⟩)) none
    | none => none
  | none => none

theorem exOwn_ok {Hn : Hints} (hC : TabsOK P C) {n k : Nat} {od : List Nat} {as : List AV} {H H' Ho : Heap} {L L' : List Nat} {v : AV} (h : exOwn P C Hn lf n k od as H L = some (v, H', L')) (hBd : ∀ q, H q ≠ none → q ∈ L)
    {μ μo : Mu} {S : Stable} {B : Nat} {w0 w : World} {us : Array Value} (hod : ∀ i, μo i ≠ none → i ∈ od) (C0 : Carry B μo S Ho μ S H) (R : Rel μ S H B w0 w) (hv : VRs μ S H as us.toList) :
    Calls P k us w fun e w' => ∃ u μ' S', e = .returned u ∧ VR μ' S' H' v u ∧ Rel μ' S' H' B w0 w' ∧ (∀ b, S' b ≠ none → S b ≠ none ∨ B ≤ b) ∧ (∀ b o, S b = some o → S' b = some o) := by
  have ih := exFun_ok (lf := lf) (Hn := Hn) hC n
  unfold exOwn at h
  split at h
  case h_2 => simp at h
  rename_i fn hfn
  split at h
  case h_2 => simp at h
  rename_i c hc
  cases hle : Nat.ble as.length fn.ntmps with
  | false => rw [hle] at h; simp at h
  | true =>
    rw [hle] at h
    simp only [cond_true] at h
    have hle := Nat.le_of_ble_eq_true hle
    have hlen := VRs_length hv
    simp only [Array.length_toList] at hlen
    refine (callsIn_WF (r := none) (n := 0)).1 (callsIn_of_wp_marks hfn hc trivial ?_ rfl)
    have A0 : AR S μ S ⟨fn.ntmps, nthAV as, H, L⟩ { tmps := us ++ Array.replicate (fn.ntmps - us.size) undef, defers := [] } := by
      refine ⟨⟨[], rfl, List.nodup_nil, by simp⟩, by simp; omega, fun t ht => ?_⟩
      have := nthAV_VR hv t
      rw [List.getD_eq_getElem?_getD] at this
      rw [Array.getD_eq_getD_getElem?]
      by_cases hlt : t < us.size
      · rw [Array.getElem?_append_left hlt]; simpa using this
      · rw [Array.getElem?_append_right (by omega), Array.getElem?_replicate]
        have e1 : us.toList[t]? = none := by rw [List.getElem?_eq_none]; simp; omega
        rw [e1] at this
        have : t - us.size < fn.ntmps - us.size := by simp only at ht; omega
        rw [if_pos this]; assumption
    have fin : ∀ (e : Ex) (σ : St), exCode P C Hn (exFun P C Hn lf n) lf 4294967296 od (some k) false c ⟨fn.ntmps, nthAV as, H, L⟩ = some (e, σ) → e.to = .normal ∨ e.to = .ret →
        (∃ vs, resAll P σ fn.results.toList = some vs ∧ v = resAV vs ∧ H' = σ.heap) →
        c.wpIn (WF none) 0 P (bodyPostM (WF none) 0 P fn fun e w' => ∃ u μ' S', e = .returned u ∧ VR μ' S' H' v u ∧ Rel μ' S' H' B w0 w' ∧ (∀ b, S' b ≠ none → S b ≠ none ∨ B ≤ b) ∧ (∀ b o, S b = some o → S' b = some o)) { tmps := us ++ Array.replicate (fn.ntmps - us.size) undef, defers := [] } w := by
      rintro e σ he hex ⟨vs, hvs, rfl, rfl⟩
      refine exCode_ok (μo := μo) (So := S) (Ho := Ho) (fun _ => rfl) hC ih hod c (.top hfn hc) _ e σ _ w μ S _ he hBd A0 R C0 fun a' w' μ' S' A' R' C' => ?_
      have main : LeavesInM (WF none) 0 P fn a'.tmps (fun e w' => ∃ u μ' S', e = .returned u ∧ VR μ' S' σ.heap (resAV vs) u ∧ Rel μ' S' σ.heap B w0 w' ∧ (∀ b, S' b ≠ none → S b ≠ none ∨ B ≤ b) ∧ (∀ b o, S b = some o → S' b = some o)) a'.defers .returning w' := by
        obtain ⟨ms, hms, hmk⟩ := A'.defers
        rw [hms]
        refine leaves_marks R.pre ms S' w' R' hmk C'.sub (fun D hD => ?_) fun S2 w2 R2 hc2 hs2 hn2 => ?_
        · rcases C'.st D (by rw [(hmk.2 D hD).2]; simp) with h | h
          · exact absurd (hmk.2 D hD).1 h
          · exact h
        · have A2 : AR S μ' S2 σ { tmps := a'.tmps, defers := [] } := ⟨⟨[], rfl, List.nodup_nil, by simp⟩, A'.size, fun t ht => VR_cells hc2 _ _ (A'.tmp t ht)⟩
          obtain ⟨u, k1, k2⟩ := results_ok A2 R2 hvs
          exact ⟨u, k1, u, μ', S2, rfl, k2, R2, fun b hb => C'.st b (hn2 b hb), hs2⟩
      rcases hex with hex | hex <;> rw [hex] <;> exact main
    unfold exEnd at h
    split at h
    · rename_i σ he
      split at h
      · rename_i vs hvs; cases h; exact fin .nrm σ he (.inl rfl) ⟨vs, hvs, rfl, rfl⟩
      · simp at h
    · rename_i σ he
      split at h
      · rename_i vs hvs; cases h; exact fin .ret σ he (.inr rfl) ⟨vs, hvs, rfl, rfl⟩
      · simp at h
    · simp at h

omit [Glob] in
theorem RdArgs_mono {S S' : Stable} (h : ∀ b o, S b = some o → S' b = some o) : ∀ {ps : List Ty} {x : Args ps} {vs : List Value}, RdArgs S ps x vs → RdArgs S' ps x vs
  | [], _, _, hr => hr
  | t :: ts, x, vs, hr => by
    obtain ⟨v, r, e, h1, h2⟩ := hr
    refine ⟨v, r, e, ?_, RdArgs_mono h h2⟩
    unfold RdV at h1 ⊢
    split at h1
    · rename_i ht
      rw [if_pos ht]
      obtain ⟨cs, e2, h1⟩ := h1
      exact ⟨cs, e2, Rd_mono h _ _ _ h1⟩
    · rename_i ht
      rw [if_neg ht]
      exact Rd_mono h _ _ _ h1

/-- the row that is handed over, under number 1 -/
def rowH (te : TypeId) (e : Ty) (zs : List e.T) : Heap := upd (fun _ => none) 1 (some (.row te e 0 zs))

def topU (P : Program) (C : Cons) (Hn : Hints) (lf n k : Nat) (te : TypeId) (e : Ty) (ps : List Ty) (zs : List e.T) (x : Args ps) : Option (Res [.own te e]) :=
  decEnd [.own te e] (exOwn P C Hn lf n k [] (.sl 1 0 :: encArgs ps x) (rowH te e zs) [1])

omit [Glob] in
theorem VR_tup_no {μ : Mu} {S : Stable} {H : Heap} {as : List AV} {u : Value} (h : VR μ S H (.tup as) u) : ∃ x, u = .tuple x := by
  simp only [VR] at h
  obtain ⟨x, h, _⟩ := h
  exact ⟨x, h⟩

theorem ucon_of_top {Hn : Hints} (hC : TabsOK P C) {n k : Nat} {te : TypeId} {e : Ty} {ps : List Ty} {f : List e.T → Args ps → Option (List e.T × Unit)} (hfl : e.flat = true)
    (h : ∀ zs x y, f zs x = some y → topU P C Hn lf n k te e ps zs x = some y) :
    (⟨te, e, ps, false, fun zs x => (f zs x).map (·.1)⟩ : UCon).OK P k := by
  intro zs x ys hf S w B v0 cs0 vs hS hG ha hR hown hv0 hB
  simp only at zs x ys hf ha hR hown
  cases hfe : f zs x with
  | none => rw [hfe] at hf; simp at hf
  | some y =>
  rw [hfe] at hf
  simp only [Option.map_some, Option.some.injEq] at hf
  have ht := h zs x y hfe
  unfold topU at ht
  cases he : exOwn P C Hn lf n k [] (.sl 1 0 :: encArgs ps x) (rowH te e zs) [1] with
  | none => rw [he] at ht; simp [decEnd] at ht
  | some p =>
  obtain ⟨v, H', L'⟩ := p
  rw [he] at ht
  simp only [decEnd] at ht
  split at ht
  case h_2 => simp at ht
  rename_i y' o hd
  obtain ⟨hdis, rfl⟩ := cond_some ht
  -- all that is not the row stays
  let S1 : Stable := fun b => if v0.ownBlock = some b then none else w.heap[b]?
  have hS1 : ∀ b o, S b = some o → S1 b = some o := by
    intro b o hb
    show (if v0.ownBlock = some b then none else w.heap[b]?) = some o
    rw [if_neg (fun hq => by rw [hv0 b hq] at hb; simp at hb)]
    exact hS b o hb
  have hS1w : ∀ b o, S1 b = some o → w.heap[b]? = some o := by
    intro b o hb
    have hb : (if v0.ownBlock = some b then none else w.heap[b]?) = some o := hb
    split at hb
    · simp at hb
    · exact hb
  have hS1v : ∀ b, v0.ownBlock = some b → S1 b = none := by
    intro b hb
    show (if v0.ownBlock = some b then none else w.heap[b]?) = none
    rw [if_pos hb]
  obtain ⟨l, hv0e, hl, hO⟩ := owns_row (μ := upd (fun _ => none) 1 (some ⟨v0.ownBlock, 0⟩)) (H := rowH te e zs) (g := 0) (RdL_flat hfl hR : RdL S1 e zs cs0) hS1v hown
  have hO' : ObjR (upd (fun _ => none) 1 (some l)) S1 (rowH te e zs) w B l (.row te e 0 zs) := hO
  have R0 : Rel (upd (fun _ => none) 1 (some l)) S1 (rowH te e zs) B w w := by
    refine ⟨Below.refl _ _, hB, hS1w, fun i => ?_, fun i ob hi => ?_, fun i j li lj b hij hi hj hb => ?_, Glob.mono S S1 hS1 hG⟩
    · by_cases e1 : i = 1
      · subst e1; simp [rowH, upd_same]
      · unfold rowH; rw [upd_ne _ _ e1, upd_ne _ _ e1]; rfl
    · by_cases e1 : i = 1
      · subst e1
        unfold rowH at hi
        rw [upd_same] at hi
        cases hi
        exact ⟨l, upd_same _ _ _, hO'⟩
      · unfold rowH at hi; rw [upd_ne _ _ e1] at hi; simp at hi
    · by_cases e1 : i = 1
      · subst e1
        rw [upd_ne _ _ (Ne.symm hij)] at hj
        simp at hj
      · rw [upd_ne _ _ e1] at hi; simp at hi
  have hargs : VRs (upd (fun _ => none) 1 (some l)) S1 (rowH te e zs) (.sl 1 0 :: encArgs ps x) (v0 :: vs).toArray.toList := by
    have ha1 : RdArgs S1 ps x vs := RdArgs_mono hS1 ha
    simp only [VRs]
    refine ⟨v0, vs, by simp, ?_, encArgs_VRs ha1⟩
    simp only [VR]
    refine ⟨⟨_, _, _, hv0e⟩, l, upd_same _ _ _, fun t e' gc xs hH => ?_⟩
    unfold rowH at hH
    rw [upd_same] at hH
    injection hH with hH
    injection hH with q1 q2 q3 q4
    subst q1 q2 q3
    cases q4
    exact ⟨Nat.le_refl _, fun _ => hv0e⟩
  have C0 : Carry B (fun _ => none) S1 (fun _ => none) (upd (fun _ => none) 1 (some l)) S1 (rowH te e zs) := Carry.of (Ext.new rfl)
  refine Calls.mono (exOwn_ok (μo := fun _ => none) (Ho := fun _ => none) (od := []) hC he (fun q hq => ?_) (fun i hi => absurd rfl hi) C0 R0 hargs) ?_
  · by_cases e1 : q = 1
    · subst e1; simp
    · unfold rowH at hq; rw [upd_ne _ _ e1] at hq; simp at hq
  rintro ex w' ⟨u, μ', S', rfl, k1, R', hst, hsub⟩
  have hparts : ∃ us, VRs μ' S' H' (v.parts [RTy.own te e].length) us ∧ us = [u] := by
    refine ⟨[u], ?_, rfl⟩
    have one : VRs μ' S' H' [v] [u] := by simp only [VRs]; exact ⟨u, [], rfl, k1, rfl⟩
    cases v <;> exact one
  obtain ⟨us, hus, rfl⟩ := hparts
  obtain ⟨os, q1, q2, q3, q4⟩ := decRs_ok (S' := S') R' (fun b o h => h) (fun i t e g xs l h => by simp [noOwns, RTy.noOwn] at h) (fun i o h => by simp [noOwns, RTy.noOwn] at h) hus hd
  obtain ⟨v1, r1, o1, o2, e1, e2, d1, d2⟩ := q1
  obtain ⟨rfl, rfl⟩ := d2
  cases e1
  unfold RdRV at d1
  simp only [RTy.isAgg, Bool.false_eq_true, if_false] at d1
  obtain ⟨l2, c1, c2⟩ := d1
  subst c2
  cases c1
  subst hf
  have hOK := q3 ⟨l2, te, e, y'.1⟩ (by rw [e2]; simp)
  have hOb : ObjR μ' S' H' w' B l2 (.row te e 0 y'.1) := hOK
  obtain ⟨cs, g1, g2⟩ := row_owns hOb
  have hblk : ∀ b, l2.blk = some b → S' b = none := by
    intro b hb
    rcases hOK.2 with h3 | ⟨b', cs', f1, _, f2, _⟩
    · rw [h3.1] at hb; simp at hb
    · rw [f1] at hb; cases hb; exact f2
  refine ⟨_, cs, rfl, fun h => by simp at h, RdL_flat hfl g1, g2, fun b hb => ?_, R'.below.os, R'.below.tape, R'.below.output, R'.below.size, fun b hb hne => ?_⟩
  · rw [own_addr] at hb
    rcases Nat.lt_or_ge b w.heap.size with hlt | hge
    · by_cases hq : v0.ownBlock = some b
      · exact .inl hq
      · exfalso
        have h1 : S1 b = some w.heap[b] := by
          show (if v0.ownBlock = some b then none else w.heap[b]?) = _
          rw [if_neg hq]; simp [hlt]
        have h2 := hsub b _ h1
        rw [hblk b hb] at h2
        simp at h2
    · exact .inr hge
  · have h1 : S1 b = some w.heap[b] := by
      show (if v0.ownBlock = some b then none else w.heap[b]?) = _
      rw [if_neg (fun hq => hne hq.symm)]; simp [hb]
    rw [R'.st b _ (hsub b _ h1)]
    simp [hb]

/-- the same as a tree -/
def kTopU (P : Program) (C : Cons) (Sm : Sums) (lf n k : Nat) (te : TypeId) (e : Ty) (ps : List Ty) (zs : List e.T) (x : Args ps) : Option (Res [.own te e]) :=
  match P.funcs[k]? with
  | some fn => match fn.body with
    | some c => cond (Nat.ble (AV.sl 1 0 :: encArgs ps x).length fn.ntmps) (kCode P C Sm (kFun P C Sm lf n) n k lf 4294967296 [] (some k) false c ⟨fn.ntmps, nthAV (.sl 1 0 :: encArgs ps x), rowH te e zs, [1]⟩ fun e' σ => match e' with
      | .nrm => kEnd P fn.results.toList σ fun v H L => decEnd [.own te e] (some (v, H, L))
      | .ret => kEnd P fn.results.toList σ fun v H L => decEnd [.own te e] (some (v, H, L))
      | _ => none) none
    | none => none
  | none => none

omit [Glob] in
theorem kTopU_le {Sm : Sums} (hr : RoundsOK P C Sm lf) {n k : Nat} {te : TypeId} {e : Ty} {ps : List Ty} {zs : List e.T} {x : Args ps} : Le (kTopU P C Sm lf n k te e ps zs x) (topU P C (hintsOf Sm) lf n k te e ps zs x) := by
  unfold kTopU topU exOwn
  cases hfn : P.funcs[k]? with
  | none => exact Le.none _
  | some fn =>
    simp only
    cases hb : fn.body with
    | none => exact Le.none _
    | some c =>
      simp only
      cases Nat.ble (AV.sl 1 0 :: encArgs ps x).length fn.ntmps with
      | false => exact Le.none _
      | true =>
        simp only [cond_true]
        refine (kCode_le hr (fun {R} => kFun_le hr n) hfn hb false c _ _ (fun x hx => hx)).trans ?_
        cases exCode P C (hintsOf Sm) (exFun P C (hintsOf Sm) lf n) lf 4294967296 [] (some k) false c ⟨fn.ntmps, nthAV (.sl 1 0 :: encArgs ps x), rowH te e zs, [1]⟩ with
        | none => exact Le.none _
        | some p =>
          obtain ⟨e1, σ⟩ := p
          cases e1 with
          | nrm =>
            simp only [Option.bind_some, exEnd, kEnd]
            cases resAll P σ fn.results.toList <;> exact Le.refl _
          | ret =>
            simp only [Option.bind_some, exEnd, kEnd]
            cases resAll P σ fn.results.toList <;> exact Le.refl _
          | _ => exact Le.none _

theorem ucon_of_tree {Sm : Sums} (hC : TabsOK P C) (hr : RoundsOK P C Sm lf) {n k : Nat} {te : TypeId} {e : Ty} {ps : List Ty} {f : List e.T → Args ps → Option (List e.T × Unit)} (hfl : e.flat = true)
    (h : ∀ zs x, kTopU P C Sm lf n k te e ps zs x = f zs x) : (⟨te, e, ps, false, fun zs x => (f zs x).map (·.1)⟩ : UCon).OK P k :=
  ucon_of_top (Hn := hintsOf Sm) (lf := lf) (n := n) hC hfl fun zs x y hf => kTopU_le hr y (by rw [h zs x]; exact hf)
end
end Go.Sy
