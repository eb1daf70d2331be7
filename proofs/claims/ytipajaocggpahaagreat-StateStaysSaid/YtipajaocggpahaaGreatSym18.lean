/- The tree of tests comes to what the run comes to. -/
import Derived.Test.YtipajaocggpahaaGreatSym17
namespace Go.Sy
open Go Go.RowKit
set_option linter.unusedSimpArgs false
set_option linter.unusedVariables false

theorem upd_self {α : Type} (f : Nat → α) (i : Nat) (v : α) (h : f i = v) : upd f i v = f := by
  funext n
  by_cases e : n = i
  · subst e; rw [upd_same, h]
  · rw [upd_ne _ _ e]

theorem setT_self {σ : St} {d : Nat} {v : AV} (h : σ.tmps d = v) : σ.setT d v = σ := by
  unfold St.setT; rw [upd_self _ _ _ h]

section
variable {R : Type} {P : Program} {C : Cons}

theorem kPut_eq (σ : St) (H : Heap) (L : List Nat) (dst : Option Tmp) (v : AV) (k : St → Option R) : kPut σ H L dst v k = ((⟨σ.nt, σ.tmps, H, L⟩ : St).put dst v).bind k := by
  cases dst with
  | none => rfl
  | some d =>
    simp only [kPut, St.put]
    cases ltN d σ.nt <;> rfl

theorem kEff_eq (σ : St) (id : Nat) (dst : Option Tmp) (e : Eff) (k : St → List Nat → Option R) :
    kEff σ id dst e k = (σ.eff id dst e).bind fun σ' => k σ' (cond e.new (e.sets.map (·.1)) []) := by
  unfold kEff St.eff
  cases (e.new && !(freshAll σ.heap e.sets && inSite id e.sets)) with
  | true => rfl
  | false => simp only [cond_false]; exact kPut_eq _ _ _ _ _ _

theorem kTest_bool {σ : St} {x : Operand} {c : Bool} (h : σ.val x = .lit (.bool c)) (k : St → Bool → Option R) (skip : Option R) : kTest σ x k skip = k σ c := by
  unfold kTest
  rw [h]
  cases x with
  | tmp d =>
    have hd : σ.tmps d = .lit (.bool c) := by
      simp only [St.val] at h
      cases hl : ltN d σ.nt with
      | true => rw [hl] at h; exact h
      | false => rw [hl] at h; simp at h
    cases c
    · simp only [cond_false]; rw [setT_self hd]
    · simp only [cond_true]; rw [setT_self hd]
  | const v => cases c <;> rfl
  | global g => cases c <;> rfl
  | func f => cases c <;> rfl

/-- what is handed on by a call that is walked into -/
def InlLe (F : Inl) (G : KInl R) : Prop := ∀ base k as H L (K : AV → Heap → List Nat → Option R), Le (G base k as H L K) ((F base k as H L).bind fun p => K p.1 p.2.1 p.2.2)

/-- one operation: its state, and the numbers of what is new -/
def runPair (P : Program) (C : Cons) (F : Inl) (Hh : Heap) (id : Nat) (o : Oper) (σ : St) : Option (St × List Nat) :=
  match exEff P C Hh id o σ.val with
  | some e => (σ.eff id o.dst e).map fun σ' => (σ', cond e.new (e.sets.map (·.1)) [])
  | none => match exInl P C F Hh id o σ.val σ.heap σ.ids with
    | some (v, H', L') => ((⟨σ.nt, σ.tmps, H', L'⟩ : St).put o.dst v).map fun σ' => (σ', [])
    | none => none

theorem bind_pair {α β γ : Type} (a : Option α) (f : α → β) (k : α → β → Option γ) : ((a.map fun x => (x, f x)).bind fun p => k p.1 p.2) = a.bind fun x => k x (f x) := by
  cases a <;> rfl

theorem kRun_le {F : Inl} {G : KInl R} (hG : InlLe F G) (Hh : Heap) (id : Nat) (o : Oper) (σ : St) (k : St → List Nat → Option R) :
    Le (kRun P C G Hh id o σ k) ((runPair P C F Hh id o σ).bind fun p => k p.1 p.2) := by
  have gen : ∀ (s : Option Out), sem P Hh id o σ.val = s → Le (match s with
      | some (.val c v) => cond c (kPut σ σ.heap σ.ids o.dst v fun σ' => k σ' []) none
      | some (.new c i ob v) => cond c (kEff σ id o.dst ⟨[(i, ob)], true, v⟩ k) none
      | some (.wr c i ob v) => cond c (kEff σ id o.dst ⟨[(i, ob)], false, v⟩ k) none
      | some (.nxt c i ob v u) => cond c (kEff σ id o.dst ⟨[(i, ob)], false, v⟩ k) (kEff σ id o.dst ⟨[], false, u⟩ k)
      | some (.call kk as) => match updOfC C o kk with
        | some u => kUpd u Hh as fun i ob v => kEff σ id o.dst ⟨[(i, ob)], false, v⟩ k
        | none => match conOfC C kk with
        | some con => match isR P o, decArgs (readHeap con Hh) con.ps as with
          | true, some x => (con.f x).bind fun y => kEff σ id o.dst ⟨objRs con.rs y id, true, resAV (encRs con.rs y id)⟩ k
          | _, _ => none
        | none => G id kk as σ.heap σ.ids fun v H' L' => kPut σ H' L' o.dst v fun σ' => k σ' []
      | none => none) ((runPair P C F Hh id o σ).bind fun p => k p.1 p.2) := by
    intro s hs
    have effE : ∀ e, exEff P C Hh id o σ.val = some e → Le (kEff σ id o.dst e k) ((runPair P C F Hh id o σ).bind fun p => k p.1 p.2) := by
      intro e he
      unfold runPair
      rw [he]
      refine Le.of_eq ?_
      rw [kEff_eq]
      exact (bind_pair (σ.eff id o.dst e) (fun _ => cond e.new (e.sets.map (·.1)) []) k).symm
    cases s with
    | none => exact Le.none _
    | some out =>
      cases out with
      | val c v =>
        cases c with
        | true =>
          have he : exEff P C Hh id o σ.val = some ⟨[], false, v⟩ := by unfold exEff; rw [hs]; rfl
          exact (Le.of_eq (by rw [kEff_eq]; exact kPut_eq σ σ.heap σ.ids o.dst v fun σ' => k σ' [])).trans (effE _ he)
        | false => exact Le.none _
      | new c i ob v =>
        cases c with
        | true =>
          have he : exEff P C Hh id o σ.val = some ⟨[(i, ob)], true, v⟩ := by unfold exEff; rw [hs]; rfl
          exact effE _ he
        | false => exact Le.none _
      | nxt c i ob v u =>
        cases c with
        | true =>
          have he : exEff P C Hh id o σ.val = some ⟨[(i, ob)], false, v⟩ := by unfold exEff; rw [hs]; rfl
          exact effE _ he
        | false =>
          have he : exEff P C Hh id o σ.val = some ⟨[], false, u⟩ := by unfold exEff; rw [hs]; rfl
          exact effE _ he
      | wr c i ob v =>
        cases c with
        | true =>
          have he : exEff P C Hh id o σ.val = some ⟨[(i, ob)], false, v⟩ := by unfold exEff; rw [hs]; rfl
          exact effE _ he
        | false => exact Le.none _
      | call kk as =>
        cases hu : updOfC C o kk with
        | some u =>
          simp only [hu]
          rw [kUpd_eq]
          cases ho : updOut u Hh as with
          | none => exact Le.none _
          | some q =>
            obtain ⟨i, ob, v⟩ := q
            simp only
            have he : exEff P C Hh id o σ.val = some ⟨[(i, ob)], false, v⟩ := by unfold exEff; rw [hs]; simp only [hu, ho]
            exact effE _ he
        | none =>
        simp only [hu]
        cases hc : conOfC C kk with
        | none =>
          have he : exEff P C Hh id o σ.val = none := by unfold exEff; rw [hs]; simp only [hu, hc]; split <;> simp_all
          have hi : exInl P C F Hh id o σ.val σ.heap σ.ids = F id kk as σ.heap σ.ids := by unfold exInl; rw [hs]; simp only [hc]
          unfold runPair
          rw [he, hi]
          simp only [hc]
          refine (hG _ _ _ _ _ _).trans (Le.of_eq ?_)
          cases F id kk as σ.heap σ.ids with
          | none => rfl
          | some p =>
            simp only [Option.bind_some, kPut_eq]
            exact (bind_pair _ (fun _ => []) k).symm
        | some con =>
          have he : exEff P C Hh id o σ.val = match isR P o with
            | true => conEff con Hh id as
            | false => none := by unfold exEff; rw [hs]; simp only [hu, hc]; cases isR P o <;> rfl
          simp only [hc]
          cases hr : isR P o with
          | false => exact Le.none _
          | true =>
            rw [hr] at he
            cases hd : decArgs (readHeap con Hh) con.ps as with
            | none => exact Le.none _
            | some x =>
              cases hf : con.f x with
              | none => simp only [hf]; exact Le.none _
              | some y =>
                simp only [conEff, hd, hf] at he
                simp only [hf]
                exact effE _ he
  unfold kRun
  split
  · rename_i c a b hop
    obtain ⟨dst, op, ty, pos, af, gd⟩ := o
    simp only at hop
    subst hop
    cases hv : σ.val c with
    | lit x =>
      cases x with
      | bool t =>
        rw [kTest_bool hv]
        have he : exEff P C Hh id ⟨dst, .pick c a b, ty, pos, af, gd⟩ σ.val = some ⟨[], false, cond t (σ.val a) (σ.val b)⟩ := by
          simp only [exEff, sem, hv]; rfl
        unfold runPair
        rw [he]
        refine Le.of_eq ?_
        rw [kPut_eq]
        exact (bind_pair _ (fun _ => []) k).symm
      | _ => simp only [kTest, hv]; exact Le.none _
    | _ => simp only [kTest, hv]; exact Le.none _
  · exact gen _ rfl

theorem runPair_none {F : Inl} {Hh : Heap} {id : Nat} {o : Oper} {σ : St} : (runPair P C F Hh id o σ) = ((match exEff P C Hh id o σ.val with
      | some e => σ.eff id o.dst e
      | none => match exInl P C F Hh id o σ.val σ.heap σ.ids with
        | some (v, H', L') => (⟨σ.nt, σ.tmps, H', L'⟩ : St).put o.dst v
        | none => none) : Option St).map fun σ' => (σ', match exEff P C Hh id o σ.val with
      | some e => cond e.new (e.sets.map (·.1)) []
      | none => []) := by
  unfold runPair
  cases exEff P C Hh id o σ.val with
  | some e => rfl
  | none =>
    simp only
    cases exInl P C F Hh id o σ.val σ.heap σ.ids with
    | none => rfl
    | some p => rfl

theorem kOp_le {F : Inl} {G : KInl R} (hG : InlLe F G) (ops : Array Oper) (hide : Heap → Heap) (id i : Nat) (σ : St) (k : St → List Nat → Option R) :
    Le (kOp P C G ops hide id i σ k) ((exOp P C F ops hide id i σ).bind fun σ' => k σ' (opNew P C ops (hide σ.heap) id i σ)) := by
  unfold kOp exOp opNew
  cases ho : ops[i]? with
  | none => exact Le.refl _
  | some o =>
    simp only
    have yes : want ops σ o = some true → Le (kRun P C G (hide σ.heap) id o σ k) ((match want ops σ o with
        | some true => match exEff P C (hide σ.heap) id o σ.val with
          | some e => σ.eff id o.dst e
          | none => match exInl P C F (hide σ.heap) id o σ.val σ.heap σ.ids with
            | some (v, H', L') => (⟨σ.nt, σ.tmps, H', L'⟩ : St).put o.dst v
            | none => none
        | some false => σ.put o.dst (.lit undef)
        | none => none : Option St).bind fun σ' => k σ' (match want ops σ o with
        | some true => match exEff P C (hide σ.heap) id o σ.val with
          | some e => cond e.new (e.sets.map (·.1)) []
          | none => []
        | _ => [])) := by
      intro hw
      rw [hw]
      refine (kRun_le hG _ _ _ _ _).trans (Le.of_eq ?_)
      rw [runPair_none]
      exact bind_pair _ _ k
    have noo : want ops σ o = some false → Le (kPut σ σ.heap σ.ids o.dst (.lit undef) fun σ' => k σ' []) ((match want ops σ o with
        | some true => match exEff P C (hide σ.heap) id o σ.val with
          | some e => σ.eff id o.dst e
          | none => match exInl P C F (hide σ.heap) id o σ.val σ.heap σ.ids with
            | some (v, H', L') => (⟨σ.nt, σ.tmps, H', L'⟩ : St).put o.dst v
            | none => none
        | some false => σ.put o.dst (.lit undef)
        | none => none : Option St).bind fun σ' => k σ' (match want ops σ o with
        | some true => match exEff P C (hide σ.heap) id o σ.val with
          | some e => cond e.new (e.sets.map (·.1)) []
          | none => []
        | _ => [])) := by
      intro hw
      rw [hw]
      exact Le.of_eq (kPut_eq _ _ _ _ _ _)
    cases hg : o.guard with
    | none =>
      exact yes (by unfold want; rw [hg])
    | some p =>
      obtain ⟨j, b⟩ := p
      simp only
      cases hj : ops[j]? with
      | none => exact noo (by unfold want; simp only [hg, hj])
      | some g =>
        simp only
        cases hd : g.dst with
        | none => exact noo (by unfold want; simp only [hg, hj, hd])
        | some d =>
          simp only
          cases hv : σ.val (.tmp d) with
          | lit x =>
            cases x with
            | bool c =>
              rw [kTest_bool hv]
              have hw : want ops σ o = some (c == b) := by unfold want; simp only [hg, hj, hd, hv]
              cases hcb : c == b with
              | true => exact yes (by rw [hw, hcb])
              | false => exact noo (by rw [hw, hcb])
            | tuple vs =>
              have hw : want ops σ o = some false := by unfold want; simp only [hg, hj, hd, hv]
              have : ∀ kk z, kTest (R := R) σ (.tmp d) kk z = z := by intro kk z; unfold kTest; rw [hv]
              rw [this]; exact noo hw
            | _ => simp only [kTest, hv]; exact Le.none _
          | _ => simp only [kTest, hv]; exact Le.none _

theorem kOps_le {F : Inl} {G : KInl R} (hG : InlLe F G) (ops : Array Oper) (base : Nat) : ∀ (l : List Nat) (σ : St) (k : St → Option R), Le (kOps P C G ops base l σ k) ((exOps P C F ops base l σ).bind k)
  | [], σ, k => Le.refl _
  | i :: l, σ, k => by
    simp only [kOps, exOps]
    refine (kOp_le hG _ _ _ _ _ _).trans ?_
    cases exOp P C F ops (fun H => H) (base + i * 16) i σ with
    | none => exact Le.none _
    | some σ' => exact kOps_le hG ops base l _ k

theorem kHs_le (ops : Array Oper) (m : List Nat) (W : List (Option Nat)) (base : Nat) : ∀ (l L : List Nat) (σ : St) (k : St → Option R), Le (kHs P C ops m W base l L σ k) ((exHs P C ops m W base l σ).bind fun σ' => k (σ'.addIds (L ++ hsNew P C ops m W base l σ)))
  | [], L, σ, k => by simp only [kHs, exHs, hsNew, List.append_nil, Option.bind_some]; exact Le.refl _
  | i :: l, L, σ, k => by
    simp only [kHs, exHs, exH, hsNew]
    cases tgtOK P C ops m W i σ with
    | false => exact Le.none _
    | true =>
    simp only [cond_true]
    refine (kOp_le (F := noInl) (fun _ _ _ _ _ _ => Le.none _) _ _ _ _ _ _).trans ?_
    cases exOp P C noInl ops (hideF base ops.size (m.getD i 0) (oth m W ops.size i)) (base + i * 16) i σ with
    | none => exact Le.none _
    | some σ' =>
      refine (kHs_le ops m W base l _ σ' k).trans (Le.of_eq ?_)
      simp only [List.append_assoc]

theorem kAny_le (ops : Array Oper) (base : Nat) (σ : St) (k : St → Option R) : Le (kAny P C ops base σ k) ((exAny P C ops base σ).bind k) := by
  unfold kAny exAny
  cases regionOK P C ops (masks ops) with
  | false => exact Le.none _
  | true =>
    refine (kHs_le ops (masks ops) (wOf P C ops (masks ops) base σ) base (List.range ops.size) [] σ k).trans (Le.of_eq ?_)
    simp only [List.nil_append, cond_true]
    cases exHs P C ops (masks ops) (wOf P C ops (masks ops) base σ) base (List.range ops.size) σ <;> rfl

theorem kLoop_le {f : St → Option (Ex × St)} {g : St → (Ex → St → Option R) → Option R} (h : ∀ σ k, Le (g σ k) ((f σ).bind fun p => k p.1 p.2)) :
    ∀ (n : Nat) (σ : St) (k : Ex → St → Option R), Le (kLoop n g σ k) ((exLoop n f σ).bind fun p => k p.1 p.2)
  | 0, σ, k => Le.refl _
  | n + 1, σ, k => by
    simp only [kLoop, exLoop]
    refine (h _ _).trans ?_
    cases f σ with
    | none => exact Le.none _
    | some p =>
      obtain ⟨e, σ'⟩ := p
      cases e with
      | nrm => exact kLoop_le h n σ' k
      | _ => exact Le.refl _

/-- how a loop ends, by its summary -/
def LSum.fin (s : LSum) : Sum s.out.X s.ret.X → Ex × St
  | .inl y => (.exit s.outI, s.out.emb y)
  | .inr y => (.ret, s.ret.emb y)

theorem sum_ok {s : LSum} {od : List Nat} (h1 : s.od = od) (h2 : s.out.od.map (·.1) = od) (h3 : s.ret.od.map (·.1) = od) {f : St → Option (Ex × St)}
    (hf : ∀ z, Le (s.step z) ((f (s.shape.emb z)).bind fun p => s.roundK p.1 p.2)) : ∀ (n : Nat) (σ : St) (z : s.shape.X), s.shape.read σ = some z →
    Le ((iter n s.step z).map s.fin) (exOut od (some s.lh) (exLoop n (exRound od (some s.lh) f) σ))
  | 0, σ, z, _ => Le.none _
  | n + 1, σ, z, hr => by
    have hh := LShape.read_head hr
    have hod : s.shape.od.map (·.1) = od := h1
    rw [hod] at hh
    have hR : exRound od (some s.lh) f σ = f (s.shape.emb z) := by
      simp only [exRound, LSum.lh, hh]
    simp only [iter, exLoop, hR]
    cases hs : s.step z with
    | none => exact Le.none _
    | some r =>
      have := hf z r hs
      cases hfe : f (s.shape.emb z) with
      | none => rw [hfe] at this; simp at this
      | some p =>
        obtain ⟨e, σ'⟩ := p
        rw [hfe] at this
        simp only [Option.bind_some] at this
        cases e with
        | nrm =>
          simp only [LSum.roundK] at this
          split at this
          · rename_i x hx
            cases this
            exact sum_ok h1 h2 h3 hf n σ' x hx
          · simp at this
        | exit i =>
          simp only [LSum.roundK] at this
          obtain ⟨hi, this⟩ := cond_true_of this
          split at this
          · rename_i y hy
            cases this
            have hy' := LShape.read_head hy
            rw [h2] at hy'
            intro q hq
            simp only [exOut, LSum.lh, hy']
            simp only [Option.map_some, LSum.fin, Option.some.injEq] at hq
            rw [← hq, Nat.eq_of_beq_eq_true hi]
          · simp at this
        | ret =>
          simp only [LSum.roundK] at this
          split at this
          · rename_i y hy
            cases this
            have hy' := LShape.read_head hy
            rw [h3] at hy'
            intro q hq
            simp only [exOut, LSum.lh, hy']
            simp only [Option.map_some, LSum.fin, Option.some.injEq] at hq
            rw [← hq]
          · simp at this
        | goto l => simp [LSum.roundK] at this
end

section
variable {P : Program} {C : Cons} {Sm : Sums} {lf : Nat}

theorem hintOf_sum {base : Nat} {x : Code} : hintOf (hintsOf Sm) base x = (sumOf Sm base x).map LSum.lh := by
  unfold hintOf sumOf hintsOf
  cases firstReg x with
  | none => rfl
  | some r => simp only; cases Sm base r <;> rfl

theorem kRngOut_eq {R : Type} (σ : St) (i : Nat) (H : Heap) (L : List Nat) (k : Ex → St → Option R) : kRngOut σ i H L k = (rngOut σ i H L).bind fun p => k p.1 p.2 := by
  unfold kRngOut rngOut
  split <;> simp_all

theorem kRange_le {R : Type} {F : Inl} {G : KInl R} (hG : InlLe F G) (base : Nat) (rf : Option Nat) (g : Operand) (body : Code) (σ : St) (k : Ex → St → Option R) :
    Le (kRange P G base rf g body σ k) ((exRange P F base rf g body σ).bind fun p => k p.1 p.2) := by
  unfold kRange exRange
  split
  · rename_i fid kk first caps r hg hr
    simp only [hg, hr]
    cases rangeIn P fid r with
    | none => exact Le.none _
    | some x =>
      simp only
      cases rngIn σ base fid r x with
      | none => exact Le.none _
      | some p =>
        obtain ⟨σ1, i⟩ := p
        simp only
        cases callable P kk with
        | false => exact Le.none _
        | true =>
          simp only [cond_true]
          refine (hG _ _ _ _ _ _).trans ?_
          cases F (i + 1) (.fn kk) (first ++ [.yld i] ++ caps) σ1.heap σ1.ids with
          | none => exact Le.none _
          | some q =>
            obtain ⟨v, H, L⟩ := q
            exact Le.of_eq (kRngOut_eq _ _ _ _ _)
  · exact Le.none _

theorem rangesOf_loops : ∀ (c : Code) (x : RCode), x ∈ rangesOf c → (∀ z ∈ loopsOf x.2.1, z ∈ loopsOf c) ∧ ∀ z ∈ loopsOf x.2.2, z ∈ loopsOf c
  | .seq a b, x, h => by
    simp only [rangesOf, List.mem_append] at h
    rcases h with h | h
    · obtain ⟨h1, h2⟩ := rangesOf_loops a x h
      exact ⟨fun z hz => by simp [loopsOf, h1 z hz], fun z hz => by simp [loopsOf, h2 z hz]⟩
    · obtain ⟨h1, h2⟩ := rangesOf_loops b x h
      exact ⟨fun z hz => by simp [loopsOf, h1 z hz], fun z hz => by simp [loopsOf, h2 z hz]⟩
  | .scope a, x, h => by
    obtain ⟨h1, h2⟩ := rangesOf_loops a x h
    exact ⟨fun z hz => h1 z hz, fun z hz => h2 z hz⟩
  | .cond _ a b, x, h => by
    simp only [rangesOf, List.mem_append] at h
    rcases h with h | h
    · obtain ⟨h1, h2⟩ := rangesOf_loops a x h
      exact ⟨fun z hz => by simp [loopsOf, h1 z hz], fun z hz => by simp [loopsOf, h2 z hz]⟩
    · obtain ⟨h1, h2⟩ := rangesOf_loops b x h
      exact ⟨fun z hz => by simp [loopsOf, h1 z hz], fun z hz => by simp [loopsOf, h2 z hz]⟩
  | .block _ a, x, h => by
    obtain ⟨h1, h2⟩ := rangesOf_loops a x h
    exact ⟨fun z hz => h1 z hz, fun z hz => h2 z hz⟩
  | .loop a, x, h => by
    obtain ⟨h1, h2⟩ := rangesOf_loops a x h
    exact ⟨fun z hz => by simp [loopsOf, h1 z hz], fun z hz => by simp [loopsOf, h2 z hz]⟩
  | .rangeFunc _ _ a b, x, h => by
    simp only [rangesOf, List.mem_singleton] at h
    subst h
    exact ⟨fun z hz => by simp [loopsOf, hz], fun z hz => by simp [loopsOf, hz]⟩
  | .skip, x, h => by simp [rangesOf] at h
  | .region _ _ _, x, h => by simp [rangesOf] at h
  | .exit _, x, h => by simp [rangesOf] at h
  | .label _, x, h => by simp [rangesOf] at h
  | .ret, x, h => by simp [rangesOf] at h
  | .goto _, x, h => by simp [rangesOf] at h
  | .refuse _, x, h => by simp [rangesOf] at h

theorem lookR_in {r : Nat} : ∀ {l : List RCode} {y : RCode}, lookR r l = some y → y ∈ l
  | [], y, h => by simp [lookR] at h
  | z :: l, y, h => by
    simp only [lookR] at h
    cases hz : RCode.is z r with
    | true =>
      rw [hz] at h
      simp only [cond_true] at h
      cases hb : (l.any fun y => RCode.is y r) with
      | true => rw [hb] at h; simp at h
      | false => rw [hb] at h; simp only [cond_false, Option.some.injEq] at h; simp [h]
    | false => rw [hz] at h; exact List.mem_cons_of_mem _ (lookR_in h)

theorem rangeIn_in {k r : Nat} {x : RCode} (h : rangeIn P k r = some x) : ∃ fn c, P.funcs[k]? = some fn ∧ fn.body = some c ∧ x ∈ rangesOf c := by
  unfold rangeIn at h
  split at h
  · rename_i fn hfn
    split at h
    · rename_i c hc; exact ⟨fn, c, hfn, hc, lookR_in h⟩
    · simp at h
  · simp at h

theorem rndIn_in {i : Nat} {as : List AV} {H : Heap} {L : List Nat} {k r : Nat} {x : RCode} {σ : St} (h : rndIn P i as H L = some (k, r, x, σ)) : rangeIn P k r = some x := by
  unfold rndIn at h
  split at h
  · split at h
    · rename_i hx
      obtain ⟨_, e⟩ := cond_some h
      cases e
      exact hx
    · simp at h
  · simp at h

theorem kRnd_le {R : Type} {i k r : Nat} {asn body : St → (Ex → St → Option R) → Option R} {asn' body' : St → Option (Ex × St)} (h1 : ∀ σ K, Le (asn σ K) ((asn' σ).bind fun p => K p.1 p.2))
    (h2 : ∀ σ K, Le (body σ K) ((body' σ).bind fun p => K p.1 p.2)) (σ : St) (K : AV → Heap → List Nat → Option R) :
    Le (kRnd i k r asn body σ K) ((exRnd i k r asn' body' σ).bind fun p => K p.1 p.2.1 p.2.2) := by
  unfold kRnd exRnd
  refine (h1 _ _).trans ?_
  cases asn' σ with
  | none => exact Le.none _
  | some p =>
    obtain ⟨e, σ1⟩ := p
    cases e with
    | nrm =>
      simp only [Option.bind_some]
      cases rndBusy i k r σ1 with
      | none => exact Le.none _
      | some σ2 =>
        simp only
        refine (h2 _ _).trans ?_
        cases body' σ2 with
        | none => exact Le.none _
        | some q =>
          obtain ⟨e, σ3⟩ := q
          simp only [Option.bind_some, kRndOut]
          cases rndOut i k r e σ3 <;> exact Le.refl _
    | _ => exact Le.none _

theorem kCode_le (hr : RoundsOK P C Sm lf) {n fid base : Nat} {od : List Nat} {rf : Option Nat} (hG : ∀ {R : Type}, InlLe (R := R) (exFun P C (hintsOf Sm) lf n) (kFun P C Sm lf n))
    {fn : Func} {c0 : Code} (hfn : P.funcs[fid]? = some fn) (hc0 : fn.body = some c0) :
    ∀ {R : Type} (sc : Bool) (c : Code) (σ : St) (k : Ex → St → Option R), (∀ x ∈ loopsOf c, x ∈ loopsOf c0) →
      Le (kCode P C Sm (kFun P C Sm lf n) n fid lf base od rf sc c σ k) ((exCode P C (hintsOf Sm) (exFun P C (hintsOf Sm) lf n) lf base od rf sc c σ).bind fun p => k p.1 p.2)
  | R, sc, .skip, σ, k, _ => Le.refl _
  | R, sc, .region id ops draw, σ, k, _ => by
    simp only [kCode, exCode]
    cases draw with
    | true =>
      refine (kAny_le _ _ _ _).trans (Le.of_eq ?_)
      simp only [cond_true]
      cases exAny P C ops (site base id) σ <;> rfl
    | false =>
      refine (kOps_le hG _ _ _ _ _).trans (Le.of_eq ?_)
      simp only [cond_false]
      cases exOps P C _ ops (site base id) (List.range ops.size) σ <;> rfl
  | R, false, .seq x y, σ, k, hl => by
    simp only [kCode, exCode]
    refine (kCode_le hr hG hfn hc0 false x σ _ (fun z hz => hl z (by simp [loopsOf, hz]))).trans ?_
    cases exCode P C (hintsOf Sm) (exFun P C (hintsOf Sm) lf n) lf base od rf false x σ with
    | none => exact Le.none _
    | some p =>
      obtain ⟨e, σ'⟩ := p
      cases e with
      | nrm => exact kCode_le hr hG hfn hc0 false y σ' k (fun z hz => hl z (by simp [loopsOf, hz]))
      | _ => exact Le.refl _
  | R, true, .seq x y, σ, k, hl => by
    simp only [kCode, exCode]
    cases hx : labOf x with
    | none =>
      simp only
      refine (kCode_le hr hG hfn hc0 false x σ _ (fun z hz => hl z (by simp [loopsOf, hz]))).trans ?_
      cases exCode P C (hintsOf Sm) (exFun P C (hintsOf Sm) lf n) lf base od rf false x σ with
      | none => exact Le.none _
      | some p =>
        obtain ⟨e, σ'⟩ := p
        cases e with
        | nrm => exact kCode_le hr hG hfn hc0 true y σ' k (fun z hz => hl z (by simp [loopsOf, hz]))
        | goto l => exact Le.none _
        | _ => exact Le.refl _
    | some l =>
      simp only
      have hxe := labOf_eq hx
      subst hxe
      have fl : ∀ {R : Type} (σ : St) (k : Ex → St → Option R), Le (kCode P C Sm (kFun P C Sm lf n) n fid lf base od rf false y σ (kFlip l k)) ((flipE l (exCode P C (hintsOf Sm) (exFun P C (hintsOf Sm) lf n) lf base od rf false y σ)).bind fun p => k p.1 p.2) := by
        intro R σ k
        refine (kCode_le hr hG hfn hc0 false y σ _ (fun z hz => hl z (by simp [loopsOf, hz]))).trans ?_
        cases exCode P C (hintsOf Sm) (exFun P C (hintsOf Sm) lf n) lf base od rf false y σ with
        | none => exact Le.none _
        | some p =>
          obtain ⟨e, σ'⟩ := p
          cases e with
          | nrm => exact Le.refl _
          | goto i => simp only [Option.bind_some, kFlip, flipE, flipX]; cases Nat.beq i l <;> exact Le.refl _
          | exit i => simp only [Option.bind_some, kFlip, flipE, flipX]; cases Nat.beq i endN <;> exact Le.refl _
          | ret => exact Le.refl _
      have un : ∀ (r : Option (Ex × St)), Le (r.bind fun p => kUnflip k p.1 p.2) ((unflip r).bind fun p => k p.1 p.2) := by
        intro r
        cases r with
        | none => exact Le.none _
        | some p =>
          obtain ⟨e, σ'⟩ := p
          cases e with
          | exit i => simp only [Option.bind_some, kUnflip, unflip, unX]; cases Nat.beq i endN <;> exact Le.refl _
          | ret => exact Le.refl _
          | _ => exact Le.none _
      rw [hintOf_sum]
      cases hs : sumOf Sm base y with
      | none =>
        simp only [Option.map_none]
        have e1 : ∀ r, exOut od none r = r := by intro r; unfold exOut; split <;> rfl
        rw [e1]
        refine Le.trans ?_ (un _)
        exact kLoop_le (g := fun σ k' => kCode P C Sm (kFun P C Sm lf n) n fid lf base od rf false y σ (kFlip l k')) (fun σ k => fl σ k) lf σ _
      | some s =>
        simp only [Option.map_some]
        cases hfit : s.fits n fid od rf (some l) with
        | false => exact Le.none _
        | true =>
          simp only [cond_true]
          unfold LSum.fits at hfit
          simp only [Bool.and_eq_true] at hfit
          obtain ⟨⟨⟨⟨⟨⟨fl0, f0⟩, f1⟩, f2⟩, f3⟩, f4⟩, f5⟩ := hfit
          have fl0 := eqRf_eq fl0
          have f0 := eqRf_eq f0
          have f1 := Nat.eq_of_beq_eq_true f1
          have f2 := Nat.eq_of_beq_eq_true f2
          have f3 := eqNats_eq f3
          have f4 := eqNats_eq f4
          have f5 := eqNats_eq f5
          cases hz : s.shape.read σ with
          | none => exact Le.none _
          | some z =>
            simp only
            have hround : ∀ z, Le (s.step z) ((flipE l (exCode P C (hintsOf Sm) (exFun P C (hintsOf Sm) lf n) lf base od rf false y (s.shape.emb z))).bind fun p => s.roundK p.1 p.2) := by
              intro z
              unfold sumOf at hs
              cases hfr : firstReg y with
              | none => rw [hfr] at hs; simp at hs
              | some r =>
                rw [hfr] at hs
                have := hr base r s hs fn c0 y (by rw [f2]; exact hfn) hc0 (hl y (by simp [loopsOf, labB])) hfr z
                rw [f0, f1, f2, f3] at this
                unfold LSum.roundF at this
                rw [fl0] at this
                exact this.trans (fl _ _)
            have := sum_ok (f := fun σ => flipE l (exCode P C (hintsOf Sm) (exFun P C (hintsOf Sm) lf n) lf base od rf false y σ)) f3 f4 f5 hround lf σ z hz
            intro q hq
            cases hi : iter lf s.step z with
            | none => rw [hi] at hq; simp at hq
            | some r =>
              rw [hi] at hq this
              have h2 := this (s.fin r) rfl
              rw [h2]
              cases r with
              | inl y => exact un (some (.exit s.outI, s.out.emb y)) q hq
              | inr y => exact hq
  | R, sc, .cond c x y, σ, k, hl => by
    simp only [kCode, exCode]
    cases hv : σ.val c with
    | lit v =>
      cases v with
      | bool b =>
        rw [kTest_bool hv]
        cases b with
        | true => exact kCode_le hr hG hfn hc0 false x σ k (fun z hz => hl z (by simp [loopsOf, hz]))
        | false => exact kCode_le hr hG hfn hc0 false y σ k (fun z hz => hl z (by simp [loopsOf, hz]))
      | _ => simp only [kTest, hv]; exact Le.none _
    | _ => simp only [kTest, hv]; exact Le.none _
  | R, sc, .block id x, σ, k, hl => by
    simp only [kCode, exCode]
    refine (kCode_le hr hG hfn hc0 false x σ _ (fun z hz => hl z (by simpa [loopsOf] using hz))).trans ?_
    cases exCode P C (hintsOf Sm) (exFun P C (hintsOf Sm) lf n) lf base od rf false x σ with
    | none => exact Le.none _
    | some p =>
      obtain ⟨e, σ'⟩ := p
      cases e with
      | exit i => simp only [Option.bind_some]; cases Nat.beq i id <;> exact Le.refl _
      | _ => exact Le.refl _
  | R, sc, .loop x, σ, k, hl => by
    simp only [kCode, exCode]
    rw [hintOf_sum]
    cases hs : sumOf Sm base x with
    | none =>
      simp only [Option.map_none]
      have e1 : ∀ r, exOut od none r = r := by intro r; unfold exOut; split <;> rfl
      rw [e1]
      exact kLoop_le (fun σ k => kCode_le hr hG hfn hc0 false x σ k (fun z hz => hl z (by simp [loopsOf, hz]))) lf σ k
    | some s =>
      simp only [Option.map_some]
      cases hfit : s.fits n fid od rf none with
      | false => exact Le.none _
      | true =>
        simp only [cond_true]
        unfold LSum.fits at hfit
        simp only [Bool.and_eq_true] at hfit
        obtain ⟨⟨⟨⟨⟨⟨fl0, f0⟩, f1⟩, f2⟩, f3⟩, f4⟩, f5⟩ := hfit
        have fl0 := eqRf_eq fl0
        have f0 := eqRf_eq f0
        have f1 := Nat.eq_of_beq_eq_true f1
        have f2 := Nat.eq_of_beq_eq_true f2
        have f3 := eqNats_eq f3
        have f4 := eqNats_eq f4
        have f5 := eqNats_eq f5
        cases hz : s.shape.read σ with
        | none => exact Le.none _
        | some z =>
          simp only
          -- the loop's summary holds
          have hround : ∀ z, Le (s.step z) ((exCode P C (hintsOf Sm) (exFun P C (hintsOf Sm) lf n) lf base od rf false x (s.shape.emb z)).bind fun p => s.roundK p.1 p.2) := by
            intro z
            unfold sumOf at hs
            cases hfr : firstReg x with
            | none => rw [hfr] at hs; simp at hs
            | some r =>
              rw [hfr] at hs
              have := hr base r s hs fn c0 x (by rw [f2]; exact hfn) hc0 (hl x (by simp [loopsOf])) hfr z
              rw [f0, f1, f2, f3] at this
              unfold LSum.roundF at this
              rw [fl0] at this
              exact this.trans (kCode_le hr hG hfn hc0 false x _ _ (fun z hz => hl z (by simp [loopsOf, hz])))
          have := sum_ok f3 f4 f5 hround lf σ z hz
          intro q hq
          cases hi : iter lf s.step z with
          | none => rw [hi] at hq; simp at hq
          | some r =>
            rw [hi] at hq this
            have h2 := this (s.fin r) rfl
            rw [h2]
            cases r <;> exact hq
  | R, sc, .exit id, σ, k, _ => Le.refl _
  | R, sc, .label _, σ, k, _ => Le.refl _
  | R, sc, .ret, σ, k, _ => Le.refl _
  | R, sc, .rangeFunc g ps asn body, σ, k, _ => by simp only [kCode, exCode]; exact kRange_le hG _ _ _ _ _ _
  | R, sc, .scope x, σ, k, hl => by
    simp only [kCode, exCode]
    cases spineOK x with
    | false => exact Le.none _
    | true =>
      simp only [cond_true]
      refine (kCode_le hr hG hfn hc0 true x σ _ (fun z hz => hl z (by simpa [loopsOf] using hz))).trans ?_
      cases exCode P C (hintsOf Sm) (exFun P C (hintsOf Sm) lf n) lf base od rf true x σ with
      | none => exact Le.none _
      | some p =>
        obtain ⟨e, σ'⟩ := p
        cases e with
        | goto l => exact Le.none _
        | _ => exact Le.refl _
  | R, sc, .goto _, σ, k, _ => Le.refl _
  | R, sc, .refuse _, σ, k, _ => Le.none _

theorem kFun_le (hr : RoundsOK P C Sm lf) : ∀ (n : Nat) {R : Type}, InlLe (R := R) (exFun P C (hintsOf Sm) lf n) (kFun P C Sm lf n)
  | 0, R => fun base k as H L K => Le.none _
  | n + 1, R => fun base k as H L K => by
    cases k with
    | fn k =>
      simp only [kFun, exFun]
      cases hfn : P.funcs[k]? with
      | none => exact Le.none _
      | some fn =>
        simp only
        cases hb : fn.body with
        | none => exact Le.none _
        | some c =>
          simp only
          cases Nat.ble as.length fn.ntmps with
          | false => exact Le.none _
          | true =>
            simp only [cond_true]
            refine (kCode_le hr (fun {R} => kFun_le hr n) hfn hb false c _ _ (fun x hx => hx)).trans ?_
            cases exCode P C (hintsOf Sm) (exFun P C (hintsOf Sm) lf n) lf (Nat.succ base * 4294967296) L (some k) false c ⟨fn.ntmps, nthAV as, H, L⟩ with
            | none => exact Le.none _
            | some p =>
              obtain ⟨e, σ⟩ := p
              cases e with
              | nrm =>
                simp only [Option.bind_some, exEnd, kEnd]
                cases resAll P σ fn.results.toList <;> exact Le.refl _
              | ret =>
                simp only [Option.bind_some, exEnd, kEnd]
                cases resAll P σ fn.results.toList <;> exact Le.refl _
              | _ => exact Le.none _
    | yld i =>
      simp only [kFun, exFun]
      cases hin : rndIn P i as H L with
      | none => exact Le.none _
      | some p =>
        obtain ⟨k, r, x, σ⟩ := p
        simp only
        obtain ⟨fn, c, hfn, hc, hx⟩ := rangeIn_in (rndIn_in hin)
        obtain ⟨hl1, hl2⟩ := rangesOf_loops c x hx
        exact kRnd_le (fun σ K => kCode_le hr (fun {R} => kFun_le hr n) hfn hc false _ σ K hl1) (fun σ K => kCode_le hr (fun {R} => kFun_le hr n) hfn hc false _ σ K hl2) σ K

theorem kTop_le (hr : RoundsOK P C Sm lf) {n k : Nat} {ps : List Ty} {rs : List RTy} {x : Args ps} : Le (kTop P C Sm lf n k ps rs x) (top P C (hintsOf Sm) lf n k ps rs x) := by
  unfold kTop top
  refine (kFun_le hr n _ _ _ _ _ _).trans ?_
  cases exFun P C (hintsOf Sm) lf n 0 (.fn k) (encArgs ps x) (fun _ => none) [] with
  | none => exact Le.none _
  | some p => exact Le.refl _

/-- THE END OF IT: a contract, out of a tree of tests. -/
theorem con_of_tree [Glob] (hC : TabsOK P C) (hr : RoundsOK P C Sm lf) {n k : Nat} {c : Con}
    (h : ∀ x, kTop P C Sm lf n k c.ps c.rs x = c.f x) : c.OK P k :=
  con_of_top (Hn := hintsOf Sm) (lf := lf) (n := n) hC fun x y hf => kTop_le hr y (by rw [h x]; exact hf)

theorem rounds_none : RoundsOK P C (fun _ _ => none) lf := fun _ _ _ h => by simp at h
end
end Go.Sy
