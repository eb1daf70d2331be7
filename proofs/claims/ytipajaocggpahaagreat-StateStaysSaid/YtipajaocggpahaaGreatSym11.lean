/- That operations may come in whatever order their edges allow. -/
import Derived.Test.YtipajaocggpahaaGreatSym10
namespace Go.Sy
open Go Go.RowKit
set_option linter.unusedSimpArgs false
set_option linter.unusedVariables false

section
variable [Glob] {P : Program} {C : Cons} {ops : Array Oper} {σ σ' σ1 σ2 : St} {m : List Nat} {W : List (Option Nat)} {base : Nat}

omit [Glob] in
theorem hide_some {base n mask : Nat} {ot : List Nat} {H : Heap} {q : Nat} {o : HObj} (h : hideF base n mask ot H q = some o) : vis base n mask q = true ∧ H q = some o ∧ hasN ot q = false := by
  unfold hideF at h
  cases hv : vis base n mask q with
  | true =>
    rw [hv] at h
    cases ho : hasN ot q with
    | true => rw [ho] at h; simp at h
    | false => rw [ho] at h; exact ⟨rfl, h, rfl⟩
  | false => rw [hv] at h; simp at h

omit [Glob] in
/-- what an operation will write is hidden from those that may come ahead of it and behind it -/
theorem oth_has {n x i j : Nat} (hx : x < n) (hne : x ≠ i) (h1 : Nat.testBit (m.getD i 0) x = false) (h2 : Nat.testBit (m.getD x 0) i = false) (hW : W.getD x none = some j) : hasN (oth m W n i) j = true := by
  cases W with
  | nil => simp at hW
  | cons w0 W0 =>
  unfold hasN oth
  rw [List.any_eq_true]
  refine ⟨j, List.mem_filterMap.2 ⟨x, List.mem_range.2 hx, ?_⟩, by simp⟩
  have hb : Nat.beq x i = false := by
    cases hb : Nat.beq x i with
    | false => rfl
    | true => exact absurd (Nat.eq_of_beq_eq_true hb) hne
  rw [hb, h1, h2]
  exact hW

omit [Glob] in
theorem stat_ok {i x : Nat} {ox : Oper} (hx : ops[x]? = some ox) (h : statOK P ops m i = true) (hne : x ≠ i) (h1 : Nat.testBit (m.getD i 0) x = false) (h2 : Nat.testBit (m.getD x 0) i = false) : isR P ox = false := by
  unfold statOK at h
  have := List.all_eq_true.1 h x (List.mem_range.2 (Array.getElem?_eq_some_iff.1 hx).1)
  have hb : Nat.beq x i = false := by
    cases hb : Nat.beq x i with
    | false => rfl
    | true => exact absurd (Nat.eq_of_beq_eq_true hb) hne
  rw [hb, h1, h2, hx] at this
  simpa using this

omit [Glob] in
theorem tgtOK_W {i j x : Nat} {o ox : Oper} (hi : ops[i]? = some o) (hx : ops[x]? = some ox) (h : tgtOK P C ops m W i σ = true) (hw : isW C o = true) (ht : tgtAt σ.val o = some j) (hr : isR P ox = true) (hne : x ≠ i)
    (h1 : Nat.testBit (m.getD i 0) x = false) (h2 : Nat.testBit (m.getD x 0) i = false) : W.getD i none = some j := by
  unfold tgtOK at h
  rw [hi] at h
  simp only [hw, cond_true, ht, Bool.or_eq_true] at h
  rcases h with h | h
  · cases hg : W.getD i none with
    | none => rw [hg] at h; simp [eqO] at h
    | some k => rw [hg] at h; simp only [eqO] at h; rw [Nat.eq_of_beq_eq_true h]
  · rw [stat_ok hx h hne h1 h2] at hr; simp at hr

omit [Glob] in
theorem tgtAt_congr {o : Oper} {ρ ρ' : Operand → AV} (h : ∀ x ∈ o.op.operands, ρ' x = ρ x) : tgtAt ρ' o = tgtAt ρ o := by
  obtain ⟨dst, op, ty, pos, af, gd⟩ := o
  unfold tgtAt
  cases op <;> simp only [Op.operands] at h <;> simp only
  case store t a x => rw [h a (by simp)]
  case next x s => rw [h x (by simp)]
  case mapEntry t m k => rw [h m (by simp)]
  case mapUpdate t m k x => rw [h m (by simp)]
  case entryStore t m s x => rw [h m (by simp)]
  case call c =>
    cases hl : c.args.toList with
    | nil => rfl
    | cons a l =>
      refine congrArg avId (h a ?_)
      have : a ∈ c.args := by rw [← Array.mem_toList_iff, hl]; simp
      unfold Call.operands
      cases c.callee <;> simp [this]

omit [Glob] in
theorem tgtOK_congr {i : Nat} {o : Oper} (hi : ops[i]? = some o) (hn : σ'.nt = σ.nt) (h : ∀ t, t ∈ o.looksAt ops → σ'.tmps t = σ.tmps t) : tgtOK P C ops m W i σ' = tgtOK P C ops m W i σ := by
  unfold tgtOK
  rw [hi]
  simp only
  rw [tgtAt_congr (ρ := σ.val) (ρ' := σ'.val) fun x hx => val_congr hn fun t e => by
    subst e
    refine h t ?_
    unfold Oper.looksAt
    exact List.mem_append.2 (.inl (List.mem_filterMap.2 ⟨.tmp t, by simpa using hx, rfl⟩))]

omit [Glob] in
/-- what stands in another operation's site is not seen -/
theorem not_vis {base n mask x q : Nat} (hx : x < n) (h1 : base + x * 16 ≤ q) (h2 : q < base + x * 16 + 16) (hm : Nat.testBit mask x = false) : vis base n mask q = false := by
  unfold vis
  have a1 : Nat.ble base q = true := Nat.ble_eq_true_of_le (by omega)
  have a2 : ltN q (base + n * 16) = true := ltN_true (by omega)
  have a3 : (q - base) / 16 = x := by omega
  rw [a1, a2, a3]
  exact hm

omit [Glob] in
theorem eff_cases {σ σ' : St} {id : Nat} {dst : Option Tmp} {e : Eff} (h : σ.eff id dst e = some σ') :
    (e.new = true → freshAll σ.heap e.sets = true ∧ inSite id e.sets = true) ∧ (σ.with (setAll σ.heap e.sets)).put dst e.v = some σ' := by
  unfold St.eff at h
  cases hn : e.new with
  | false => rw [hn] at h; exact ⟨fun h => by simp at h, h⟩
  | true =>
    rw [hn] at h
    cases hb : (freshAll σ.heap e.sets && inSite id e.sets) with
    | false => rw [hb] at h; simp at h
    | true =>
      rw [hb] at h
      simp only [Bool.and_eq_true] at hb
      exact ⟨fun _ => hb, h⟩

omit [Glob] in
theorem eff_mk {σ σ' : St} {id : Nat} {dst : Option Tmp} {e : Eff} (h1 : e.new = true → freshAll σ.heap e.sets = true ∧ inSite id e.sets = true)
    (h2 : (σ.with (setAll σ.heap e.sets)).put dst e.v = some σ') : σ.eff id dst e = some σ' := by
  unfold St.eff
  cases hn : e.new with
  | false => exact h2
  | true => rw [(h1 hn).1, (h1 hn).2]; exact h2

omit [Glob] in
theorem put_facts {σ σ' : St} {H : Heap} {dst : Option Tmp} {v : AV} (h : (σ.with H).put dst v = some σ') :
    σ'.nt = σ.nt ∧ σ'.heap = H ∧ (∀ t, dst ≠ some t → σ'.tmps t = σ.tmps t) := by
  cases dst with
  | none => simp only [St.put, Option.some.injEq] at h; subst h; exact ⟨rfl, rfl, fun _ _ => rfl⟩
  | some d =>
    obtain ⟨_, rfl⟩ := cond_some h
    exact ⟨rfl, rfl, fun t ht => upd_ne _ _ (fun e => ht (by rw [e]))⟩

omit [Glob] in
theorem put_swap {σ σ1 σ2 : St} {H1 H2 H3 : Heap} {d1 d2 : Option Tmp} {v1 v2 : AV} (h1 : (σ.with H1).put d1 v1 = some σ1) (h2 : (σ1.with H2).put d2 v2 = some σ2)
    (hd : ∀ d, d1 = some d → d2 ≠ some d) : ∃ σ3, (σ.with H3).put d2 v2 = some σ3 ∧ (σ3.with H2).put d1 v1 = some σ2 := by
  cases d1 with
  | none =>
    simp only [St.put, Option.some.injEq] at h1; subst h1
    cases d2 with
    | none => simp only [St.put, Option.some.injEq] at h2; subst h2; exact ⟨_, rfl, rfl⟩
    | some d => obtain ⟨c, rfl⟩ := cond_some h2; exact ⟨⟨σ.nt, upd σ.tmps d v2, H3, σ.ids⟩, by simp only [St.put, St.with] at c ⊢; rw [c]; rfl, rfl⟩
  | some d =>
    obtain ⟨c1, rfl⟩ := cond_some h1
    cases d2 with
    | none =>
      simp only [St.put, Option.some.injEq] at h2; subst h2
      exact ⟨_, rfl, by simp only [St.put, St.with] at c1 ⊢; rw [c1]; rfl⟩
    | some e =>
      obtain ⟨c2, rfl⟩ := cond_some h2
      simp only [St.with] at c1 c2
      refine ⟨⟨σ.nt, upd σ.tmps e v2, H3, σ.ids⟩, by simp only [St.put, St.with]; rw [c2]; rfl, ?_⟩
      simp only [St.put, St.with]
      rw [c1]
      have hne : d ≠ e := fun h => hd d rfl (by rw [h])
      simp only [cond_true, Option.some.injEq, St.mk.injEq, true_and, and_true]
      exact (upd_comm σ.tmps v1 v2 hne).symm

omit [Glob] in
theorem swap {x i : Nat} {ox oi : Oper} (hx : ops[x]? = some ox) (hi : ops[i]? = some oi) (hind : indep P C ops m x i ox oi = true) (hxi : x ≠ i)
    (h1 : exH P C ops m W base x σ = some σ1) (h2 : exH P C ops m W base i σ1 = some σ2) :
    ∃ σ3, exH P C ops m W base i σ = some σ3 ∧ exH P C ops m W base x σ3 = some σ2 := by
  have hxn : x < ops.size := (Array.getElem?_eq_some_iff.1 hx).1
  have hin : i < ops.size := (Array.getElem?_eq_some_iff.1 hi).1
  unfold indep at hind
  simp only [Bool.and_eq_true, Bool.not_eq_true', Bool.and_eq_false_iff] at hind
  obtain ⟨⟨hap, hb1⟩, hb2⟩ := hind
  obtain ⟨p1, p2, p3⟩ := Oper.apart_spec hap
  unfold exH at h1 h2 ⊢
  obtain ⟨t1, h1⟩ := cond_out h1
  obtain ⟨t2, h2⟩ := cond_out h2
  rw [exOp_stepE hx] at h1
  rw [exOp_stepE hi] at h2
  cases he1 : stepE P C ops (hideF base ops.size (m.getD x 0) (oth m W ops.size x) σ.heap) (base + x * 16) ox σ with
  | none => rw [he1] at h1; simp at h1
  | some ex =>
    rw [he1] at h1
    simp only at h1
    cases he2 : stepE P C ops (hideF base ops.size (m.getD i 0) (oth m W ops.size i) σ1.heap) (base + i * 16) oi σ1 with
    | none => rw [he2] at h2; simp at h2
    | some ei =>
      rw [he2] at h2
      simp only at h2
      obtain ⟨q1, q2⟩ := eff_cases h1
      obtain ⟨r1, r2⟩ := eff_cases h2
      obtain ⟨f1, f2, f3⟩ := put_facts q2
      have okx := stepE_ok he1
      have oki := stepE_ok he2
      -- the second one comes to the same ahead of the first one
      have hH : isR P oi = true → hideF base ops.size (m.getD i 0) (oth m W ops.size i) σ.heap = hideF base ops.size (m.getD i 0) (oth m W ops.size i) σ1.heap := by
        intro hr
        funext q
        unfold hideF
        cases hv : (vis base ops.size (m.getD i 0) q && !hasN (oth m W ops.size i) q) with
        | false => rfl
        | true =>
          simp only [cond_true]
          simp only [Bool.and_eq_true, Bool.not_eq_true'] at hv
          obtain ⟨hv, hv2⟩ := hv
          rw [f2]
          symm
          refine setAll_other _ _ _ fun hq => ?_
          rcases okx with h0 | h0 | ⟨h0, j, ob, hs, hj, ht⟩
          · rw [h0] at hq; simp [ids] at hq
          · have := inSite_mem (q1 h0).2 q hq
            have := not_vis (mask := m.getD i 0) hxn this.1 this.2 hb1
            rw [hv] at this; simp at this
          · rw [hs] at hq
            simp only [ids, List.map_cons, List.map_nil, List.mem_singleton] at hq
            subst hq
            rw [oth_has hxn hxi hb1 hb2 (tgtOK_W hx hi t1 h0 ht hr (Ne.symm hxi) hb2 hb1)] at hv2
            simp at hv2
      have hsi : stepE P C ops (hideF base ops.size (m.getD i 0) (oth m W ops.size i) σ.heap) (base + i * 16) oi σ = some ei := by
        rw [← he2]
        refine stepE_congr f1.symm (fun t ht => ?_) hH
        exact (f3 t (fun e => p1 t e ht)).symm
      -- what both set lies apart
      have hdis : ∀ q ∈ ids ex.sets, q ∉ ids ei.sets := by
        intro q hq hq2
        rcases okx with h0 | h0 | ⟨h0, j, ob, hs, hj, ht⟩
        · rw [h0] at hq; simp [ids] at hq
        · have a1 := inSite_mem (q1 h0).2 q hq
          rcases oki with k0 | k0 | ⟨k0, j, ob, ks, kj, kt⟩
          · rw [k0] at hq2; simp [ids] at hq2
          · have a2 := inSite_mem (r1 k0).2 q hq2
            omega
          · rw [ks] at hq2
            simp only [ids, List.map_cons, List.map_nil, List.mem_singleton] at hq2
            subst hq2
            cases ho : hideF base ops.size (m.getD i 0) (oth m W ops.size i) σ1.heap q with
            | none => rw [ho] at kj; simp at kj
            | some o =>
              have := (hide_some ho).1
              rw [not_vis (mask := m.getD i 0) hxn a1.1 a1.2 hb1] at this; simp at this
        · rw [hs] at hq
          simp only [ids, List.map_cons, List.map_nil, List.mem_singleton] at hq
          subst hq
          have hjs : (σ.heap q).isSome = true := by
            cases ho : hideF base ops.size (m.getD x 0) (oth m W ops.size x) σ.heap q with
            | none => rw [ho] at hj; simp at hj
            | some o => rw [(hide_some ho).2.1]; rfl
          rcases oki with k0 | k0 | ⟨k0, j2, ob2, ks, kj, kt⟩
          · rw [k0] at hq2; simp [ids] at hq2
          · have := freshAll_none _ _ (r1 k0).1 q hq2
            rw [f2, hs] at this
            simp only [setAll, upd_same] at this
            simp at this
          · rw [ks] at hq2
            simp only [ids, List.map_cons, List.map_nil, List.mem_singleton] at hq2
            subst hq2
            cases ho : hideF base ops.size (m.getD i 0) (oth m W ops.size i) σ1.heap q with
            | none => rw [ho] at kj; simp at kj
            | some o =>
              have := (hide_some ho).2.2
              rw [oth_has hxn hxi hb1 hb2 (tgtOK_W hx hi t1 h0 ht (isW_isR k0) (Ne.symm hxi) hb2 hb1)] at this
              simp at this
      obtain ⟨σ3, g1, g2⟩ := put_swap (H3 := setAll σ.heap ei.sets) q2 r2 p2
      obtain ⟨l1, l2, l3⟩ := put_facts g1
      have hside : σ.eff (base + i * 16) oi.dst ei = some σ3 := eff_mk (fun hn => ⟨by
        rw [← (r1 hn).1, f2]
        symm
        exact freshAll_ext _ _ _ fun q hq => setAll_other _ _ _ fun hq2 => hdis q hq2 hq, (r1 hn).2⟩) g1
      have t2' : tgtOK P C ops m W i σ = true := by rw [← t2]; exact tgtOK_congr hi f1.symm fun t ht => (f3 t (fun e => p1 t e ht)).symm
      have t1' : tgtOK P C ops m W x σ3 = true := by rw [← t1]; exact tgtOK_congr hx l1 fun t ht => l3 t (fun e => p3 t e ht)
      refine ⟨σ3, by rw [t2', exOp_stepE hi, hsi]; exact hside, ?_⟩
      -- and the first one to the same behind the second one
      have hH2 : isR P ox = true → hideF base ops.size (m.getD x 0) (oth m W ops.size x) σ3.heap = hideF base ops.size (m.getD x 0) (oth m W ops.size x) σ.heap := by
        intro hr
        funext q
        unfold hideF
        cases hv : (vis base ops.size (m.getD x 0) q && !hasN (oth m W ops.size x) q) with
        | false => rfl
        | true =>
          simp only [cond_true]
          simp only [Bool.and_eq_true, Bool.not_eq_true'] at hv
          obtain ⟨hv, hv2⟩ := hv
          rw [l2]
          refine setAll_other _ _ _ fun hq => ?_
          rcases oki with h0 | h0 | ⟨h0, j, ob, hs, hj, ht⟩
          · rw [h0] at hq; simp [ids] at hq
          · have := inSite_mem (r1 h0).2 q hq
            have := not_vis (mask := m.getD x 0) hin this.1 this.2 hb2
            rw [hv] at this; simp at this
          · rw [hs] at hq
            simp only [ids, List.map_cons, List.map_nil, List.mem_singleton] at hq
            subst hq
            rw [oth_has hin (Ne.symm hxi) hb2 hb1 (tgtOK_W hi hx t2 h0 ht hr hxi hb1 hb2)] at hv2
            simp at hv2
      have hsx : stepE P C ops (hideF base ops.size (m.getD x 0) (oth m W ops.size x) σ3.heap) (base + x * 16) ox σ3 = some ex := by
        rw [← he1]
        refine stepE_congr l1 (fun t ht => l3 t (fun e => p3 t e ht)) hH2
      rw [t1', exOp_stepE hx, hsx]
      simp only [cond_true]
      refine eff_mk (fun hn => ⟨by
        rw [← (q1 hn).1, l2]
        exact freshAll_ext _ _ _ fun q hq => setAll_other _ _ _ fun hq2 => hdis q hq hq2, (q1 hn).2⟩) ?_
      rw [l2, ← setAll_comm _ _ _ hdis, ← f2]
      exact g2

omit [Glob] in
theorem front {i : Nat} {oi : Oper} (hi : ops[i]? = some oi) : ∀ (p s : List Nat) (σ : St), (∀ x ∈ p, x ≠ i ∧ ∃ ox, ops[x]? = some ox ∧ indep P C ops m x i ox oi = true) →
    exHs P C ops m W base (p ++ i :: s) σ = some σ' → ∃ σ1, exH P C ops m W base i σ = some σ1 ∧ exHs P C ops m W base (p ++ s) σ1 = some σ'
  | [], s, σ, _, h => by
    simp only [List.nil_append, exHs] at h
    split at h
    · rename_i σ1 h1; exact ⟨σ1, h1, h⟩
    · simp at h
  | x :: p, s, σ, hp, h => by
    simp only [List.cons_append, exHs] at h
    split at h
    · rename_i σx hx
      obtain ⟨σ1, k1, k2⟩ := front hi p s σx (fun y hy => hp y (by simp [hy])) h
      obtain ⟨hne, ox, hox, hind⟩ := hp x (by simp)
      obtain ⟨σ3, q1, q2⟩ := swap hox hi hind hne hx k1
      exact ⟨σ3, q1, by simp only [List.cons_append, exHs, q2]; exact k2⟩
    · simp at h

/-! which operations an operation stands behind -/
omit [Glob] in
theorem maskFold_bit (m : List Nat) (x : Nat) : ∀ (l : List Edge) (s : Nat), Nat.testBit (l.foldl (fun s e => cond (Region.binds .any e) (s ||| 2 ^ e.on ||| m.getD e.on 0) s) s) x = true →
    Nat.testBit s x = true ∨ ∃ e ∈ l, Region.binds .any e = true ∧ (x = e.on ∨ Nat.testBit (m.getD e.on 0) x = true)
  | [], s, h => .inl h
  | e :: l, s, h => by
    simp only [List.foldl_cons] at h
    rcases maskFold_bit m x l _ h with h | ⟨e', h1, h2⟩
    · cases hb : Region.binds .any e with
      | false => rw [hb] at h; exact .inl h
      | true =>
        rw [hb] at h
        simp only [cond_true, Nat.testBit_or, Bool.or_eq_true, Nat.testBit_two_pow] at h
        rcases h with (h | h) | h
        · exact .inl h
        · exact .inr ⟨e, by simp, hb, .inl (by simpa using Eq.symm (by simpa using h))⟩
        · exact .inr ⟨e, by simp, hb, .inr h⟩
    · exact .inr ⟨e', by simp [h1], h2⟩

structure RegOK (P : Program) (C : Cons) (ops : Array Oper) (m : List Nat) : Prop where
  mixed : P.follows .mixedOrders = true
  mask : ∀ i o, ops[i]? = some o → m.getD i 0 = maskOf m o
  edge : ∀ i o, ops[i]? = some o → ∀ e ∈ o.after.toList, Region.binds .any e = true → e.on < i
  pair : ∀ x i, x < i → ∀ ox oi, ops[x]? = some ox → ops[i]? = some oi → Nat.testBit (m.getD i 0) x = true ∨ indep P C ops m x i ox oi = true

omit [Glob] in
theorem regionOK_spec (h : regionOK P C ops m = true) : RegOK P C ops m := by
  unfold regionOK at h
  simp only [Bool.and_eq_true, List.all_eq_true, List.mem_range] at h
  obtain ⟨h1, h2⟩ := h
  have key : ∀ i o, ops[i]? = some o → (Nat.beq (m.getD i 0) (maskOf m o) = true ∧ edgesOK o i = true) ∧ ∀ x, x < i → pairOK P C ops m x i = true := by
    intro i o ho
    have := h2 i (Array.getElem?_eq_some_iff.1 ho).1
    rw [ho] at this
    simpa only [Bool.and_eq_true, List.all_eq_true, List.mem_range] using this
  refine ⟨h1, fun i o ho => Nat.eq_of_beq_eq_true (key i o ho).1.1, fun i o ho e he hb => ?_, fun x i hx ox oi hox hoi => ?_⟩
  · have := (key i o ho).1.2
    unfold edgesOK at this
    rw [List.all_eq_true] at this
    have := this e he
    rw [hb] at this
    exact of_ltN this
  · have := (key i oi hoi).2 x hx
    unfold pairOK at this
    rw [hox, hoi] at this
    simpa only [Bool.or_eq_true] using this

/-- those that are not done yet -/
def rem (n : Nat) (L : Array Bool) : List Nat := (List.range n).filter fun i => !L.getD i true

def Closed (m : List Nat) (L : Array Bool) : Prop := ∀ i, L.getD i false = true → ∀ x, Nat.testBit (m.getD i 0) x = true → L.getD x false = true

omit [Glob] in
theorem ready_spec {L : Array Bool} {i : Nat} (h : i ∈ Region.ready .any ops L) :
    i < ops.size ∧ L.getD i true = false ∧ ∃ o, ops[i]? = some o ∧ ∀ e ∈ o.after.toList, Region.binds .any e = true → L.getD e.on false = true := by
  unfold Region.ready at h
  simp only [List.mem_filter, List.mem_range, Bool.and_eq_true, Bool.not_eq_true'] at h
  obtain ⟨h1, h2, h3⟩ := h
  refine ⟨h1, h2, ops[i], by simp [h1], fun e he hb => ?_⟩
  simp only [h1, getElem?_pos, Option.map_some, Option.getD_some, Array.all_eq_true_iff_forall_mem, Bool.or_eq_true, Bool.not_eq_true'] at h3
  have := h3 e (by simpa using he)
  rw [hb] at this
  simpa using this

omit [Glob] in
theorem ready_mk {L : Array Bool} {i : Nat} {o : Oper} (ho : ops[i]? = some o) (h2 : L.getD i true = false) (h3 : ∀ e ∈ o.after.toList, Region.binds .any e = true → L.getD e.on false = true) :
    i ∈ Region.ready .any ops L := by
  unfold Region.ready
  simp only [List.mem_filter, List.mem_range, Bool.and_eq_true, Bool.not_eq_true']
  refine ⟨(Array.getElem?_eq_some_iff.1 ho).1, h2, ?_⟩
  rw [ho]
  simp only [Option.map_some, Option.getD_some, Array.all_eq_true_iff_forall_mem, Bool.or_eq_true, Bool.not_eq_true']
  intro e he
  cases hb : Region.binds .any e with
  | false => exact .inl rfl
  | true => exact .inr (h3 e (by simpa using he) hb)

omit [Glob] in
theorem getD_set {L : Array Bool} {i : Nat} (d : Bool) (h : i < L.size) (j : Nat) : (L.setIfInBounds i true).getD j d = if j = i then true else L.getD j d := by
  simp only [Array.getD_eq_getD_getElem?]
  by_cases e : j = i
  · subst e; simp [h]
  · rw [Array.getElem?_setIfInBounds_ne (Ne.symm e), if_neg e]

omit [Glob] in
/-- Those that are left, with one among them: what stands ahead of it, and behind. -/
theorem rem_split {n : Nat} {L : Array Bool} {i : Nat} (hs : L.size = n) (hi : i < n) (hl : L.getD i true = false) :
    ∃ p s, rem n L = p ++ i :: s ∧ rem n (L.setIfInBounds i true) = p ++ s ∧ (∀ x ∈ p, x < i ∧ L.getD x true = false) := by
  have hr : List.range n = List.range i ++ i :: (List.range' (i + 1) (n - i - 1)) := by
    rw [List.range_eq_range', List.range_eq_range', show n = i + (1 + (n - i - 1)) from by omega, ← List.range'_append_1, Nat.zero_add, ← List.range'_append_1]
    simp only [List.range'_succ, List.range'_zero, List.singleton_append]
    congr 3
    omega
  refine ⟨(List.range i).filter fun j => !L.getD j true, (List.range' (i + 1) (n - i - 1)).filter fun j => !L.getD j true, ?_, ?_, fun x hx => ?_⟩
  · unfold rem
    rw [hr, List.filter_append, List.filter_cons_of_pos (by simp [hl])]
  · unfold rem
    rw [hr, List.filter_append, List.filter_cons_of_neg (by rw [getD_set true (by omega)]; simp)]
    congr 1
    · refine List.filter_congr fun x hx => ?_
      have : x < i := List.mem_range.1 hx
      rw [getD_set true (by omega), if_neg (by omega)]
    · refine List.filter_congr fun x hx => ?_
      have := List.mem_range'_1.1 hx
      rw [getD_set true (by omega), if_neg (by omega)]
  · simp only [List.mem_filter, List.mem_range, Bool.not_eq_true'] at hx
    exact hx

theorem exAny_wp (hC : TabsOK P C) {r : Option Nat} {N : Stable} {B : Nat} {w0 : World} {Q : Exit → Act → World → Prop} (hr : RegOK P C ops m) :
    ∀ (fuel : Nat) (L : Array Bool) (σ : St) (a : Act) (w : World) (μ : Mu) (S : Stable), L.size = ops.size → (rem ops.size L).length ≤ fuel → Closed m L →
      exHs P C ops m W base (rem ops.size L) σ = some σ' → AR N μ S σ a → Rel μ S σ.heap B w0 w →
      (∀ a' w' μ' S', AR N μ' S' σ' a' → Rel μ' S' σ'.heap B w0 w' → Carry B μ S σ.heap μ' S' σ'.heap → Q .normal a' w') →
      wpAnyIn (WF r) 0 P .any ops Q fuel L a w := by
  intro fuel
  -- where nothing is ready, nothing is left
  have none_left : ∀ (L : Array Bool), Region.ready .any ops L = [] → rem ops.size L = [] := by
    intro L hL
    have all : ∀ i, i < ops.size → L.getD i true = true := by
      intro i
      induction i using Nat.strongRecOn with
      | _ i ih =>
        intro hi
        cases hd : L.getD i true with
        | true => rfl
        | false =>
          have ho : ops[i]? = some ops[i] := by simp [hi]
          have := ready_mk ho hd fun e he hb => by
            have hlt := hr.edge i _ ho e he hb
            have := ih e.on hlt (by omega)
            rw [Array.getD_eq_getD_getElem?] at this ⊢
            cases hx : L[e.on]? with
            | some b => rw [hx] at this; simpa using this
            | none =>
              -- past the end: the operation itself is past the end, too
              rw [hx] at this
              exfalso
              have h1 : L.size ≤ e.on := by simpa using hx
              have h2 : L.getD i true = true := by rw [Array.getD_eq_getD_getElem?]; rw [Array.getElem?_eq_none (by omega)]; rfl
              rw [h2] at hd; simp at hd
          rw [hL] at this; simp at this
    unfold rem
    rw [List.filter_eq_nil_iff]
    intro i hi
    rw [all i (List.mem_range.1 hi)]; simp
  induction fuel with
  | zero =>
    intro L σ a w μ S hs hf hcl h A R hK
    have hnil : rem ops.size L = [] := List.eq_nil_of_length_eq_zero (by omega)
    rw [hnil] at h
    simp only [exHs, Option.some.injEq] at h; subst h
    refine ⟨?_, hK a w μ S A R Carry.refl⟩
    cases hrd : Region.ready .any ops L with
    | nil => rfl
    | cons i l =>
      have := ready_spec (L := L) (i := i) (ops := ops) (by rw [hrd]; simp)
      obtain ⟨p, s, h1, _⟩ := rem_split hs this.1 this.2.1
      rw [hnil] at h1; simp at h1
  | succ fuel ih =>
    intro L σ a w μ S hs hf hcl h A R hK
    refine ⟨fun hrd => ?_, fun i hi => ?_⟩
    · rw [none_left L hrd] at h
      simp only [exHs, Option.some.injEq] at h; subst h
      exact hK a w μ S A R Carry.refl
    · obtain ⟨hin, hli, oi, hoi, hed⟩ := ready_spec hi
      obtain ⟨p, s, e1, e2, hp⟩ := rem_split hs hin hli
      rw [e1] at h
      have hind : ∀ x ∈ p, x ≠ i ∧ ∃ ox, ops[x]? = some ox ∧ indep P C ops m x i ox oi = true := by
        intro x hx
        obtain ⟨hlt, hlx⟩ := hp x hx
        have hox : ops[x]? = some ops[x] := by simp [show x < ops.size from by omega]
        refine ⟨by omega, _, hox, ?_⟩
        rcases hr.pair x i hlt _ _ hox hoi with hb | hb
        · exfalso
          rw [hr.mask i oi hoi] at hb
          rcases maskFold_bit m x _ _ hb with h0 | ⟨e, he, hbd, h0⟩
          · simp at h0
          · have hle := hed e he hbd
            have hLx : L.getD x false = true := by
              rcases h0 with rfl | h0
              · exact hle
              · exact hcl e.on hle x h0
            have hsz : x < L.size := by omega
            simp [Array.getD_eq_getD_getElem?, hsz] at hLx hlx
            rw [hLx] at hlx; simp at hlx
        · exact hb
      obtain ⟨σ1, k1, k2⟩ := front hoi p s σ hind h
      unfold exH at k1
      obtain ⟨_, k1⟩ := cond_out k1
      refine exOp_ok hC (F := noInl) (fun _ _ _ _ _ _ _ _ h => by simp [noInl] at h) (fun H j o h => (hide_some h).2.1) k1 (.inr rfl) A R fun a1 w1 μ1 S1 A1 R1 C1 => ?_
      have hsz : i < L.size := by omega
      refine ih (L.setIfInBounds i true) σ1 a1 w1 μ1 S1 (by simp [hs]) ?_ ?_ (by rw [e2]; exact k2) A1 R1 (fun a' w' μ' S' A' R' C' => hK a' w' μ' S' A' R' (C1.trans C'))
      · rw [e1] at hf
        rw [e2]
        simp at hf ⊢; omega
      · intro j hj x hx
        rw [getD_set false hsz] at hj ⊢
        by_cases e : x = i
        · rw [if_pos e]
        · rw [if_neg e]
          by_cases ej : j = i
          · subst ej
            rw [hr.mask j oi hoi] at hx
            rcases maskFold_bit m x _ _ hx with h0 | ⟨e', he, hbd, h0⟩
            · simp at h0
            · have hle := hed e' he hbd
              rcases h0 with rfl | h0
              · exact hle
              · exact hcl e'.on hle x h0
          · rw [if_neg ej] at hj
            exact hcl j hj x hx

/-- A region that draws its order. -/
theorem exAny_ok (hC : TabsOK P C) {r : Option Nat} {N : Stable} {B : Nat} {w w0 : World} {a : Act} {μ : Mu} {S : Stable} {Q : Exit → Act → World → Prop} {id : Nat} (h : exAny P C ops base σ = some σ') (A : AR N μ S σ a) (R : Rel μ S σ.heap B w0 w)
    (hK : ∀ a' w' μ' S', AR N μ' S' σ' a' → Rel μ' S' σ'.heap B w0 w' → Carry B μ S σ.heap μ' S' σ'.heap → Q .normal a' w') : (Code.region id ops true).wpIn (WF r) 0 P Q a w := by
  unfold exAny at h
  cases hr : regionOK P C ops (masks ops) with
  | false => rw [hr] at h; simp at h
  | true =>
    rw [hr] at h
    have hr := regionOK_spec hr
    simp only [cond_true] at h
    split at h
    case h_2 => simp at h
    rename_i σ1 h1
    cases h
    refine wpIn_region_any hr.mixed ?_
    have hrem : rem ops.size (Array.replicate ops.size false) = List.range ops.size := by
      unfold rem
      rw [List.filter_eq_self]
      intro i hi
      have := List.mem_range.1 hi
      simp [Array.getD_eq_getD_getElem?, this]
    have R' : Rel μ S σ.heap B w0 w.drew := ⟨R.below.drew, R.size, R.st, R.dom, fun i o ho => by
      obtain ⟨l, h1, h2⟩ := R.obj i o ho
      refine ⟨l, h1, ?_⟩
      cases o <;> exact h2, R.sep, R.pre⟩
    refine exAny_wp hC hr ops.size _ σ a w.drew μ S (by simp) (by rw [hrem]; simp) ?_ (by rw [hrem]; exact h1) A R' (fun a' w' μ' S' A' R' C' => hK a' w' μ' S' A'.addIds R' C')
    intro i hi x hx
    by_cases hlt : i < ops.size
    · simp [Array.getD_eq_getD_getElem?, hlt] at hi
    · simp [Array.getD_eq_getD_getElem?, hlt] at hi
end
end Go.Sy
