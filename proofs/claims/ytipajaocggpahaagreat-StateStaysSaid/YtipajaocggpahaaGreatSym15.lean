/- A contract out of a run. -/
import Derived.Test.YtipajaocggpahaaGreatSym14
namespace Go.Sy
open Go Go.RowKit
set_option linter.unusedSimpArgs false
set_option linter.unusedVariables false

section
variable [Glob] {P : Program} {w w' w0 : World} {μ : Mu} {S S' : Stable} {H Hv : Heap} {B : Nat}

omit [Glob] in
theorem encV_VR {t : Ty} {x : t.T} {v : Value} (h : RdV S t x v) : VR μ S H (encV t x) v := by
  unfold RdV at h
  unfold encV
  cases ha : t.isAgg with
  | true =>
    rw [ha, if_pos rfl] at h
    obtain ⟨cs, rfl, h⟩ := h
    simp only [cond_true, VR]
    exact ⟨cs, rfl, enc_VRs t x _ h⟩
  | false =>
    rw [ha, if_neg (by simp)] at h
    have := enc_VRs (μ := μ) (H := H) t x _ h
    have hl := VRs_length this
    simp only [cond_false]
    match he : enc t x, this, hl with
    | [a], this, _ => simp only [VRs] at this; obtain ⟨_, _, e, k, _⟩ := this; cases e; exact k
    | [], _, hl => simp at hl
    | _ :: _ :: _, _, hl => simp at hl

omit [Glob] in
theorem encArgs_VRs : ∀ {ps : List Ty} {x : Args ps} {vs : List Value}, RdArgs S ps x vs → VRs μ S H (encArgs ps x) vs
  | [], x, vs, h => by simp only [RdArgs] at h; subst h; simp [encArgs, VRs]
  | t :: ts, x, vs, h => by
    obtain ⟨v, r, rfl, h1, h2⟩ := h
    simp only [encArgs, VRs]
    exact ⟨v, r, rfl, encV_VR h1, encArgs_VRs h2⟩

/-- what is owned, and by which numbers -/
inductive OI (μ : Mu) : List OwnR → List Nat → Prop
  | nil : OI μ [] []
  | nilr {q os o} : q.loc.blk = none → OI μ os o → OI μ (q :: os) o
  | own {q os i o} : μ i = some q.loc → OI μ os o → OI μ (q :: os) (i :: o)

omit [Glob] in
theorem OI.append {os os' : List OwnR} {o o' : List Nat} (h : OI μ os o) (h' : OI μ os' o') : OI μ (os ++ os') (o ++ o') := by
  induction h with
  | nil => exact h'
  | nilr h1 _ ih => exact .nilr h1 ih
  | own h1 _ ih => exact .own h1 ih

omit [Glob] in
theorem OI.mem {os : List OwnR} {o : List Nat} (h : OI μ os o) : ∀ q ∈ os, q.loc.blk = none ∨ ∃ i ∈ o, μ i = some q.loc := by
  induction h with
  | nil => simp
  | nilr h1 _ ih =>
    intro q hq
    rcases List.mem_cons.1 hq with rfl | hq
    · exact .inl h1
    · exact ih q hq
  | own h1 _ ih =>
    intro q hq
    rcases List.mem_cons.1 hq with rfl | hq
    · exact .inr ⟨_, by simp, h1⟩
    · rcases ih q hq with h | ⟨i, h2, h3⟩
      · exact .inl h
      · exact .inr ⟨i, by simp [h2], h3⟩

theorem OI.apart (R : Rel μ S H B w0 w) {os : List OwnR} {o : List Nat} (h : OI μ os o) : distinct o = true → os.Pairwise ApartR := by
  induction h with
  | nil => intro; exact .nil
  | nilr h1 h2 ih =>
    intro hd
    refine List.pairwise_cons.2 ⟨fun q hq b hb => ?_, ih hd⟩
    rw [h1] at hb; simp at hb
  | @own p os i o h1 h2 ih =>
    intro hd
    simp only [distinct, Bool.and_eq_true, Bool.not_eq_true'] at hd
    refine List.pairwise_cons.2 ⟨fun q hq b hb => ?_, ih hd.2⟩
    rcases h2.mem q hq with h | ⟨j, hj, h3⟩
    · rw [h]; simp
    · refine R.sep i j _ _ b (fun e => ?_) h1 h3 hb
      subst e
      have := List.any_eq_false.1 hd.1 i hj
      simp at this

theorem row_own (R : Rel μ S H B w0 w) {i : Nat} {te : TypeId} {e : Ty} {g : Nat} {xs : List e.T} (hi : H i = some (.row te e g xs)) {l : Lc} (hm : μ i = some l) : OwnOK S w B ⟨l, te, e, xs⟩ := by
  obtain ⟨l', h1, h2⟩ := R.obj i _ hi
  have : l' = l := Option.some.inj (h1.symm.trans hm)
  subst this
  exact h2

theorem decOwn_ok (R : Rel μ S H B w0 w) {te : TypeId} {e : Ty} {as : List AV} {vs : List Value} {x : List e.T} {r : List AV} {o : List Nat} (hv : VRs μ S H as vs) (h : decOwn H te e as = some (x, r, o)) :
    ∃ cs us os, vs = cs ++ us ∧ RdR S (.own te e) x cs os ∧ VRs μ S H r us ∧ OI μ os o ∧ ∀ q ∈ os, OwnOK S w B q := by
  unfold decOwn at h
  split at h
  · rename_i i g r'
    split at h
    · rename_i te' e' g' xs hH
      cases hb : (Nat.beq g g' && Nat.beq te te') with
      | false => rw [hb] at h; simp at h
      | true =>
        rw [hb] at h
        simp only [cond_true] at h
        simp only [Bool.and_eq_true] at hb
        have hgg := Nat.eq_of_beq_eq_true hb.1
        have htt := Nat.eq_of_beq_eq_true hb.2
        subst htt
        split at h
        · rename_i ys hc
          cases h
          obtain ⟨he, rfl⟩ := castL_eq hc
          subst he
          simp only [VRs] at hv
          obtain ⟨v, u, rfl, h1, h2⟩ := hv
          simp only [VR] at h1
          obtain ⟨_, l, hm, h3⟩ := h1
          have hv' := (h3 _ _ _ _ hH).2 hgg
          subst hv'
          exact ⟨[_], u, [⟨l, te, e', xs⟩], rfl, ⟨l, rfl, rfl⟩, h2, .own hm .nil, by intro q hq; simp at hq; subst hq; exact row_own R hH hm⟩
        · simp at h
    · simp at h
  · cases h
    simp only [VRs, VR] at hv
    obtain ⟨v, u, rfl, rfl, h2⟩ := hv
    exact ⟨[_], u, [⟨⟨none, 0⟩, te, e, []⟩], rfl, ⟨⟨none, 0⟩, rfl, rfl⟩, h2, .nilr rfl .nil, by intro q hq; simp at hq; subst hq; exact ⟨⟨Nat.le_refl _, Nat.zero_le _⟩, .inl ⟨rfl, rfl⟩⟩⟩
  · rename_i i g a b r'
    split at h
    · rename_i te' e' g' xs hH
      cases hb : (Nat.beq a 0 && Nat.beq g g' && Nat.beq te te') with
      | false => rw [hb] at h; simp at h
      | true =>
        rw [hb] at h
        simp only [cond_true] at h
        simp only [Bool.and_eq_true] at hb
        have haa := Nat.eq_of_beq_eq_true hb.1.1
        have hgg := Nat.eq_of_beq_eq_true hb.1.2
        have htt := Nat.eq_of_beq_eq_true hb.2
        subst htt haa
        split at h
        · rename_i ys hc
          cases h
          obtain ⟨he, rfl⟩ := castL_eq hc
          subst he
          simp only [VRs] at hv
          obtain ⟨v, u, rfl, h1, h2⟩ := hv
          simp only [VR] at h1
          obtain ⟨_, l, hm, h3⟩ := h1
          obtain ⟨p1, p2, ad, rfl, p3, _⟩ := (h3 _ _ _ _ hH).2 hgg
          have had := p3 (by simp)
          have had' : ad = l.addr := by
            rw [had]
            cases l.addr with
            | none => rfl
            | some q => simp [add_zero]
          subst had'
          have hlen : List.length (xs.take b) = b := by rw [List.length_take]; omega
          obtain ⟨l', m1, m2⟩ := R.obj i _ hH
          have : l' = l := Option.some.inj (m1.symm.trans hm)
          subst this
          have hO := ObjR_take b m2
          refine ⟨[_], u, [⟨l', te, e', xs.take b⟩], rfl, ⟨l', by rw [hlen]; rfl, rfl⟩, h2, .own hm .nil, by intro q hq; simp at hq; subst hq; exact hO⟩
        · simp at h
    · simp at h
  · simp at h

/-- memory that stays, and all that is new -/
def frz (B : Nat) (S : Stable) (w : World) : Stable := fun b => cond (Nat.ble B b) w.heap[b]? (S b)

theorem frz_sub (R : Rel μ S H B w0 w) (b : Nat) (o : Obj) (h : S b = some o) : frz B S w b = some o := by
  unfold frz
  cases Nat.ble B b with
  | true => exact R.st b o h
  | false => exact h

theorem frz_st (R : Rel μ S H B w0 w) (b : Nat) (o : Obj) (h : frz B S w b = some o) : w.heap[b]? = some o := by
  unfold frz at h
  cases hb : Nat.ble B b with
  | true => rw [hb] at h; exact h
  | false => rw [hb] at h; exact R.st b o h

theorem row_frz (R : Rel μ S H B w0 w) {i : Nat} {t : TypeId} {e : Ty} {g : Nat} {xs : List e.T} (hi : H i = some (.row t e g xs)) {l : Lc} (hm : μ i = some l) :
    Rd (frz B S w) (.row e) xs [.slice l.addr xs.length l.cap] := by
  obtain ⟨l', h1, h2⟩ := R.obj i _ hi
  have : l' = l := Option.some.inj (h1.symm.trans hm)
  subst this
  refine ⟨l'.addr, l'.cap, rfl, ⟨h2.1.1, fun ha => ?_⟩, fun j x hj => ?_⟩
  · rcases h2.2 with h3 | ⟨b, cs, e1, _⟩
    · exact h3.2
    · simp [Lc.addr, e1] at ha
  rcases h2.2 with h3 | ⟨b, cs, e1, hB, _, h4, _, h6⟩
  · have hlt : j < xs.length := by
      rcases Nat.lt_or_ge j xs.length with h | h
      · exact h
      · rw [List.getElem?_eq_none h] at hj; simp at hj
    have := h2.1.1; omega
  · obtain ⟨c, k1, k2⟩ := h6 j x hj
    refine ⟨⟨b, 0, none⟩, c, by simp [Lc.addr, e1], Rd_mono (frz_sub R) _ _ _ k1, fun m v hv => ?_⟩
    rw [plain_add, Nat.zero_add]
    have hb : frz B S w b = some (.cells cs t (0, 0)) := by
      unfold frz
      rw [Nat.ble_eq_true_of_le hB]; exact h4
    simp only [cellS, hb, Option.isSome_none, Bool.false_eq_true, if_false]
    exact k2 m v hv

omit [Glob] in
theorem noOwn_nil : ∀ (t : RTy) (x : t.T) (cs : List Value) (os : List OwnR), t.noOwn = true → RdR S t x cs os → os = []
  | .val t, x, cs, os, _, h => h.2
  | .own _ _, x, cs, os, hn, _ => by simp [RTy.noOwn] at hn
  | .pair a b, x, cs, os, hn, h => by
    simp only [RTy.noOwn, Bool.and_eq_true] at hn
    obtain ⟨c, d, o, p, _, rfl, h1, h2⟩ := h
    rw [noOwn_nil a _ _ _ hn.1 h1, noOwn_nil b _ _ _ hn.2 h2]; rfl
  | .one a, x, cs, os, hn, h => noOwn_nil a x cs os hn h

omit [Glob] in
theorem noOwns_nil : ∀ {rs : List RTy} {y : Res rs} {us : List Value} {os : List OwnR}, noOwns rs = true → RdRs S rs y us os → os = []
  | [], _, _, _, _, h => h.2
  | t :: ts, y, us, os, hn, h => by
    simp only [noOwns, Bool.and_eq_true] at hn
    obtain ⟨v, r, o, p, _, rfl, h1, h2⟩ := h
    rw [noOwns_nil hn.2 h2, List.append_nil]
    unfold RdRV at h1
    split at h1
    · obtain ⟨cs, _, h1⟩ := h1
      exact noOwn_nil t _ _ _ hn.1 h1
    · exact noOwn_nil t _ _ _ hn.1 h1

theorem decR_ok (R : Rel μ S H B w0 w) (hS : ∀ b o, S b = some o → S' b = some o) (hrow : ∀ i t e g xs l, Hv i = some (.row t e g xs) → μ i = some l → Rd S' (.row e) xs [.slice l.addr xs.length l.cap]) (sub : ∀ i o, Hv i = some o → H i = some o) :
    ∀ (t : RTy) (as : List AV) (vs : List Value) (x : t.T) (r : List AV) (o : List Nat), VRs μ S H as vs → decR Hv H t as = some (x, r, o) →
    ∃ cs us os, vs = cs ++ us ∧ RdR S' t x cs os ∧ VRs μ S H r us ∧ OI μ os o ∧ ∀ q ∈ os, OwnOK S w B q
  | .val t, as, vs, x, r, o, hv, h => by
    simp only [decR] at h
    split at h
    · rename_i y r' hd
      cases h
      obtain ⟨cs, us, h1, h2, h3⟩ := dec_Rd (S' := S') (H := H) hS hrow sub t as vs _ _ hv hd
      exact ⟨cs, us, [], h1, ⟨h2, rfl⟩, h3, .nil, by simp⟩
    · simp at h
  | .own te e, as, vs, x, r, o, hv, h => decOwn_ok R hv h
  | .pair a b, as, vs, x, r, o, hv, h => by
    simp only [decR] at h
    split at h
    · rename_i y l' o1 h1
      split at h
      · rename_i z l'' o2 h2
        cases h
        obtain ⟨c1, u1, os1, e1, k1, r1, i1, w1⟩ := decR_ok R hS hrow sub a as vs y l' o1 hv h1
        obtain ⟨c2, u2, os2, e2, k2, r2, i2, w2⟩ := decR_ok R hS hrow sub b l' u1 z _ o2 r1 h2
        refine ⟨c1 ++ c2, u2, os1 ++ os2, by rw [e1, e2, List.append_assoc], ⟨c1, c2, os1, os2, rfl, rfl, k1, k2⟩, r2, i1.append i2, fun q hq => ?_⟩
        rcases List.mem_append.1 hq with h | h
        · exact w1 q h
        · exact w2 q h
      · simp at h
    · simp at h
  | .one a, as, vs, x, r, o, hv, h => by
    simp only [decR] at h
    exact decR_ok R hS hrow sub a as vs x r o hv h

theorem decRV_ok (R : Rel μ S H B w0 w) (hS : ∀ b o, S b = some o → S' b = some o) (hrow : ∀ i t e g xs l, Hv i = some (.row t e g xs) → μ i = some l → Rd S' (.row e) xs [.slice l.addr xs.length l.cap]) (sub : ∀ i o, Hv i = some o → H i = some o)
    {t : RTy} {a : AV} {v : Value} {x : t.T} {o : List Nat} (hv : VR μ S H a v) (h : decRV Hv H t a = some (x, o)) :
    ∃ os, RdRV S' t x v os ∧ OI μ os o ∧ ∀ q ∈ os, OwnOK S w B q := by
  unfold decRV at h
  cases hb : (t.isAgg == a.isAgg) with
  | false => rw [hb] at h; simp at h
  | true =>
    rw [hb] at h
    simp only [cond_true] at h
    have hta : t.isAgg = a.isAgg := by simpa using hb
    split at h
    · rename_i y o' hd
      cases h
      unfold RdRV
      rw [hta]
      cases ha : a.isAgg with
      | true =>
        simp only [if_true]
        cases a <;> simp only [AV.isAgg, reduceCtorEq] at ha
        simp only [VR] at hv
        obtain ⟨vs, rfl, hvs⟩ := hv
        obtain ⟨c, u, os, e1, k1, k2, k3, k4⟩ := decR_ok R hS hrow sub t _ vs.toList _ [] _ hvs hd
        simp only [VRs] at k2
        subst k2
        rw [List.append_nil] at e1
        exact ⟨os, ⟨vs, rfl, by rw [e1]; exact k1⟩, k3, k4⟩
      | false =>
        simp only [Bool.false_eq_true, if_false]
        have base : VRs μ S H a.inside [v] := by
          cases a <;> first | (simp [AV.isAgg] at ha; done) | (simp only [AV.inside, VRs]; exact ⟨v, [], rfl, hv, rfl⟩)
        obtain ⟨c, u, os, e1, k1, k2, k3, k4⟩ := decR_ok R hS hrow sub t _ [v] _ [] _ base hd
        simp only [VRs] at k2
        subst k2
        rw [List.append_nil] at e1
        exact ⟨os, by rw [e1]; exact k1, k3, k4⟩
    · simp at h

theorem decRs_ok (R : Rel μ S H B w0 w) (hS : ∀ b o, S b = some o → S' b = some o) (hrow : ∀ i t e g xs l, Hv i = some (.row t e g xs) → μ i = some l → Rd S' (.row e) xs [.slice l.addr xs.length l.cap]) (sub : ∀ i o, Hv i = some o → H i = some o) :
    ∀ {rs : List RTy} {as : List AV} {vs : List Value} {y : Res rs} {o : List Nat}, VRs μ S H as vs → decRs Hv H rs as = some (y, o) →
    ∃ os, RdRs S' rs y vs os ∧ OI μ os o ∧ (∀ q ∈ os, OwnOK S w B q) ∧ vs.length = rs.length
  | [], [], vs, y, o, hv, h => by
    simp only [VRs] at hv; subst hv
    simp only [decRs, Option.some.injEq, Prod.mk.injEq] at h
    obtain ⟨_, rfl⟩ := h
    exact ⟨[], ⟨rfl, rfl⟩, .nil, by simp, rfl⟩
  | [], _ :: _, vs, y, o, hv, h => by simp [decRs] at h
  | t :: ts, [], vs, y, o, hv, h => by simp [decRs] at h
  | t :: ts, a :: as, vs, y, o, hv, h => by
    simp only [decRs] at h
    split at h
    · rename_i x o1 h1
      split at h
      · rename_i z o2 h2
        cases h
        simp only [VRs] at hv
        obtain ⟨v, r, rfl, k1, k2⟩ := hv
        obtain ⟨os1, a1, a2, a3⟩ := decRV_ok R hS hrow sub k1 h1
        obtain ⟨os2, b1, b2, b3, b4⟩ := decRs_ok R hS hrow sub k2 h2
        refine ⟨os1 ++ os2, ⟨v, r, os1, os2, rfl, rfl, a1, b1⟩, a2.append b2, fun q hq => ?_, by simp [b4]⟩
        rcases List.mem_append.1 hq with h | h
        · exact a3 q h
        · exact b3 q h
      · simp at h
    · simp at h

theorem con_of_top {C : Cons} {Hn : Hints} (hC : TabsOK P C) {lf n k : Nat} {c : Con} (h : ∀ x y, c.f x = some y → top P C Hn lf n k c.ps c.rs x = some y) : c.OK P k := by
  intro x y hf S w vs hst hpre ha
  have ht := h x y hf
  unfold top at ht
  cases he : exFun P C Hn lf n 0 (.fn k) (encArgs c.ps x) (fun _ => none) [] with
  | none => rw [he] at ht; simp [decEnd] at ht
  | some p =>
    obtain ⟨v, H', L'⟩ := p
    rw [he] at ht
    simp only [decEnd] at ht
    split at ht
    · rename_i y' o hd
      obtain ⟨hdis, rfl⟩ := cond_some ht
      have R0 : Rel (fun _ => none) S (fun _ => none) w.heap.size w w := ⟨Below.refl _ _, Nat.le_refl _, hst, fun _ => rfl, fun _ _ h => by simp at h, fun _ _ _ _ _ _ h => by simp at h, hpre⟩
      refine RunC.mono (c := .fn k) ((exFun_ok hC n 0 (.fn k) _ _ _ _ _ _ he (fun _ h => absurd rfl h)).2 (fun _ => none) S w.heap.size w w vs.toArray R0 (by simpa using encArgs_VRs ha)) ?_
      rintro e w' ⟨u, μ', S', rfl, k1, R', C'⟩
      -- the parts of what is handed back
      have hparts : ∃ us, VRs μ' S' H' (v.parts c.rs.length) us ∧ (us.length = c.rs.length → u = resVal us) := by
        have one : VRs μ' S' H' [v] [u] := by simp only [VRs]; exact ⟨u, [], rfl, k1, rfl⟩
        cases v with
        | tup as =>
          simp only [AV.parts]
          cases hb : Nat.beq c.rs.length 1 with
          | true => exact ⟨[u], one, fun _ => rfl⟩
          | false =>
            simp only [VR] at k1
            obtain ⟨x, rfl, k2⟩ := k1
            refine ⟨x.toList, k2, fun hl => ?_⟩
            have hne : c.rs.length ≠ 1 := fun e => by rw [e] at hb; simp at hb
            match hx : x.toList with
            | [] => simp only [resVal]; rw [← hx]
            | [z] => rw [hx] at hl; simp at hl; omega
            | z1 :: z2 :: l => simp only [resVal]; rw [← hx]
        | _ => exact ⟨[u], one, fun _ => rfl⟩
      obtain ⟨us, hus, hu⟩ := hparts
      cases hno : noOwns c.rs with
      | false =>
        rw [hno] at hd
        obtain ⟨os, q1, q2, q3, q4⟩ := decRs_ok (S' := S') R' (fun b o h => h) (fun i t e g xs l h => by simp at h) (fun i o h => by simp at h) hus hd
        exact ⟨us, S', os, by rw [hu q4], R'.below, C'.sub, R'.st, fun b hb => C'.st b hb, q1, q3, q2.apart R' hdis⟩
      | true =>
        rw [hno] at hd
        obtain ⟨os, q1, q2, q3, q4⟩ := decRs_ok (S' := frz w.heap.size S' w') R' (frz_sub R') (fun i t e g xs l h hm => row_frz R' h hm) (fun i o h => h) hus hd
        have := noOwns_nil hno q1
        subst this
        refine ⟨us, frz w.heap.size S' w', [], by rw [hu q4], R'.below, fun b o h => frz_sub R' b o (C'.sub b o h), fun b o h => frz_st R' b o h, fun b hb => ?_, q1, by simp, .nil⟩
        unfold frz at hb
        cases hble : Nat.ble w.heap.size b with
        | true => exact .inr (Nat.le_of_ble_eq_true hble)
        | false => rw [hble] at hb; exact C'.st b hb
    · simp at ht
end
end Go.Sy
