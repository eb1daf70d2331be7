/- Parts of rows that are the call's own: that the model's operations do as the abstract ones. -/
import Derived.Test.YtipajaocggpahaaGreatSym5b
import Derived.Laws.AppendOwn
namespace Go.Sy
open Go Go.RowKit
set_option linter.unusedSimpArgs false
set_option linter.unusedVariables false

section
variable [Glob] {P : Program} {w w0 : World} {μ : Mu} {S : Stable} {H Hh : Heap} {B : Nat}

omit [Glob] in
theorem bounds_cap {ρa : Operand → AV} {ρ : Operand → Value} (hρ : ∀ x, VR μ S H (ρa x) (ρ x)) {lo hi : Option Operand} {isS : Bool} {len cap : Nat} {l h : Int} (hlc : len ≤ cap)
    (hl : bound (lo.map ρa) 0 = some l) (hh : bound (hi.map ρa) len = some h) (k1 : 0 ≤ l) (k2 : l ≤ h) (k3 : h ≤ (cap : Int)) :
    (Instr.sliceBounds isS len cap (lo.map ρ) (hi.map ρ) none).run P w = .ok (l.toNat, h.toNat, cap) w := by
  cases hi with
  | none =>
    simp only [Option.map_none, bound, Option.some.injEq] at hh
    subst hh
    cases lo with
    | none =>
      simp only [Option.map_none, bound, Option.some.injEq] at hl
      subst hl
      simp [Instr.sliceBounds]
    | some x =>
      have := bound_ok (P := P) (w := w) (y := len) (code := .sliceB) hρ hl k1 k2
      simp [Instr.sliceBounds, this]
  | some y =>
    have b1 := bound_ok (P := P) (w := w) (y := cap) (code := if isS then .sliceAcap else .sliceAlen) hρ hh (by omega) (by omega)
    cases lo with
    | none =>
      simp only [Option.map_none, bound, Option.some.injEq] at hl
      subst hl
      simp [Instr.sliceBounds, b1]
    | some x =>
      have := bound_ok (P := P) (w := w) (y := h.toNat) (code := .sliceB) hρ hl k1 (by omega)
      simp [Instr.sliceBounds, b1, this]

omit [Glob] in
theorem bounds_max {ρa : Operand → AV} {ρ : Operand → Value} (hρ : ∀ x, VR μ S H (ρa x) (ρ x)) {lo : Option Operand} {hi mx : Operand} {isS : Bool} {len cap : Nat} {d : Int} {k : IntKind} {l h m : Int}
    (hl : bound (lo.map ρa) 0 = some l) (hh : bound (some (ρa hi)) d = some h) (hm : ρa mx = .lit (.int k m)) (k1 : 0 ≤ l) (k2 : l ≤ h) (k3 : h ≤ m) (k4 : m ≤ (cap : Int)) :
    (Instr.sliceBounds isS len cap (lo.map ρ) (some (ρ hi)) (some (ρ mx))).run P w = .ok (l.toNat, h.toNat, m.toNat) w := by
  have b0 := bound_ok (P := P) (w := w) (x := mx) (d := 0) (n := m) (y := cap) (code := if isS then .slice3Acap else .slice3Alen) hρ (by rw [hm]; rfl) (by omega) k4
  have b1 := bound_ok (P := P) (w := w) (y := m.toNat) (code := .slice3B) hρ hh (by omega) (by omega)
  cases lo with
  | none =>
    simp only [Option.map_none, bound, Option.some.injEq] at hl
    subst hl
    simp [Instr.sliceBounds, b0, b1]
  | some x =>
    have := bound_ok (P := P) (w := w) (y := h.toNat) (code := .slice3C) hρ hl k1 (by omega)
    simp [Instr.sliceBounds, b0, b1, this]

/-- a view, opened -/
theorem view_open (R : Rel μ S H B w0 w) {i g : Nat} {t : TypeId} {e : Ty} {xs : List e.T} (hH : H i = some (.row t e g xs)) {l : Lc} (hm : μ i = some l) : xs.length ≤ l.cap := by
  obtain ⟨l', h1, hO⟩ := R.obj i _ hH
  have : l' = l := Option.some.inj (h1.symm.trans hm)
  subst this
  exact hO.1.1

omit [Glob] in
theorem and4 {a b c d : Bool} (h : (a && b && c && d) = true) : a = true ∧ b = true ∧ c = true ∧ d = true := by
  cases a <;> cases b <;> cases c <;> cases d <;> simp_all

/-- what is a view of what part -/
structure View (μ : Mu) (H : Heap) (i g a b : Nat) (whole : Bool) (v : Value) (l : Lc) : Prop where
  mu : μ i = some l
  row : ∀ t e gc xs, H i = some (.row t e gc xs) → g ≤ gc ∧ (g = gc → a ≤ cond whole xs.length b ∧ cond whole xs.length b ≤ xs.length ∧
      ∃ ad, v = .slice ad (cond whole xs.length b - a) (l.cap - a) ∧ ((a = 0 ∨ a < cond whole xs.length b) → ad = l.addr.map (·.add (a * e.size))) ∧ (ad = none → l.addr = none))

omit [Glob] in
theorem view_sl {i g : Nat} {v : Value} (h : VR μ S H (.sl i g) v) : ∃ l, View μ H i g 0 0 true v l := by
  simp only [VR] at h
  obtain ⟨_, l, h1, h2⟩ := h
  refine ⟨l, h1, fun t e gc xs hH => ?_⟩
  obtain ⟨k1, k2⟩ := h2 t e gc xs hH
  refine ⟨k1, fun hg => ⟨Nat.zero_le _, Nat.le_refl _, l.addr, by rw [k2 hg]; rfl, fun _ => ?_, fun h => h⟩⟩
  cases l.addr with
  | none => rfl
  | some q => simp [add_zero]

omit [Glob] in
theorem view_sub {i g a b : Nat} {v : Value} (h : VR μ S H (.sub i g a b) v) : ∃ l, View μ H i g a b false v l := by
  simp only [VR] at h
  obtain ⟨_, l, h1, h2⟩ := h
  exact ⟨l, h1, h2⟩

theorem oSub_ok (sub : ∀ i o, Hh i = some o → H i = some o) (R : Rel μ S H B w0 w) {ρa : Operand → AV} {ρ : Operand → Value} (hρ : ∀ x, VR μ S H (ρa x) (ρ x)) {t : TypeId} {lo hi mx : Option Operand} {out : Out}
    {i g a b : Nat} {whole : Bool} {v : Value} {l : Lc} (hV : View μ H i g a b whole v l)
    (h : oSub P Hh t i g a b whole (lo.map ρa) (hi.map ρa) (mx.map ρa) = some out) (hk : out.ok = true) :
    Done P w w0 μ S H B (do pure (.value (← Instr.sliceAt t v (lo.map ρ) (hi.map ρ) (mx.map ρ)))) out := by
  unfold oSub at h
  split at h
  case h_2 => simp at h
  rename_i el ht
  split at h
  case h_2 => simp at h
  rename_i _ _ inf te e g' xs hinf hHh
  have hH := sub _ _ hHh
  split at h
  · rename_i lv hv hl hhi hmx
    obtain ⟨hc, rfl⟩ := cond_some h
    simp only [Bool.and_eq_true] at hc
    obtain ⟨⟨c1, c2⟩, c3⟩ := hc
    have c1 := Nat.eq_of_beq_eq_true c1
    have c2 := Nat.eq_of_beq_eq_true c2
    subst c1
    have em : mx = none := by cases mx <;> simp at hmx ⊢
    subst em
    simp only [Out.ok, Bool.and_eq_true, decide_eq_true_eq] at hk
    obtain ⟨⟨k1, k2⟩, k3⟩ := hk
    have hcap := view_open R hH hV.mu
    obtain ⟨p1, p2, ad, rfl, p3, p4⟩ := (hV.row _ _ _ _ hH).2 rfl
    have bd := bounds_cap (P := P) (w := w) (isS := true) hρ (len := cond whole xs.length b - a) (cap := l.cap - a) (by omega) hl hhi k1 k2 (by omega)
    refine doneVal R (u := .slice (if l.cap - a = lv.toNat then ad else ad.map (·.add (lv.toNat * inf.size))) (hv.toNat - lv.toNat) (l.cap - a - lv.toNat)) ?_ ?_
    · simp only [Instr.sliceAt, Instr.slice, Sem.run_bind, rUnder ht, Result.andThen_ok, Option.map_none, bd, rSize hinf, Sem.run_pure]
    · simp only [VR]
      refine ⟨⟨_, _, _, rfl⟩, l, hV.mu, fun t1 e1 g1 xs1 hH1 => ?_⟩
      rw [hH] at hH1
      injection hH1 with hH1
      injection hH1 with q1 q2 q3 q4
      subst q2 q3
      cases q4
      refine ⟨Nat.le_refl _, fun _ => ⟨by omega, by omega, _, by congr 1 <;> omega, fun hlt => ?_, fun hn => ?_⟩⟩
      · have ha : a = 0 ∨ a < cond whole xs.length b := by
          cases hw : whole with
          | true =>
            simp only [cond_true]
            rw [hw] at p1
            simp only [cond_true] at p1
            omega
          | false =>
            simp only [cond_false]
            rcases Bool.or_eq_true_iff.1 c3 with c3 | c3
            · exact .inl (Nat.eq_of_beq_eq_true c3)
            · exact .inr (of_ltN c3)
        rw [p3 ha]
        by_cases hz : l.cap - a = lv.toNat
        · rw [if_pos hz]
          have h0 : a = 0 ∧ lv.toNat = 0 := by omega
          rw [h0.1, h0.2, Nat.add_zero]
        · rw [if_neg hz]
          cases l.addr with
          | none => rfl
          | some q => simp only [Option.map_some]; rw [add_add, c2, ← Nat.add_mul]
      · refine p4 ?_
        split at hn
        · exact hn
        · simpa using hn
  · rename_i lv hv k m hl hhi hmx
    obtain ⟨hc, rfl⟩ := cond_some h
    simp only [Bool.and_eq_true] at hc
    obtain ⟨c0, c1⟩ := hc
    have c1 := Nat.eq_of_beq_eq_true c1
    subst c1
    simp only [Out.ok, Bool.and_eq_true, decide_eq_true_eq] at hk
    obtain ⟨⟨⟨k1, k2⟩, k3⟩, k4⟩ := hk
    have hcap := view_open R hH hV.mu
    obtain ⟨p1, p2, ad, rfl, p3, p4⟩ := (hV.row _ _ _ _ hH).2 rfl
    cases hi with
    | none => simp at c0
    | some hix =>
      cases mx with
      | none => simp at hmx
      | some mxx =>
        simp only [Option.map_some, Option.some.injEq] at hmx hhi
        have bd := bounds_max (P := P) (w := w) (isS := true) (len := cond whole xs.length b - a) (cap := l.cap - a) hρ hl hhi hmx k1 k2 k3 (by omega)
        refine doneVal R (u := .slice (if m.toNat = lv.toNat then ad else ad.map (·.add (lv.toNat * inf.size))) (hv.toNat - lv.toNat) (m.toNat - lv.toNat)) ?_ (by simp only [VR])
        simp only [Instr.sliceAt, Instr.slice, Sem.run_bind, rUnder ht, Result.andThen_ok, Option.map_some, bd, rSize hinf, Sem.run_pure]
  · simp at h

theorem oSlice3_ok (R : Rel μ S H B w0 w) {ρa : Operand → AV} {ρ : Operand → Value} (hρ : ∀ x, VR μ S H (ρa x) (ρ x)) {t : TypeId} {x mx : Operand} {lo hi : Option Operand} {e : Ty} {xs : List e.T} {out : Out} (hs : ρa x = .cont e xs)
    (h : oSlice3 P t e xs (lo.map ρa) (hi.map ρa) (ρa mx) = some out) (hk : out.ok = true) :
    Done P w w0 μ S H B (do pure (.value (← Instr.sliceAt t (ρ x) (lo.map ρ) (hi.map ρ) (some (ρ mx))))) out := by
  have hx := hρ x
  rw [hs] at hx
  obtain ⟨a, cap, e1, e2, e3⟩ := VR_cont hx
  simp only [List.cons.injEq, and_true] at e1
  unfold oSlice3 at h
  split at h
  case h_2 => simp at h
  rename_i el l hh k m ht hl hhi hmx
  split at h
  case h_2 => simp at h
  rename_i inf hinf
  obtain ⟨hc, rfl⟩ := cond_some h
  simp only [Bool.and_eq_true] at hc
  obtain ⟨c0, hc⟩ := hc
  have hc := Nat.eq_of_beq_eq_true hc
  simp only [Out.ok, Bool.and_eq_true, decide_eq_true_eq] at hk
  obtain ⟨⟨⟨k1, k2⟩, k3⟩, k4⟩ := hk
  cases hi with
  | none => simp at c0
  | some hix =>
    have b := bounds_max (P := P) (w := w) (isS := true) (len := xs.length) (cap := cap) hρ hl hhi hmx k1 k2 k3 (by have := e2.1; omega)
    refine doneVal R (u := .slice (if m.toNat = l.toNat then a else a.map (·.add (l.toNat * inf.size))) (hh.toNat - l.toNat) (m.toNat - l.toNat)) ?_ ?_
    · rw [e1]
      simp only [Instr.sliceAt, Instr.slice, Sem.run_bind, rUnder ht, Result.andThen_ok, Option.map_some, b, rSize hinf, Sem.run_pure]
    · have hlen : ((xs.take hh.toNat).drop l.toNat).length = hh.toNat - l.toNat := by
        rw [List.length_drop, List.length_take]; omega
      simp only [VR, Rd]
      refine ⟨_, m.toNat - l.toNat, by rw [hlen], ⟨by rw [hlen]; omega, fun hn => ?_⟩, fun j x hj => ?_⟩
      · have : a = none := by
          split at hn
          · exact hn
          · simpa using hn
        have := e2.2 this
        have := e2.1
        omega
      · have hjl : j < hh.toNat - l.toNat := by rw [← hlen]; exact (List.getElem?_eq_some_iff.1 hj).1
        rw [List.getElem?_drop, List.getElem?_take, if_pos (by omega)] at hj
        obtain ⟨ad, c, rfl, q1, q2⟩ := e3 _ x hj
        refine ⟨ad.add (l.toNat * inf.size), c, ?_, q1, fun m v hm => ?_⟩
        · rw [if_neg (by omega)]; rfl
        · rw [add_add, hc]
          have := q2 m v hm
          rw [Nat.add_mul, Nat.add_assoc] at this
          exact this

theorem oSliceH_ok (sub : ∀ i o, Hh i = some o → H i = some o) (R : Rel μ S H B w0 w) {ρa : Operand → AV} {ρ : Operand → Value} (hρ : ∀ x, VR μ S H (ρa x) (ρ x)) {t : TypeId} {x : Operand} {lo hi mx : Option Operand} {out : Out}
    (h : oSliceH P Hh t (ρa x) (lo.map ρa) (hi.map ρa) (mx.map ρa) = some out) (hk : out.ok = true) :
    Done P w w0 μ S H B (do pure (.value (← Instr.sliceAt t (ρ x) (lo.map ρ) (hi.map ρ) (mx.map ρ)))) out := by
  have hx := hρ x
  unfold oSliceH at h
  split at h
  · rename_i i g he
    rw [he] at hx
    obtain ⟨l, hV⟩ := view_sl hx
    exact oSub_ok sub R hρ hV h hk
  · rename_i i g a b he
    rw [he] at hx
    obtain ⟨l, hV⟩ := view_sub hx
    exact oSub_ok sub R hρ hV h hk
  · rename_i e xs he
    cases mx with
    | none =>
      simp only [Option.map_none] at h ⊢
      rw [← he] at h
      exact oSlice_ok (mx := none) R hρ h hk
    | some m => exact oSlice3_ok R hρ he h hk
  · exact oSlice_ok R hρ h hk

theorem oAtH_ok (sub : ∀ i o, Hh i = some o → H i = some o) (R : Rel μ S H B w0 w) {t : TypeId} {x y : AV} {a b : Value} {out : Out} (hx : VR μ S H x a) (hy : VR μ S H y b) (h : oAtH P Hh t x y = some out) (hk : out.ok = true) :
    Done P w w0 μ S H B (do pure (.value (← Instr.indexAt t a b))) out := by
  unfold oAtH at h
  split at h
  case h_4 => exact oAt_ok sub R hx hy h hk
  case h_3 =>
    rename_i j off
    split at h
    case h_2 => simp at h
    rename_i k i
    simp only [VR] at hy; subst hy
    split at h
    case h_2 => simp at h
    rename_i n el ht
    split at h
    case h_2 => simp at h
    rename_i inf hinf
    cases h
    simp only [Out.ok, Bool.and_eq_true, decide_eq_true_eq] at hk
    simp only [VR] at hx
    obtain ⟨bk, c, q1, q2, rfl⟩ := hx
    refine doneVal R (u := .pointer (some ⟨bk, off + i.toNat * inf.size, none⟩)) ?_ ?_
    · simp only [Instr.indexAt, Instr.sureAddr, Sem.run_bind, asIntOf, Sem.run_pure, Result.andThen_ok, rUnder ht, if_pos hk, Sem.run_ite, rSize hinf, plain_add]
    · simp only [VR]
      exact ⟨bk, c, q1, q2, rfl⟩
  case h_1 =>
    rename_i j g lo hi
    split at h
    case h_2 => simp at h
    rename_i k i
    simp only [VR] at hy; subst hy
    split at h
    case h_2 => simp at h
    rename_i el ht
    split at h
    case h_2 => simp at h
    rename_i _ _ inf te e g' xs hinf hHh
    have hH := sub _ _ hHh
    obtain ⟨hc, rfl⟩ := cond_some h
    simp only [Bool.and_eq_true] at hc
    have hgg := Nat.eq_of_beq_eq_true hc.1
    have hsz := Nat.eq_of_beq_eq_true hc.2
    subst hgg
    simp only [Out.ok, Bool.and_eq_true, decide_eq_true_eq] at hk
    obtain ⟨l, hV⟩ := view_sub hx
    obtain ⟨p1, p2, ad, rfl, p3, p4⟩ := (hV.row _ _ _ _ hH).2 rfl
    simp only [cond_false] at p1 p2 p3 hk
    have hlt : lo + i.toNat < xs.length := by omega
    obtain ⟨bk, hb⟩ := row_blk R hH hV.mu hlt
    have hl : l.addr = some ⟨bk, 0, none⟩ := by simp [Lc.addr, hb]
    have had := p3 (.inr (by omega))
    rw [hl] at had
    simp only [Option.map_some, plain_add, Nat.zero_add] at had
    subst had
    refine doneVal R (u := .pointer (some ⟨bk, (lo + i.toNat) * e.size, none⟩)) ?_ ?_
    · simp only [Instr.indexAt, Sem.run_bind, asIntOf, Sem.run_pure, Result.andThen_ok, rUnder ht, cond_false, if_pos hk, Sem.run_ite, rSize hinf, plain_add, hsz, ← Nat.add_mul]
    · simp only [VR]
      refine ⟨⟨_, rfl⟩, l, hV.mu, fun t1 e1 g1 xs1 hH1 => ?_⟩
      rw [hH] at hH1
      injection hH1 with hH1
      injection hH1 with k1 k2 k3 k4
      subst k2 k3
      exact ⟨Nat.le_refl _, fun _ => ⟨bk, hb, rfl⟩⟩
  case h_2 =>
    rename_i j n
    split at h
    case h_2 => simp at h
    rename_i k i
    simp only [VR] at hy; subst hy
    split at h
    case h_2 => simp at h
    rename_i el ht
    split at h
    case h_2 => simp at h
    rename_i inf hinf
    obtain ⟨hc, rfl⟩ := cond_some h
    have hsz := Nat.eq_of_beq_eq_true hc
    simp only [Out.ok, Bool.and_eq_true, decide_eq_true_eq] at hk
    simp only [VR] at hx
    obtain ⟨bk, c, q1, q2, cap, q3, rfl⟩ := hx
    refine doneVal R (u := .pointer (some ⟨bk, i.toNat, none⟩)) ?_ ?_
    · simp only [Instr.indexAt, Sem.run_bind, asIntOf, Sem.run_pure, Result.andThen_ok, rUnder ht, if_pos hk, Sem.run_ite, rSize hinf, plain_add, hsz, Nat.zero_add, Nat.mul_one]
    · simp only [VR]
      exact ⟨bk, c, q1, q2, rfl⟩

theorem oLenH_ok {oLen_ok : ∀ {t ty : TypeId} {x : AV} {v : Value} {out : Out}, VR μ S H x v → oLen P Hh t x = some out → Done P w w0 μ S H B (do pure (.value (← Builtin.len_ #[t] ty #[v]))) out}
    (sub : ∀ i o, Hh i = some o → H i = some o) (R : Rel μ S H B w0 w) {t ty : TypeId} {x : AV} {v : Value} {out : Out} (hx : VR μ S H x v) (h : oLenH P Hh t x = some out) :
    Done P w w0 μ S H B (do pure (.value (← Builtin.len_ #[t] ty #[v]))) out := by
  unfold oLenH at h
  split at h
  case h_3 => exact oLen_ok hx h
  case h_1 =>
    rename_i i g a b
    split at h
    case h_2 => simp at h
    rename_i _ _ el te e g' xs ht hHh
    have hH := sub _ _ hHh
    obtain ⟨hg, rfl⟩ := cond_some h
    have hgg := Nat.eq_of_beq_eq_true hg
    subst hgg
    obtain ⟨l, hV⟩ := view_sub hx
    obtain ⟨p1, p2, ad, rfl, p3, p4⟩ := (hV.row _ _ _ _ hH).2 rfl
    exact doneVal R (by simp [Builtin.len_, rUnder ht, goInt]; rfl) (by simp only [Out.res, VR, cond_false])
  case h_2 =>
    split at h
    case h_2 => simp at h
    rename_i el ht
    cases h
    simp only [VR] at hx
    obtain ⟨bk, c, q1, q2, cap, q3, rfl⟩ := hx
    exact doneVal R (by simp [Builtin.len_, rUnder ht, goInt]; rfl) (by simp only [Out.res, VR])

/-! segments of rows written anew -/
omit [Glob] in
theorem row_seg {e : Ty} {cs ds : List Value} {xs ys : List e.T} {a : Nat} (h : ∀ (j : Nat) (x : e.T), xs[j]? = some x → ∃ c, Rd S e x c ∧ ∀ m v, c[m]? = some v → cs[j * e.size + m]? = some v)
    (hds : RdL S e ys ds) (hfit : a + ys.length ≤ xs.length) (hsz : xs.length * e.size ≤ cs.length) (j : Nat) (x : e.T) (hj : (xs.take a ++ ys ++ xs.drop (a + ys.length))[j]? = some x) :
    ∃ c, Rd S e x c ∧ ∀ m v, c[m]? = some v → (cs.take (a * e.size) ++ ds ++ cs.drop (a * e.size + ds.length))[j * e.size + m]? = some v := by
  have hdl := RdL_length hds
  have h1 : (a + ys.length) * e.size ≤ xs.length * e.size := Nat.mul_le_mul_right _ hfit
  rw [Nat.add_mul] at h1
  rw [splice_get _ _ _ _ hfit] at hj
  have key : ∀ c, Rd S e x c → ∀ m v, c[m]? = some v → m < e.size := fun c hc m v hm => by
    have := Rd_length _ _ _ hc
    have := (List.getElem?_eq_some_iff.1 hm).1
    omega
  by_cases hja : j < a
  · rw [if_pos hja] at hj
    obtain ⟨c, k1, k2⟩ := h j x hj
    refine ⟨c, k1, fun m v hm => ?_⟩
    have hm' := key c k1 m v hm
    have h2 : (j + 1) * e.size ≤ a * e.size := Nat.mul_le_mul_right _ hja
    rw [Nat.add_mul, Nat.one_mul] at h2
    rw [splice_get _ _ _ _ (by omega), if_pos (by omega)]
    exact k2 m v hm
  · rw [if_neg hja] at hj
    by_cases hjb : j < a + ys.length
    · rw [if_pos hjb] at hj
      obtain ⟨c, k1, k2⟩ := RdL_get hds (j - a) x hj
      refine ⟨c, k1, fun m v hm => ?_⟩
      have hm' := key c k1 m v hm
      have h2 : a * e.size ≤ j * e.size := Nat.mul_le_mul_right _ (by omega)
      have h3 : (j + 1) * e.size ≤ (a + ys.length) * e.size := Nat.mul_le_mul_right _ hjb
      rw [Nat.add_mul, Nat.one_mul, Nat.add_mul] at h3
      rw [splice_get _ _ _ _ (by omega), if_neg (by omega), if_pos (by omega)]
      have h4 := k2 m v hm
      rw [Nat.sub_mul] at h4
      rw [← h4]
      congr 1
      omega
    · rw [if_neg hjb] at hj
      obtain ⟨c, k1, k2⟩ := h j x hj
      refine ⟨c, k1, fun m v hm => ?_⟩
      have h2 : (a + ys.length) * e.size ≤ j * e.size := Nat.mul_le_mul_right _ (by omega)
      rw [Nat.add_mul] at h2
      rw [splice_get _ _ _ _ (by omega), if_neg (by omega), if_neg (by omega)]
      exact k2 m v hm

omit [Glob] in
theorem seg_len {α : Type} {xs ys : List α} {a : Nat} (h : a + ys.length ≤ xs.length) : (xs.take a ++ ys ++ xs.drop (a + ys.length)).length = xs.length := by
  simp; omega

/-- a segment of a row, written anew in its block -/
theorem seg_wr (R : Rel μ S H B w0 w) {i g : Nat} {te : TypeId} {e : Ty} {xs ys : List e.T} {ds : List Value} {a : Nat} (hH : H i = some (.row te e g xs)) {l : Lc} (hm : μ i = some l) {b : Nat} (hb : l.blk = some b)
    (hds : RdL S e ys ds) (hfit : a + ys.length ≤ xs.length) :
    ∃ cur, w.heap[b]? = some (.cells cur te (0, 0)) ∧ a * e.size + ds.length ≤ cur.size ∧
      Rel μ S (upd H i (some (.row te e g (xs.take a ++ ys ++ xs.drop (a + ys.length))))) B w0 (w.setRow b (cur.toList.take (a * e.size) ++ ds ++ cur.toList.drop (a * e.size + ds.length)).toArray) ∧
      Ext μ S H μ S (upd H i (some (.row te e g (xs.take a ++ ys ++ xs.drop (a + ys.length))))) := by
  obtain ⟨l', h1, hO⟩ := R.obj i _ hH
  have : l' = l := Option.some.inj (h1.symm.trans hm)
  subst this
  obtain ⟨⟨o1, o2⟩, o3⟩ := hO
  rcases o3 with ⟨o4, _⟩ | ⟨b', cur, e1, q1, q2, q3, q4, q5⟩
  · rw [o4] at hb; simp at hb
  have : b' = b := Option.some.inj (e1.symm.trans hb)
  subst this
  have hdl := RdL_length hds
  have hle : xs.length * e.size ≤ l'.cap * e.size := Nat.mul_le_mul_right _ o1
  have h1' : (a + ys.length) * e.size ≤ xs.length * e.size := Nat.mul_le_mul_right _ hfit
  rw [Nat.add_mul] at h1'
  have hcs : cur.toList.length = l'.cap * e.size := by rw [Array.length_toList]; exact q4
  have hfit2 : a * e.size + ds.length ≤ cur.toList.length := by omega
  have E : Ext μ S H μ S (upd H i (some (.row te e g (xs.take a ++ ys ++ xs.drop (a + ys.length))))) := Ext.row_same hH (seg_len hfit).symm
  refine ⟨cur, q3, by simpa using hfit2, ?_, E⟩
  refine R.wr hm hb _ (below_setRow (Below.refl _ _) (Nat.le_refl _) _) (size_setRow _ _ _) (fun k hk => setRow_other _ _ _ _ hk) E ?_
  refine ⟨⟨by rw [seg_len hfit]; exact o1, o2⟩, .inr ⟨b', _, e1, q1, q2, setRow_heap _ _ _ _ _ _ q3, ?_, ?_⟩⟩
  · rw [List.size_toArray, seg_len hfit2, Array.length_toList]; exact q4
  · intro j x hj
    obtain ⟨c, k1, k2⟩ := row_seg (cs := cur.toList) (fun j x hj => by
      obtain ⟨c, m1, m2⟩ := q5 j x hj
      exact ⟨c, m1, fun m v hv => by simpa using m2 m v hv⟩) hds hfit (by omega) j x hj
    exact ⟨c, k1, fun m v hv => by simpa using k2 m v hv⟩

omit [Glob] in
theorem zeroCells_list (z : Array Value) (n : Nat) (h : 0 < z.size) : (Builtin.zeroCells z n).toList = (List.replicate n z.toList).flatten := by
  have h1 : (Builtin.zeroCells z n).toList = (List.range (n * z.size)).map fun i => z[i % z.size]! := by
    simp [Builtin.zeroCells]
  rw [h1, range_rep (fun i => z[i % z.size]!) z.size (fun n i hi => by
    show z[(n * z.size + i) % z.size]! = z[i % z.size]!
    rw [Nat.mul_comm, Nat.mul_add_mod])]
  congr 2
  apply List.ext_getElem
  · simp
  · intro i h1 h2
    have hi : i < z.size := by simpa using h1
    simp [Nat.mod_eq_of_lt hi, hi]

theorem oClear_ok (sub : ∀ i o, Hh i = some o → H i = some o) (R : Rel μ S H B w0 w) {t ty : TypeId} {x : AV} {v : Value} {out : Out} (hx : VR μ S H x v) (h : oClear P Hh t x = some out) :
    Done P w w0 μ S H B (do pure (.value (← Builtin.clear_ #[t] ty #[v]))) out := by
  unfold oClear at h
  split at h
  case h_2 => simp at h
  rename_i i g a b
  split at h
  case h_2 => simp at h
  rename_i el ht
  split at h
  case h_2 => simp at h
  rename_i _ _ inf te e g' xs hinf hHh
  have hH := sub _ _ hHh
  split at h
  case h_2 => simp at h
  rename_i z hz
  split at h
  case h_2 => simp at h
  rename_i zc hzc
  split at h
  case h_2 => simp at h
  rename_i y hy
  obtain ⟨hc, rfl⟩ := cond_some h
  obtain ⟨c1, c2, c3, c4⟩ := and4 hc
  have c1 := Nat.eq_of_beq_eq_true c1
  have c2 := Nat.eq_of_beq_eq_true c2
  have c3 := Nat.eq_of_beq_eq_true c3
  have c4 := of_ltN c4
  subst c1
  obtain ⟨l, hV⟩ := view_sub hx
  obtain ⟨p1, p2, ad, rfl, p3, p4⟩ := (hV.row _ _ _ _ hH).2 rfl
  simp only [cond_false] at p1 p2 p3 p4 ⊢
  have hzr := cells_VRs (VR_ofV (μ := μ) (S := S) (H := H) z) hzc
  have hRd : Rd S e y z.cells.toList := decAll_Rd hzr hy
  have hzl : z.cells.size = inf.size := by
    have := VRs_length hzr
    rw [c3] at this
    simpa using this.symm
  by_cases hn : b - a = 0
  · have e0 : xs.take a ++ List.replicate (b - a) y ++ xs.drop (a + (b - a)) = xs := by rw [hn]; simp
    refine ⟨.value (.tuple #[]), .tuple #[], w, μ, ?_, .inl rfl, ?_, ?_, by simp only [Out.res, VR]⟩
    · rw [hn]
      cases ad <;> simp [Builtin.clear_, rUnder ht]
    · simp only [Out.heap]
      rw [e0]
      have : upd H i (some (.row te e g xs)) = H := by
        funext q
        by_cases e1 : q = i
        · subst e1; rw [upd_same, hH]
        · rw [upd_ne _ _ e1]
      rw [this]; exact R
    · simp only [Out.heap]
      exact Ext.row_same hH (by rw [e0])
  · have hlt : a < xs.length := by omega
    obtain ⟨bk, hb⟩ := row_blk R hH hV.mu hlt
    have hl : l.addr = some ⟨bk, 0, none⟩ := by simp [Lc.addr, hb]
    have had := p3 (.inr (by omega))
    rw [hl] at had
    simp only [Option.map_some, plain_add, Nat.zero_add] at had
    subst had
    have hseg := seg_wr (a := a) R hH hV.mu hb (RdL_replicate hRd (b - a)) (by rw [List.length_replicate]; omega)
    rw [List.length_replicate] at hseg
    obtain ⟨cur, k1, k2, k3, k4⟩ := hseg
    have hzs : 0 < z.cells.size := by omega
    have hZ := zeroCells_list z.cells (b - a) hzs
    have hst := run_storeCells_at (P := P) bk (a * e.size) te (Builtin.zeroCells z.cells (b - a)).toList 0 cur w k1 (by rw [hZ]; simpa using k2) (fun u hu => by
      rw [hZ] at hu
      obtain ⟨q, hq1, hq2⟩ := List.mem_flatten.1 hu
      rw [(List.mem_replicate.1 hq1).2] at hq2
      exact Rd_one _ _ _ hRd u hq2)
    simp only [Nat.add_zero] at hst
    rw [hZ] at hst
    refine ⟨.value (.tuple #[]), .tuple #[], _, μ, ?_, .inl rfl, k3, k4, by simp only [Out.res, VR]⟩
    obtain ⟨n, hn'⟩ : ∃ n, b - a = n + 1 := ⟨b - a - 1, by omega⟩
    have hclear : (Builtin.clear_ #[t] ty #[.slice (some ⟨bk, a * e.size, none⟩) (b - a) (l.cap - a)]).run P w = .ok (.tuple #[]) (w.setRow bk (cur.toList.take (a * e.size) ++ (List.replicate (b - a) z.cells.toList).flatten ++ cur.toList.drop (a * e.size + (List.replicate (b - a) z.cells.toList).flatten.length)).toArray) := by
      rw [← hZ] at hst ⊢
      rw [hn'] at hst ⊢
      simp only [Builtin.clear_, Sem.run_bind, rUnder ht, Result.andThen_ok, rZero hinf hz, hst, Sem.run_pure]
      simp [rUnder ht, rZero hinf hz, hst]
    simp only [Sem.run_bind, hclear, Result.andThen_ok, Sem.run_pure]

theorem oAppendH_ok (sub : ∀ i o, Hh i = some o → H i = some o) (R : Rel μ S H B w0 w) {id : Nat} {t ty : TypeId} {s x : AV} {vs vx : Value} {out : Out} (hs : VR μ S H s vs) (hx : VR μ S H x vx)
    (h : oAppendH P Hh id t s x = some out) (hk : out.ok = true) (hf : out.fresh H = true) :
    Done P w w0 μ S H B (do pure (.value (← Builtin.append_ #[t, t] ty #[vs, vx]))) out := by
  unfold oAppendH at h
  split at h
  case h_2 => exact oAppend_ok sub R hs hx h hk hf
  rename_i i g a b
  split at h
  case h_2 => simp at h
  rename_i el ht
  split at h
  case h_2 => simp at h
  rename_i _ _ inf te e g' xs hinf hHh
  have hH := sub _ _ hHh
  split at h
  case h_2 => simp at h
  rename_i ys hy
  obtain ⟨hc, rfl⟩ := cond_some h
  simp only [Bool.and_eq_true] at hc
  obtain ⟨⟨⟨⟨c0, c1⟩, c2⟩, c3⟩, c4⟩ := hc
  have c0 := Nat.eq_of_beq_eq_true c0
  have c1 := Nat.eq_of_beq_eq_true c1
  have c2 := Nat.eq_of_beq_eq_true c2
  have c3 := Nat.eq_of_beq_eq_true c3
  have c4 := of_ltN c4
  subst c0 c1 c2
  simp only [Out.ok, decide_eq_true_eq] at hk
  have hcap := fun l hm => view_open R hH (l := l) hm
  obtain ⟨l, hV⟩ := view_sub hs
  have hcap := hcap l hV.mu
  obtain ⟨p1, p2, ad, rfl, p3, p4⟩ := (hV.row _ _ _ _ hH).2 rfl
  simp only [cond_false] at p1 p2 p3 p4 ⊢
  have had := p3 (by simp)
  obtain ⟨av, cap, ds, rfl, q1, q2, q3⟩ := content_ok sub R hx hy
  have viewR : ∀ {μ' : Mu} {H' : Heap} {zs : List e.T}, μ' = μ → H' = upd H i (some (.row te e g zs)) → zs.length = xs.length → VR μ' S H' (.sub i g 0 (b + ys.length)) (.slice ad (b + ys.length) (l.cap - 0)) := by
    intro μ' H' zs h1 h2 h3
    subst h1 h2
    simp only [VR]
    refine ⟨⟨_, _, _, rfl⟩, l, hV.mu, fun t1 e1 g1 xs1 hH1 => ?_⟩
    rw [upd_same] at hH1
    injection hH1 with hH1
    injection hH1 with k1 k2 k3 k4
    subst k2 k3
    cases k4
    exact ⟨Nat.le_refl _, fun _ => ⟨Nat.zero_le _, by omega, ad, rfl, fun _ => had, p4⟩⟩
  by_cases hn : ys.length = 0
  · have hys : ys = [] := List.eq_nil_of_length_eq_zero hn
    subst hys
    have e0 : xs.take b ++ ([] : List e.T) ++ xs.drop (b + List.length ([] : List e.T)) = xs := by simp
    have hu : upd H i (some (.row te e g xs)) = H := by
      funext q
      by_cases e1 : q = i
      · subst e1; rw [upd_same, hH]
      · rw [upd_ne _ _ e1]
    refine ⟨.value (.slice ad (b + 0) (l.cap - 0)), _, w, μ, ?_, .inl rfl, ?_, ?_, ?_⟩
    · have hfc : (Builtin.firstCells inf.size 0 (.slice av 0 cap)).run P w = .ok #[] w := by
        cases av with
        | none => exact run_firstCells_none (P := P) w _ _ _ _
        | some q => exact run_firstCells_some (P := P) w _ _ q _ _ [] (by simp) (fun j v hj => by simp at hj)
      have hroom : b + 0 ≤ l.cap - 0 := by omega
      have : (Builtin.append_ #[t, t] ty #[.slice ad (b - 0) (l.cap - 0), .slice av 0 cap]).run P w = .ok (.slice ad (b + 0) (l.cap - 0)) w := by
        cases ad with
        | none => simp [Builtin.append_, rUnder ht, sizeOf, rInfo hinf, Builtin.lenOf, hroom, hfc]; omega
        | some q => simp [Builtin.append_, rUnder ht, sizeOf, rInfo hinf, Builtin.lenOf, hroom, hfc, storeCells]; omega
      simp only [Sem.run_bind, List.length_nil, this, Result.andThen_ok, Sem.run_pure]
    · simp only [Out.heap]; rw [e0, hu]; exact R
    · simp only [Out.heap]; exact Ext.row_same hH (by rw [e0])
    · simp only [Out.heap, Out.res]; rw [e0]; exact viewR rfl rfl rfl
  · have hlt : b < xs.length := by omega
    obtain ⟨bk, hb⟩ := row_blk R hH hV.mu hlt
    have hl : l.addr = some ⟨bk, 0, none⟩ := by simp [Lc.addr, hb]
    rw [hl] at had
    simp only [Option.map_some, plain_add, Nat.zero_mul] at had
    subst had
    have hav : ∃ q, av = some q := by
      cases av with
      | none => have := (q1 rfl).1; rw [this] at hn; simp at hn
      | some q => exact ⟨q, rfl⟩
    obtain ⟨q, rfl⟩ := hav
    obtain ⟨cur, k1, k2, k3, k4⟩ := seg_wr (a := b) R hH hV.mu hb q2 hk
    have hdl := RdL_length q2
    have hr := run_append_room (P := P) w t ty te inf ht hinf bk b (l.cap - 0) cur k1 q ys.length cap ds (by rw [hdl, c3]) (fun j u hj => by
      obtain ⟨ad', e1, e2⟩ := q3 j u hj
      cases e1; exact e2) (RdL_one q2) (by omega) (by rw [c3]; exact k2)
    refine ⟨.value (.slice (some ⟨bk, 0, none⟩) (b + ys.length) (l.cap - 0)), _, _, μ, ?_, .inl rfl, k3, k4, viewR rfl rfl (seg_len hk)⟩
    rw [c3] at hr
    simp only [Nat.sub_zero] at hr ⊢
    simp only [Sem.run_bind, Nat.zero_add, hr, Result.andThen_ok, Sem.run_pure]
end
end Go.Sy
