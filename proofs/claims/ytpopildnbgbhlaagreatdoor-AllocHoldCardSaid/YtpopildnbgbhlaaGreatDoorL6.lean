/- M10, Pure13_6, Eq13_6, P13_6, Row13, Law13_6. -/
import Derived.Test.YtpopildnbgbhlaaGreatDoorFI
import Derived.Test.YtpopildnbgbhlaaGreatDoorPU
import Derived.Test.YtpopildnbgbhlaaGreatDoorEQ
import Derived.Test.YtpopildnbgbhlaaGreatDoorFD
import Derived.Test.YtpopildnbgbhlaaGreatDoorPC
import Derived.Test.YtpopildnbgbhlaaGreatDoorFG
import Derived.Test.YtpopildnbgbhlaaGreatDoorTie
import Derived.Test.YtpopildnbgbhlaaGreatDoorCards
import Derived.Lay
import Derived.SevenTiedAt
import Derived.Shelf.Vars
import Derived.Lib.LaidTab
namespace Go.Proofs.Zz
open Go Go.Sy
set_option linter.unusedSimpArgs false
set_option linter.unusedVariables false
def nextH (h : Int) (e : ET) : Int := if e.1 = 6 then e.2.2.2.2.2.2.2.1 else h
def holdOf (h : Int) (E : List ET) : Int := E.foldl nextH h
def annot : Int → List ET → List (Int × ET)
 | _, [] => []
 | h, e :: E => (h, e) :: annot (nextH h e) E
abbrev evK (e : ET) : Int × Int := (e.2.2.2.1, e.2.2.2.2.1)
theorem annot_append : ∀ (E F : List ET) (h : Int), annot h (E ++ F) = annot h E ++ annot (holdOf h E) F
 | [], F, h => rfl
 | e :: E, F, h => by
  show (h, e) :: annot (nextH h e) (E ++ F) = (h, e) :: (annot (nextH h e) E ++ _)
  rw [annot_append E F]; rfl
theorem annot_len : ∀ (E : List ET) (h : Int), (annot h E).length = E.length
 | [], _ => rfl
 | e :: E, h => congrArg (· + 1) (annot_len E _)
theorem annot_get : ∀ (E : List ET) (h : Int) (i : Nat) (hi : i < (annot h E).length) (hi' : i < E.length), (annot h E)[i] = (holdOf h (E.take i), E[i])
 | [], h, i, hi, _ => by cases hi
 | e :: E, h, 0, _, _ => rfl
 | e :: E, h, i + 1, hi, hi' => annot_get E (nextH h e) i (Nat.lt_of_succ_lt_succ hi) (Nat.lt_of_succ_lt_succ hi')
theorem annot_keep {h : Int} : ∀ {N : List ET}, (∀ e ∈ N, e.1 ≠ 6) → (∀ a ∈ annot h N, a.1 = h ∧ a.2 ∈ N) ∧ holdOf h N = h
 | [], _ => ⟨fun a ha => (List.not_mem_nil ha).elim, rfl⟩
 | e :: N, hN => by
  have he : nextH h e = h := if_neg (hN e (List.mem_cons_self ..))
  have ih := annot_keep (h := h) (N := N) fun e' he' => hN e' (List.mem_cons_of_mem _ he')
  refine ⟨fun a ha => ?_, ?_⟩
  ·have ha : a ∈ (h, e) :: annot (nextH h e) N := ha
   rw [he] at ha
   rcases List.mem_cons.1 ha with rfl | ha
   ·exact ⟨rfl, List.mem_cons_self ..⟩
   ·exact ⟨(ih.1 a ha).1, List.mem_cons_of_mem _ (ih.1 a ha).2⟩
  ·show holdOf (nextH h e) N = h
   rw [he]; exact ih.2
def OwesR (a b : Int × ET) : Prop := a.2.1 = 1 → b.2.1 = 0 → evK a.2 = evK b.2 → a.2.2.1 + a.1 ≤ b.2.2.1
def OweJ (t : ST) (k : Int × Int) (till : Int) : Prop := till ≤ t.2.2.1 ∨ ∃ x ∈ t.2.2.2.2.2, kH x = k ∧ till ≤ x.2.2
structure HoldI (p0 : Int) (s : ST) (E : List ET) : Prop where
 may : MayS s
 hold : holdOf p0 E = s.2.1.2.2.1
 bd : ∀ a ∈ annot p0 E, a.2.1 = 1 → (0 ≤ a.2.2.1 ∧ a.2.2.1 ≤ 2147483648) ∧ 0 ≤ a.1 ∧ a.1 ≤ 1048576
 owe : ∀ a ∈ annot p0 E, a.2.1 = 1 → OweJ s (evK a.2) (a.2.2.1 + a.1)
 pw : (annot p0 E).Pairwise OwesR
section
variable {p0 : Int} {s t : ST} {E N : List ET}
theorem hold_step (I : HoldI p0 s E) (M : MayS t) (hn : s.2.2.1 ≤ t.2.2.1) (hH : ∀ x ∈ s.2.2.2.2.2, x ∈ t.2.2.2.2.2 ∨ x.2.2 ≤ t.2.2.1) (hN : holdOf s.2.1.2.2.1 N = t.2.1.2.2.1)
  (hF : ∀ a ∈ annot s.2.1.2.2.1 N, a.2.1 = 1 → a.1 = s.2.1.2.2.1 ∧ (0 ≤ a.2.2.1 ∧ a.2.2.1 ≤ 2147483648) ∧ OweJ t (evK a.2) (a.2.2.1 + s.2.1.2.2.1))
  (hG : ∀ a ∈ annot s.2.1.2.2.1 N, a.2.1 = 0 → s.2.2.1 ≤ a.2.2.1 ∧ ∀ x ∈ s.2.2.2.2.2, kH x ≠ evK a.2) (hP : (annot s.2.1.2.2.1 N).Pairwise OwesR) : HoldI p0 t (E ++ N) := by
 have e := annot_append E N p0
 rw [I.hold] at e
 refine ⟨M, ?_, ?_, ?_, ?_⟩
 ·rw [← hN, ← I.hold]; exact List.foldl_append
 ·rw [e]
  intro a ha h1
  rcases List.mem_append.1 ha with ha | ha
  ·exact I.bd a ha h1
  ·have := hF a ha h1
   refine ⟨this.2.1, ?_⟩
   rw [this.1]
   exact I.may.pol.2.2
 ·rw [e]
  intro a ha h1
  rcases List.mem_append.1 ha with ha | ha
  ·rcases I.owe a ha h1 with h | ⟨x, hx, hk, ht⟩
   ·exact .inl (Int.le_trans h hn)
   ·rcases hH x hx with h | h
    ·exact .inr ⟨x, h, hk, ht⟩
    ·exact .inl (Int.le_trans ht h)
  ·have := hF a ha h1
   rw [this.1]
   exact this.2.2
 ·rw [e, List.pairwise_append]
  refine ⟨I.pw, hP, fun a ha b hb h1 h2 hk => ?_⟩
  have hg := hG b hb h2
  rcases I.owe a ha h1 with h | ⟨x, hx, hkx, ht⟩
  ·exact Int.le_trans h hg.1
  ·exact absurd (hkx.trans hk) (hg.2 x hx)
theorem hold_one (I : HoldI p0 s E) (M : MayS t) (hn : s.2.2.1 ≤ t.2.2.1) (hH : t.2.2.2.2.2 = s.2.2.2.2.2) {e : ET} (h0 : e.1 ≠ 0) (h1 : e.1 ≠ 1) (hN : nextH s.2.1.2.2.1 e = t.2.1.2.2.1) : HoldI p0 t (E ++ [e]) := by
 refine hold_step I M hn (fun x hx => .inl (by rw [hH]; exact hx)) hN ?_ ?_ (List.pairwise_singleton ..)
 ·intro a ha h
  rw [List.mem_singleton.1 (show a ∈ [(s.2.1.2.2.1, e)] from ha)] at h
  exact absurd h h1
 ·intro a ha h
  rw [List.mem_singleton.1 (show a ∈ [(s.2.1.2.2.1, e)] from ha)] at h
  exact absurd h h0
theorem hold_none (I : HoldI p0 s E) (M : MayS t) (hn : s.2.2.1 ≤ t.2.2.1) (hH : t.2.2.2.2.2 = s.2.2.2.2.2) (hp : t.2.1 = s.2.1) : HoldI p0 t (E ++ []) :=
 hold_step I M hn (fun x hx => .inl (by rw [hH]; exact hx)) (by rw [hp]; rfl) (fun a ha => (List.not_mem_nil ha).elim) (fun a ha => (List.not_mem_nil ha).elim) List.Pairwise.nil
theorem hold_grant (I : HoldI p0 s E) {sub a b : Int} {d : DoT} (G : Granted s sub a b d) : HoldI p0 d.1 (E ++ d.2.1) := by
 have h3 := G.held
 have h4 := G.may
 rw [G.st] at h4
 rw [G.st, G.ev]
 refine hold_step I h4 (Int.le_refl _) (fun x hx => .inl hx) rfl ?_ ?_ (List.pairwise_singleton ..)
 ·intro c hc h
  rw [List.mem_singleton.1 (show c ∈ [(s.2.1.2.2.1, _)] from hc)] at h
  have h : (0 : Int) = 1 := h
  omega
 ·intro c hc h
  rw [List.mem_singleton.1 (show c ∈ [(s.2.1.2.2.1, _)] from hc)]
  exact ⟨Int.le_refl _, h3⟩
theorem hold_free (I : HoldI p0 s E) (M : MayS t) (hn : s.2.2.1 ≤ t.2.2.1) (hp : t.2.1 = s.2.1) (hH : ∀ x ∈ s.2.2.2.2.2, x ∈ t.2.2.2.2.2 ∨ x.2.2 ≤ t.2.2.1)
  (hN : ∀ e ∈ N, e.1 = 1 ∧ (0 ≤ e.2.1 ∧ e.2.1 ≤ 2147483648) ∧ OweJ t (evK e) (e.2.1 + s.2.1.2.2.1)) : HoldI p0 t (E ++ N) := by
 obtain ⟨k1, k2⟩ := annot_keep (h := s.2.1.2.2.1) (N := N) fun e he => by rw [(hN e he).1]; decide
 refine hold_step I M hn hH (by rw [k2, hp]) (fun a ha h => ⟨(k1 a ha).1, (hN _ (k1 a ha).2).2⟩) (fun a ha h => ?_) ?_
 ·have := (hN _ (k1 a ha).2).1
  rw [h] at this; cases this
 ·refine List.Pairwise.imp_of_mem (R := fun _ _ => True) (fun {a b} ha hb _ h1 h2 => ?_) (List.pairwise_of_forall fun _ _ => trivial)
  have := (hN _ (k1 b hb).2).1
  rw [h2] at this; cases this
theorem hold_release (I : HoldI p0 s E) {y : LT} (hy : y ∈ s.2.2.2.2.1) : HoldI p0 (freeT s y s.2.2.1) (E ++ [freeE y s.2.2.1]) := by
 have M := I.may
 have hno : ∀ x ∈ s.2.2.2.2.2, kH x ≠ (y.2.1, y.2.2.1) := by
  intro x hx e
  have h := (M.helds.each x hx).free
  have e1 : x.1 = y.2.1 := congrArg Prod.fst e
  have e2 : x.2.1 = y.2.2.1 := congrArg Prod.snd e
  rw [e1, e2, has_of hy] at h
  cases h
 refine hold_free I (free_may M hy) (Int.le_refl _) rfl (fun x hx => .inl ?_) fun e he => ?_
 ·show x ∈ (if 0 < s.2.1.2.2.1 then _ else _ : List HT)
  split
  ·exact mem_holdH.2 (.inr ⟨hx, hno x hx⟩)
  ·exact hx
 ·rw [List.mem_singleton.1 he]
  have h0 := M.now0
  have h1 := M.now1
  have h2 := M.pol.2.2.1
  refine ⟨rfl, ⟨h0, by show s.2.2.1 ≤ _; omega⟩, ?_⟩
  unfold OweJ
  by_cases hh : 0 < s.2.1.2.2.1
  ·refine .inr ⟨(y.2.1, (y.2.2.1, s.2.2.1 + s.2.1.2.2.1)), ?_, rfl, Int.le_refl _⟩
   show _ ∈ (if 0 < s.2.1.2.2.1 then _ else _ : List HT)
   rw [if_pos hh]
   exact mem_holdH.2 (.inl rfl)
  ·refine .inl ?_
   show s.2.2.1 + s.2.1.2.2.1 ≤ s.2.2.1
   omega
theorem hold_tick (I : HoldI p0 s E) (n : Int) (h1 : s.2.2.1 ≤ n) (h2 : n ≤ 1073741824) :
  HoldI p0 (setNow (freeAll s (dueL s n)) n) (E ++ (dueL s n).map fun x => freeE x (x.2.2.2.2 + s.2.1.2.1)) := by
 have M := I.may
 have F := freed_due M n
 refine hold_free I (tick_may M h1 h2) h1 F.pol (fun x hx => ?_) fun e he => ?_
 ·by_cases hc : x.2.2 ≤ n
  ·exact .inr hc
  ·refine .inl (List.mem_filter.2 ⟨(F.helds x).2 (.inl hx), ?_⟩)
   rw [decide_eq_false hc]; rfl
 ·obtain ⟨x, hx, rfl⟩ := List.mem_map.1 he
  have hd := mem_due.1 hx
  have hL := M.leases.each x hd.1
  have hf := hL.from0
  have hl := hL.last1
  have hi := M.pol.2.1
  have hh := M.pol.2.2
  refine ⟨rfl, ⟨by show 0 ≤ x.2.2.2.2 + s.2.1.2.1; omega, by show x.2.2.2.2 + s.2.1.2.1 ≤ _; omega⟩, ?_⟩
  show x.2.2.2.2 + s.2.1.2.1 + s.2.1.2.2.1 ≤ n ∨ _
  by_cases hc : x.2.2.2.2 + s.2.1.2.1 + s.2.1.2.2.1 ≤ n
  ·exact .inl hc
  ·refine .inr ⟨(x.2.1, (x.2.2.1, x.2.2.2.2 + s.2.1.2.1 + s.2.1.2.2.1)), List.mem_filter.2 ⟨(F.helds _).2 (.inr ⟨by omega, x, hx, rfl⟩), ?_⟩, rfl, Int.le_refl _⟩
   rw [decide_eq_false hc]; rfl
theorem hold_do (r : RT) (I : HoldI p0 s E) : HoldI p0 (doS s r).1 (E ++ (doS s r).2.1) := by
 have hM := do_may I.may r
 have M := I.may
 have er : ∀ e, HoldI p0 (errS s e).1 (E ++ (errS s e).2.1) := fun e => hold_none I I.may (Int.le_refl _) rfl rfl
 revert hM
 unfold doS
 by_cases h0 : MayS s ∧ 0 ≤ r.1 ∧ r.1 < 9
 case neg => rw [if_pos h0]; exact fun _ => er 1
 rw [if_neg (not_not_intro h0)]
 have pl : ∀ (q : List HT × Int) (e : ET), e.1 ≠ 0 → e.1 ≠ 1 → e.1 ≠ 6 → (MayS (poolsS s q e).1 ∧ (poolsS s q e).1.1 = s.1) → HoldI p0 (poolsS s q e).1 (E ++ (poolsS s q e).2.1) := by
  intro q e k0 k1 k6
  unfold poolsS
  by_cases h : q.2 ≠ 0
  ·rw [if_pos h]; exact fun _ => er _
  ·rw [if_neg h]; exact fun hM => hold_one I hM.1 (Int.le_refl _) rfl k0 k1 (if_neg k6)
 by_cases h : r.1 = 0
 ·rw [if_pos h]
  intro hM
  rcases grant_ok M r.2.1 with ⟨e, _, h⟩ | ⟨x, y, G⟩
  ·rw [h]; exact er e
  ·exact hold_grant I G
 rw [if_neg h]
 by_cases h : r.1 = 1
 ·rw [if_pos h]
  unfold refreshS
  by_cases hm : mineP s.2.2.2.2.1 r.2.1 r.2.2.1 r.2.2.2.1
  ·rw [if_neg (not_not_intro hm)]; exact fun hM => hold_none I hM.1 (Int.le_refl _) rfl rfl
  ·rw [if_pos hm]; exact fun _ => er 5
 rw [if_neg h]
 by_cases h : r.1 = 2
 ·rw [if_pos h]
  unfold releaseS
  by_cases hm : mineP s.2.2.2.2.1 r.2.1 r.2.2.1 r.2.2.2.1
  ·rw [if_neg (not_not_intro hm)]; exact fun _ => hold_release I (mine_mem hm.1).1
  ·rw [if_pos hm]; exact fun _ => er 5
 rw [if_neg h]
 by_cases h : r.1 = 3
 ·rw [if_pos h]
  unfold tickS
  by_cases hn : r.2.2.2.2.1 < s.2.2.1 ∨ 1073741824 < r.2.2.2.2.1
  ·rw [if_pos hn]; exact fun _ => er 10
  ·rw [if_neg hn]; exact fun _ => hold_tick I _ (by omega) (by omega)
 rw [if_neg h]
 by_cases h : r.1 = 4
 ·rw [if_pos h]; exact pl _ _ (by show (2 : Int) ≠ 0; omega) (by show (2 : Int) ≠ 1; omega) (by show (2 : Int) ≠ 6; omega)
 rw [if_neg h]
 by_cases h : r.1 = 5
 ·rw [if_pos h]; exact pl _ _ (by show (3 : Int) ≠ 0; omega) (by show (3 : Int) ≠ 1; omega) (by show (3 : Int) ≠ 6; omega)
 rw [if_neg h]
 by_cases h : r.1 = 6
 ·rw [if_pos h]; exact pl _ _ (by show (4 : Int) ≠ 0; omega) (by show (4 : Int) ≠ 1; omega) (by show (4 : Int) ≠ 6; omega)
 rw [if_neg h]
 by_cases h : r.1 = 7
 ·rw [if_pos h]; exact pl _ _ (by show (5 : Int) ≠ 0; omega) (by show (5 : Int) ≠ 1; omega) (by show (5 : Int) ≠ 6; omega)
 rw [if_neg h]
 unfold policyS
 by_cases h1 : PolP r.2.2.2.2.2
 ·rw [if_neg (not_not_intro h1)]
  by_cases h2 : MayS (setPol s r.2.2.2.2.2)
  ·rw [if_neg (not_not_intro h2)]
   exact fun _ => hold_one I h2 (Int.le_refl _) rfl (by show (6 : Int) ≠ 0; omega) (by show (6 : Int) ≠ 1; omega) (if_pos rfl)
  ·rw [if_pos h2]; exact fun _ => er 12
 ·rw [if_pos h1]; exact fun _ => er 1
theorem hold_run {s : ST} (M : MayS s) (l : List RT) : HoldI s.2.1.2.2.1 (runS s l).1 (runS s l).2 :=
 run_inv (I := HoldI s.2.1.2.2.1) (fun t E r I => hold_do r I) ⟨M, rfl, fun a ha => (List.not_mem_nil ha).elim, fun a ha => (List.not_mem_nil ha).elim, List.Pairwise.nil⟩ l
end
set_option maxRecDepth 100000
abbrev X6_10 : Type := (Int × Int × (List (Int × Int × Int × Int × Int × Int × Int × Int × Bool)) × Int × Int × Unit) × (Unit) × (Unit)
abbrev Y6_10 : Type := (Int × Int × (List (Int × Int × Int × Int × Int × Int × Int × Int × Bool)) × Int × Unit) × (Unit) × (Unit)
abbrev Z6_10 : Type := Unit × Unit × Unit
noncomputable def t6_10 (v1 v2 : Int) (v3 : (List (Int × Int × Int × Int × Int × Int × Int × Int × Bool))) (v4 v5 : Int) : Option (R3 X6_10 Y6_10 Z6_10) :=
 cond (decide (v5 < v1)) (
  cond ((decide (0 ≤ v5)) && (decide (v5 < (v3.length : Int)))) (
   cond (decide ((rd (.pair (.int .i64) (.pair (.int .i64) (.pair (.int .i64) (.pair (.int .i64) (.pair (.int .i64) (.pair (.int .i64) (.pair (.int .i64) (.pair (.int .i64) .bool)))))))) v3 (Int.toNat v5)).1 = 6)) (
    cond ((decide (0 ≤ v5)) && (decide (v5 < (v3.length : Int)))) (
     some (R3.next ((v1, v2, v3, (rd (.pair (.int .i64) (.pair (.int .i64) (.pair (.int .i64) (.pair (.int .i64) (.pair (.int .i64) (.pair (.int .i64) (.pair (.int .i64) (.pair (.int .i64) .bool)))))))) v3 (Int.toNat v5)).2.2.2.2.2.2.2.1, (IntKind.wrap .i64 (v5 + 1)), ()), (), ()))) (
     none)) (
    some (R3.next ((v1, v2, v3, v4, (IntKind.wrap .i64 (v5 + 1)), ()), (), ())))) (
   none)) (
  some (R3.out ((v1, v2, v3, v4, ()), (), ())))
noncomputable def u6_10 (z : X6_10) : Option (R3 X6_10 Y6_10 Z6_10) := t6_10 z.1.1 z.1.2.1 z.1.2.2.1 z.1.2.2.2.1 z.1.2.2.2.2.1
noncomputable def f6 (v1 v2 v3 v4 v5 v6 v7 v8 v9 v10 v11 : Int) (v12 : Bool) (v13 : (List (Int × Int × Int × Int × Int × Int × Int × Int × Bool))) (v14 v15 : Int) : Option (Bool × Unit) :=
 (f11).bind fun y16 =>
 ((f16 v1 v2 v3 v4 v5 v6 v7 v8 v9 v10 v11 v12)).bind fun y17 =>
 cond (!y16.1) (
  some (y16.1, ())) (
  cond (!y17.2.1) (
   some (y16.1, ())) (
   cond (decide (60 < (v13.length : Int))) (
    some (y16.1, ())) (
    ((f17 y17.1.1.1.1 y17.1.1.1.2 y17.1.1.2.1.1 y17.1.1.2.1.2 y17.1.1.2.2.1 y17.1.1.2.2.2.1 y17.1.1.2.2.2.2.1 y17.1.1.2.2.2.2.2 y17.1.2.1.1 y17.1.2.1.2.1 y17.1.2.1.2.2.1 y17.1.2.1.2.2.2 y17.1.2.2.1 y17.1.2.2.2.1 y17.1.2.2.2.2.1 y17.1.2.2.2.2.2 v13)).bind fun y18 =>
    cond (decide (v14 < 0)) (
     some (true, ())) (
     cond (decide (v15 ≤ v14)) (
      some (true, ())) (
      cond (decide ((y18.2.1.length : Int) ≤ v15)) (
       some (true, ())) (
       cond ((decide (0 ≤ v14)) && (decide (v14 < (y18.2.1.length : Int)))) (
        cond (!(decide ((rd (.pair (.int .i64) (.pair (.int .i64) (.pair (.int .i64) (.pair (.int .i64) (.pair (.int .i64) (.pair (.int .i64) (.pair (.int .i64) (.pair (.int .i64) .bool)))))))) y18.2.1 (Int.toNat v14)).1 = 1))) (
         some (true, ())) (
         cond ((decide (0 ≤ v15)) && (decide (v15 < (y18.2.1.length : Int)))) (
          cond (!(decide ((rd (.pair (.int .i64) (.pair (.int .i64) (.pair (.int .i64) (.pair (.int .i64) (.pair (.int .i64) (.pair (.int .i64) (.pair (.int .i64) (.pair (.int .i64) .bool)))))))) y18.2.1 (Int.toNat v15)).1 = 0))) (
           some (true, ())) (
           cond ((decide (0 ≤ v15)) && (decide (v15 < (y18.2.1.length : Int)))) (
            cond ((decide (0 ≤ v14)) && (decide (v14 < (y18.2.1.length : Int)))) (
             cond (!(decide ((rd (.pair (.int .i64) (.pair (.int .i64) (.pair (.int .i64) (.pair (.int .i64) (.pair (.int .i64) (.pair (.int .i64) (.pair (.int .i64) (.pair (.int .i64) .bool)))))))) y18.2.1 (Int.toNat v15)).2.2.2.1 = (rd (.pair (.int .i64) (.pair (.int .i64) (.pair (.int .i64) (.pair (.int .i64) (.pair (.int .i64) (.pair (.int .i64) (.pair (.int .i64) (.pair (.int .i64) .bool)))))))) y18.2.1 (Int.toNat v14)).2.2.2.1))) (
              some (true, ())) (
              cond ((decide (0 ≤ v15)) && (decide (v15 < (y18.2.1.length : Int)))) (
               cond ((decide (0 ≤ v14)) && (decide (v14 < (y18.2.1.length : Int)))) (
                cond (!(decide ((rd (.pair (.int .i64) (.pair (.int .i64) (.pair (.int .i64) (.pair (.int .i64) (.pair (.int .i64) (.pair (.int .i64) (.pair (.int .i64) (.pair (.int .i64) .bool)))))))) y18.2.1 (Int.toNat v15)).2.2.2.2.1 = (rd (.pair (.int .i64) (.pair (.int .i64) (.pair (.int .i64) (.pair (.int .i64) (.pair (.int .i64) (.pair (.int .i64) (.pair (.int .i64) (.pair (.int .i64) .bool)))))))) y18.2.1 (Int.toNat v14)).2.2.2.2.1))) (
                 some (true, ())) (
                 ((iter big u6_10 ((v14, v15, y18.2.1, v11, 0, ()), (), ()))).bind fun r => match r with
                 | .inl y19 =>
                   cond ((decide (0 ≤ y19.1.2.1)) && (decide (y19.1.2.1 < (y19.1.2.2.1.length : Int)))) (
                    cond ((decide (0 ≤ y19.1.1)) && (decide (y19.1.1 < (y19.1.2.2.1.length : Int)))) (
                     some ((decide ((IntKind.wrap .i64 ((rd (.pair (.int .i64) (.pair (.int .i64) (.pair (.int .i64) (.pair (.int .i64) (.pair (.int .i64) (.pair (.int .i64) (.pair (.int .i64) (.pair (.int .i64) .bool)))))))) y19.1.2.2.1 (Int.toNat y19.1.1)).2.1 + y19.1.2.2.2.1)) ≤ (rd (.pair (.int .i64) (.pair (.int .i64) (.pair (.int .i64) (.pair (.int .i64) (.pair (.int .i64) (.pair (.int .i64) (.pair (.int .i64) (.pair (.int .i64) .bool)))))))) y19.1.2.2.1 (Int.toNat y19.1.2.1)).2.1)), ())) (
                     none)) (
                    none)
                 | .inr z20 =>
                   none)) (
                none)) (
               none))) (
             none)) (
            none))) (
          none))) (
        none)))))))
set_option maxHeartbeats 0
abbrev ps6 : List Ty := [.pair (.pair (.int .i64) (.int .i64)) (.pair (.pair (.int .i64) (.int .i64)) (.pair (.int .i64) (.pair (.int .i64) (.pair (.int .i64) (.int .i64))))), .pair (.int .i64) (.pair (.int .i64) (.pair (.int .i64) (.bool))), .row (.pair (.int .i64) (.pair (.int .i64) (.pair (.int .i64) (.pair (.int .i64) (.pair (.int .i64) (.pair (.int .i64) (.pair (.int .i64) (.pair (.int .i64) (.bool))))))))), .int .i64, .int .i64]
abbrev rs6 : List RTy := [.val (.bool)]
noncomputable abbrev L6 : List (Nat × Con) := [(11, con11), (16, con16), (17, con17)]
noncomputable abbrev U6 : List (Nat × UCon) := []
noncomputable abbrev C6 : Cons := lookC L6 U6
abbrev s6_10 : LShape := ⟨130, [(3, .int .i64), (4, .int .i64), (15, .cont (.pair (.int .i64) (.pair (.int .i64) (.pair (.int .i64) (.pair (.int .i64) (.pair (.int .i64) (.pair (.int .i64) (.pair (.int .i64) (.pair (.int .i64) .bool))))))))), (16, .int .i64), (17, .int .i64)], [], [], []⟩
abbrev o6_10 : LShape := ⟨130, [(3, .int .i64), (4, .int .i64), (15, .cont (.pair (.int .i64) (.pair (.int .i64) (.pair (.int .i64) (.pair (.int .i64) (.pair (.int .i64) (.pair (.int .i64) (.pair (.int .i64) (.pair (.int .i64) .bool))))))))), (16, .int .i64)], [], [], []⟩
abbrev q6_10 : LShape := ⟨130, [], [], [], []⟩
noncomputable def l6_10 : LSum := ⟨9, 6, s6_10, 0, o6_10, q6_10, u6_10, false, none, none, []⟩
noncomputable abbrev S6 : List (Nat × Nat × LSum) := [(4294967296, 10, l6_10)]
noncomputable def con6 : Con := ⟨ps6, rs6, fun x => f6 x.1.1.1 x.1.1.2 x.1.2.1.1 x.1.2.1.2 x.1.2.2.1 x.1.2.2.2.1 x.1.2.2.2.2.1 x.1.2.2.2.2.2 x.2.1.1 x.2.1.2.1 x.2.1.2.2.1 x.2.1.2.2.2 x.2.2.1 x.2.2.2.1 x.2.2.2.2.1⟩
theorem r6_10 : Round Tryz.prog C6 (lookS S6) big 4294967296 10 l6_10 := ⟨by kernel_rfl, fun z => by kernel_rfl⟩
theorem e6 (x : Args ps6) : kTop Tryz.prog C6 (lookS S6) big 10 6 ps6 rs6 x = con6.f x := by kernel_rfl
theorem ok6 [Glob] [RngG Tryz.prog] (h : AllOK Tryz.prog L6) (h' : AllU Tryz.prog U6) : con6.OK Tryz.prog 6 := con_of_tree (lookC_ok h h') (rounds_of (l := S6) ⟨r6_10, trivial⟩) e6
theorem k6 : con6.OK Tryz.prog 6 := ok6 ⟨k11, k16, k17, trivial⟩ trivial
theorem it6 (E : List ET) (i k : Nat) (p : Int) (hi : i < E.length) (hl : E.length ≤ 9223372036854775807) :
  iter big u6_10 (((i : Int), (k : Int), E, p, 0, ()), (), ()) = some (.inl (((i : Int), (k : Int), E, holdOf p (E.take i), ()), (), ())) := by
 refine it_all (u := u6_10) (fun j => (((i : Int), (k : Int), E, holdOf p (E.take j), ((j : Nat) : Int), ()), (), ())) (n := i)
  (y := (((i : Int), (k : Int), E, holdOf p (E.take i), ()), (), ())) (fun j hj => ?_) ?_ 0 big (Nat.zero_le _) (by unfold big; omega)
 ·have hj2 : j < E.length := by omega
  have e : holdOf p (E.take (j + 1)) = nextH (holdOf p (E.take j)) E[j] := by
   unfold holdOf
   rw [take_snoc hj2, List.foldl_append]; rfl
  simp only [u6_10, t6_10, ltn hj, ltn hj2, ge0, cond_true, Bool.and_self, Int.toNat_natCast, rdR hj2, nx hj2 hl]
  rw [e]
  unfold nextH
  by_cases h6 : E[j].1 = 6
  ·rw [if_pos h6, decide_eq_true h6]; rfl
  ·rw [if_neg h6, decide_eq_false h6]; rfl
 ·simp only [u6_10, t6_10, nlt, cond_false]
theorem f6_true (D : DT) (p : PT) (l : List RT) (i k : Int) :
  f6 D.1.1 D.1.2 D.2.1.1 D.2.1.2 D.2.2.1 D.2.2.2.1 D.2.2.2.2.1 D.2.2.2.2.2 p.1 p.2.1 p.2.2.1 p.2.2.2 l i k = some (true, ()) := by
 unfold f6
 rw [f11_eq, f16_eq]
 by_cases M : MayS (newS D p)
 case neg => rw [decide_eq_false M]; rfl
 rw [if_pos M, decide_eq_true M]
 simp only [Option.bind_some, Bool.not_true, cond_false]
 by_cases hl : 60 < ((l.length : Nat) : Int)
 ·rw [decide_eq_true hl]; rfl
 rw [decide_eq_false hl]
 have e17 := f17_eq (newS D p) M l (by omega)
 have I := hold_run M l
 have hE := run_len M l l.length (Nat.le_refl _)
 rw [List.take_length] at hE
 simp only at e17 I
 rw [e17]
 generalize (runS (newS D p) l).2 = E at *
 generalize (runS (newS D p) l).1 = t at *
 simp only [Option.bind_some, cond_false]
 by_cases h0 : i < 0
 ·rw [decide_eq_true h0]; rfl
 rw [decide_eq_false h0]
 by_cases h1 : k ≤ i
 ·rw [decide_eq_true h1]; rfl
 rw [decide_eq_false h1]
 by_cases h2 : ((E.length : Nat) : Int) ≤ k
 ·rw [decide_eq_true h2]; rfl
 rw [decide_eq_false h2]
 obtain ⟨i, rfl⟩ : ∃ j : Nat, i = (j : Int) := ⟨i.toNat, by omega⟩
 obtain ⟨k, rfl⟩ : ∃ j : Nat, k = (j : Int) := ⟨k.toNat, by omega⟩
 have hi : i < E.length := by omega
 have hk : k < E.length := by omega
 simp only [cond_false, ltn hi, ltn hk, ge0, Bool.and_self, cond_true, Int.toNat_natCast, rdR hi, rdR hk]
 by_cases k1 : E[i].1 = 1
 case neg => rw [decide_eq_false k1]; rfl
 rw [decide_eq_true k1]
 by_cases k2 : E[k].1 = 0
 case neg => rw [decide_eq_false k2]; rfl
 rw [decide_eq_true k2]
 by_cases k3 : E[k].2.2.2.1 = E[i].2.2.2.1
 case neg => rw [decide_eq_false k3]; rfl
 rw [decide_eq_true k3]
 by_cases k4 : E[k].2.2.2.2.1 = E[i].2.2.2.2.1
 case neg => rw [decide_eq_false k4]; rfl
 rw [decide_eq_true k4]
 simp only [Bool.not_true, cond_false]
 rw [it6 E i k _ hi (by omega)]
 have hai : i < (annot p.2.2.1 E).length := by rw [annot_len]; exact hi
 have hak : k < (annot p.2.2.1 E).length := by rw [annot_len]; exact hk
 have gi := annot_get E p.2.2.1 i hai hi
 have gk := annot_get E p.2.2.1 k hak hk
 have hb := I.bd _ (List.getElem_mem hai)
 have hp := List.pairwise_iff_getElem.1 I.pw i k hai hak (by omega)
 rw [gi] at hb hp
 rw [gk] at hp
 have hb := hb k1
 have hp : E[i].2.1 + holdOf p.2.2.1 (E.take i) ≤ E[k].2.1 := hp k1 k2 (by show (_, _) = (_, _); rw [k3, k4])
 simp only at hb
 have hw : IntKind.wrap .i64 (E[i].2.1 + holdOf p.2.2.1 (E.take i)) = E[i].2.1 + holdOf p.2.2.1 (E.take i) := w64 (by omega) (by omega)
 simp only [Option.bind_some, ltn hi, ltn hk, ge0, Bool.and_self, cond_true, Int.toNat_natCast, rdR hi, rdR hk, hw, decide_eq_true hp]
end Go.Proofs.Zz
namespace Go.Proofs.YtpopildnbgbhlaaGreatDoor
open Go Go.Sy Go.RowKit Go.Proofs.Zz
set_option linter.unusedVariables false
set_option maxRecDepth 100000
theorem own : ownKnob Tryz.prog.godebug = none := by kernel_rfl
theorem laidOut : laidOutB Tryz.prog = true := by kernel_rfl
abbrev tabs : List (String × DataW Unit) := [("math/bits.deBruijn32tab", Rows.laid_math_bits_deBruijn32tab), ("math/bits.deBruijn64tab", Rows.laid_math_bits_deBruijn64tab)]
abbrev tab64 : List Int := Lib.deBruijn64tab.map fun (n : Nat) => (n : Int)
theorem tab64_eq : (Rows.laid_math_bits_deBruijn64tab : DataW Unit) = Lib.tabData .u8 tab64 := by kernel_rfl
theorem laidMet_next {P : Program} {x : String × DataW Unit} {r : List (String × DataW Unit)} {w : World} (h : laidMet P (x :: r) w) : laidMet P r w := by
 obtain ⟨ps, ⟨g, t, cs, fuel, p, q, _, _, _, _, h1, rfl⟩, hn, hp⟩ := h
 refine ⟨q, h1, ?_, fun b off hm => hp b off (List.mem_append.2 (.inr hm))⟩
 exact (List.nodup_append.1 hn).2.1
theorem tab64_of {W : World} (h : laidMet Tryz.prog tabs W) : Lib.TabIs Tryz.prog W "math/bits.deBruijn64tab" .u8 tab64 := by
 have h1 := laidMet_next h
 rw [tab64_eq] at h1
 exact Lib.tabIs_of_head (g := 1) (t := 233) (e := 5) (n := 64) (by kernel_rfl) (by kernel_rfl) (by kernel_rfl) (by kernel_rfl) (by kernel_rfl) (by kernel_rfl) h1
theorem tab_get : ∀ j : Fin 64, (tab64.map fun z => Value.int .u8 z)[j.val]? = some (Value.int .u8 ((Lib.deBruijn64tab.getD j.val 0 : Nat) : Int)) := by
 intro j
 simp only [tab64, List.getElem?_map]
 have h : Lib.deBruijn64tab[j.val]? = some (Lib.deBruijn64tab.getD j.val 0) := by
  have hl : Lib.deBruijn64tab.length = 64 := by decide
  have hj := j.isLt
  rw [List.getD_eq_getElem?_getD, List.getElem?_eq_getElem (by omega)]
  rfl
 rw [h]
 rfl
theorem glob_of {W : World} (h : laidMetH Tryz.prog tabs W) : Glob.pre (allS W) := by
 rw [MakeChecks.laidMetH_plain _ _ _ (by kernel_rfl)] at h
 intro w hw j hj
 have ht := tab64_of h
 unfold Lib.TabIs World.var? at ht
 have hg : Tryz.prog.globalNamed "math/bits.deBruijn64tab" = some 1 := by kernel_rfl
 rw [hg] at ht
 simp only [Option.bind_some] at ht
 have hl : Lib.deBruijn64tab.length = 64 := by decide
 have hget := tab_get ⟨j, by omega⟩
 cases hb : W.heap[1]? with
 | none => rw [hb] at ht; simp at ht
 | some o =>
  have hb' := hw 1 o hb
  rw [hb] at ht
  unfold World.cell?
  simp only
  rw [hb']
  cases o with
  | cells cs t x =>
   simp only at ht ⊢
   cases ht
   have e : ((tab64.map fun z => Value.int .u8 z).toArray)[j]? = (tab64.map fun z => Value.int .u8 z)[j]? := by simp
   rw [hget] at e
   simpa using e
  | _ => simp at ht
theorem shaped_tabs {os : Os} {args : Array Value} : ((World.laidAll Tryz.prog os tabs).forCall (fun _ _ => 0) ⟨#[], args, []⟩).Shaped Tryz.prog :=
 World.shaped_of_ZipB (by kernel_rfl) (by kernel_rfl)
theorem met_tabs (os : Os) (args : Array Value) : laidMetH Tryz.prog tabs ((World.laidAll Tryz.prog os tabs).forCall (fun _ _ => 0) ⟨#[], args, []⟩).memory := by
 rw [MakeChecks.laidMetH_plain _ _ _ (by kernel_rfl)]; exact laidMet_laidAll _ (by kernel_rfl) (by kernel_rfl)
end Go.Proofs.YtpopildnbgbhlaaGreatDoor
namespace Go.Proofs.YtpopildnbgbhlaaGreatDoor.allocHold
open Go Go.Sy Go.RowKit Go.Proofs.Zz Go.ChangeShapes
set_option linter.unusedVariables false
set_option maxRecDepth 100000
theorem lifted (os : Os) (started : os.Started) (H : Type) (enc : TypeId × Value → H) :
  ReturnsInHanded {} Tryz.checked os 6 .any (fun w args => (Rows.allocHoldSpec.pre enc Tryz.prog Tryz.f6 [] false w args ∧ laidMetH Tryz.prog tabs w) ∧ sizedMet enc Tryz.prog Tryz.f6 (OpenSpec.ofChange Rows.allocHoldSpec) false w args)
   (Rows.allocHoldSpec.post enc Tryz.prog Tryz.f6 false true false false) :=
 law_lifted (C := Tryz.checked) (X := fun w _ => laidMetH Tryz.prog tabs w) (Ts := ps6) (F := con6.f) (ts := [25, 27, 45, 3, 3]) (tb := 4) (fun _ _ _ hh h => h.of_heap hh) own started (by kernel_rfl) Tryz.func6
  (ChangeSpec.witness_shaped (enc := enc) (C := Tryz.checked) (os := os) (X := fun w _ => laidMetH Tryz.prog tabs w) false (World.laidAll Tryz.prog os tabs) #[.agg #[.int .i64 0, .int .i64 0, .int .i64 0, .int .i64 0, .int .i64 0, .int .i64 0, .int .i64 0, .int .i64 0], .agg #[.int .i64 0, .int .i64 0, .int .i64 0, .bool false], .slice none 0 0, .int .i64 0, .int .i64 0] 8 (World.laidAll_os _ _ _)
   shaped_tabs (by kernel_rfl) (by kernel_rfl) (by kernel_rfl) (met_tabs os _))
  (fun W _ hs h => glob_of h) laidOut k6 Tryz.params6 (by kernel_rfl) Tryz.underlying4
  (fun t ht => by
   have h : ([25, 27, 45, 3, 3].all fun t => Tryz.prog.readableRec t && decide (t < Tryz.prog.types.size)) = true := by kernel_rfl
   have := List.all_eq_true.1 h t ht
   rw [Bool.and_eq_true, decide_eq_true_eq] at this
   exact this)
  ⟨by kernel_rfl, by kernel_rfl, by kernel_rfl, by kernel_rfl, by kernel_rfl, trivial⟩ rfl (fun ds hds => by
   match ds, hds with
   | [d1, d2, d3, d4, d5], _ => rfl)
  (fun x hx => f6_true x.1 x.2.1 x.2.2.1 x.2.2.2.1 x.2.2.2.2.1)
theorem holds : Rows.AllocHoldSaid :=
 OpenClaim.holds_of_wide 6 Tryz.f6 rfl rfl rfl rfl rfl rfl rfl ⟨rfl, rfl, rfl, rfl, rfl⟩ rfl rfl rfl rfl rfl (by kernel_rfl) Tryz.func6 (by kernel_rfl)
  (of_decide_eq_true (by kernel_rfl)) (by unfold Func.isWrapper; first | (rw [if_pos (by decide +kernel)]; kernel_rfl) | (rw [if_neg (by decide +kernel)]; exact ⟨rfl, rfl⟩))
  (fun os started H enc _ => lifted os started H enc)
theorem card_holds : Rows.AllocHoldCardSaid :=
 Claim7.holds_tied_plain_at .later [] [.data, .data] true _ true holds (fun _ h => by cases h) (by kernel_rfl) (fun _ h => by cases h) allocHold_row_tie rfl ⟨rfl, rfl⟩ (by kernel_rfl) rfl
  (fun f fn hf hfn => by
   obtain rfl : f = 6 := Option.some.inj ((show Tryz.prog.funcNamed "moorings/mooringslaw13.AllocHold" = some 6 by kernel_rfl).symm.trans hf) |>.symm
   obtain rfl : fn = Tryz.f6 := (Option.some.inj (Tryz.func6.symm.trans hfn)).symm
   exact ⟨by kernel_rfl, fun j t ht => by
    rw [Tryz.params6] at ht
    have hm : t ∈ [25, 27, 45, 3, 3] := by simpa using Array.mem_of_getElem? ht
    have hall : ([25, 27, 45, 3, 3].all fun u => !Tryz.prog.wantsStandIn u) = true := by kernel_rfl
    exact (show Tryz.prog.wantsStandIn t = false by simpa using List.all_eq_true.1 hall t hm)⟩)
  (by kernel_rfl)
end Go.Proofs.YtpopildnbgbhlaaGreatDoor.allocHold
namespace Go.Proofs.YtpopildnbgbhlaaGreatDoor
theorem allocHold_holds : Rows.AllocHoldCardSaid := allocHold.card_holds
end Go.Proofs.YtpopildnbgbhlaaGreatDoor
