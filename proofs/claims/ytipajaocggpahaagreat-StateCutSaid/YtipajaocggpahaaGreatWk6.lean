/- state.Read told of its answer alone. -/
import Derived.Test.YtipajaocggpahaaGreatEq15
namespace Go.Proofs.Zz
open Go Go.Sy
set_option linter.unusedVariables false
set_option maxRecDepth 100000

@[reducible] def anys : Nat → RTy
  | 0 => .any
  | n + 1 => .pair .any (anys n)
def anyV : (n : Nat) → (anys n).T
  | 0 => ()
  | n + 1 => ((), anyV n)
theorem anys_RdR {S : Stable} : ∀ (n : Nat) (x : (anys n).T) (cs : List Value), cs.length = n + 1 → (∀ v ∈ cs, v.oneCell' = true) → RdR S (anys n) x cs []
  | 0, x, cs, h, h1 => by
    match cs, h, h1 with
    | [v], _, h1 => exact ⟨⟨v, rfl, h1 v (by simp)⟩, rfl⟩
  | n + 1, x, cs, h, h1 => by
    match cs, h, h1 with
    | v :: r, h, h1 => exact ⟨[v], r, [], [], rfl, rfl, ⟨⟨v, rfl, h1 v (by simp)⟩, rfl⟩, anys_RdR n x.2 r (by simpa using h) fun u hu => h1 u (by simp [hu])⟩

noncomputable def f12w (b : List Int) : Option ((anys 15).T × (Bool × Unit)) := (f12 b).bind fun y => some (anyV 15, (y.2.1, ()))
noncomputable def con12w : Con := ⟨[.row (.int .u8)], [anys 15, .val .bool], fun x => f12w x.1⟩
theorem ok12w : con12w.OK Go.Proofs.Tryz.prog 12 := by
  intro x y h S w vs h1 h2 h3
  have h' : (con12.f x).bind (fun y => some (anyV 15, (y.2.1, ()))) = some y := h
  cases he : con12.f x with
  | none => rw [he] at h'; simp at h'
  | some z =>
    rw [he] at h'
    have hy : y = (anyV 15, (z.2.1, ())) := (Option.some.inj h').symm
    subst hy
    refine (k12 x z he S w vs h1 h2 h3).mono fun e w' hp => ?_
    obtain ⟨us, S', os, q1, q2, q3, q4, q5, q6, q7, q8⟩ := hp
    obtain ⟨v, r, o, p, rfl, rfl, r1, r2⟩ := q6
    obtain ⟨v2, r', o2, p2, rfl, rfl, r3, r4⟩ := r2
    have e0 : noOwns con12.rs = true := rfl
    have e1 : o ++ (o2 ++ p2) = [] := noOwns_nil (rs := con12.rs) (S := S') (y := z) e0 ⟨v, _, o, _, rfl, rfl, r1, v2, r', o2, p2, rfl, rfl, r3, r4⟩
    obtain ⟨e1, e2⟩ := List.append_eq_nil_iff.1 e1
    obtain ⟨e2, e3⟩ := List.append_eq_nil_iff.1 e2
    subst e1 e2 e3
    have r3' : RdRV S' (.val .bool) z.2.1 v2 [] := r3
    have r1' : ∃ cs, v = .agg cs ∧ cs.toList.length = 16 ∧ ∀ u ∈ cs.toList, u.oneCell' = true := by
      obtain ⟨cs, k1, k2⟩ := r1
      exact ⟨cs, k1, Rd_length _ _ _ k2.1, Rd_one _ _ _ k2.1⟩
    obtain ⟨cs, rfl, hl, ho⟩ := r1'
    refine ⟨_, S', [], q1, q2, q3, q4, q5, ⟨_, _, [], [], rfl, rfl, ?_, v2, [], [], [], ?_, rfl, r3', ?_, rfl⟩, by simp, by simp⟩
    · exact ⟨cs, rfl, anys_RdR 15 _ _ hl ho⟩
    · rw [r4.1]
    · rfl

abbrev ps6 : List Ty := [.pair (.pair (.pair (.int .i64) (.int .i64)) (.pair (.pair (.int .i64) (.int .i64)) (.pair (.int .i64) (.pair (.int .i64) (.pair (.int .i64) (.int .i64)))))) (.pair (.pair (.int .i64) (.pair (.int .i64) (.pair (.int .i64) (.bool)))) (.pair (.int .i64) (.pair (.row (.pair (.int .i64) (.pair (.int .i64) (.int .i64)))) (.pair (.row (.pair (.int .i64) (.pair (.int .i64) (.pair (.int .i64) (.pair (.int .i64) (.int .i64)))))) (.row (.pair (.int .i64) (.pair (.int .i64) (.int .i64)))))))), .int .i64, .row (.int .u8)]
abbrev rs6 : List RTy := [.val (.bool)]
noncomputable abbrev L6 : List (Nat × Con) := [(8, con8), (9, con9), (11, con11), (12, con12w)]
noncomputable abbrev U6 : List (Nat × UCon) := []
noncomputable abbrev C6 : Cons := lookC L6 U6
noncomputable abbrev S6 : List (Nat × Nat × LSum) := []
noncomputable def f6 (v1 : Int) (v2 : Int) (v3 : Int) (v4 : Int) (v5 : Int) (v6 : Int) (v7 : Int) (v8 : Int) (v9 : Int) (v10 : Int) (v11 : Int) (v12 : Bool) (v13 : Int) (v14 : (List (Int × (Int × Int)))) (v15 : (List (Int × (Int × (Int × (Int × Int)))))) (v16 : (List (Int × (Int × Int)))) (v17 : Int) (v18 : (List Int)) : Option (Bool × Unit) :=
 (f8).bind fun y19 =>
 ((f9 v1 v2 v3 v4 v5 v6 v7 v8 v9 v10 v11 v12 v13 v14 v15 v16)).bind fun y20 =>
 cond (!y19.1) (
  some (y19.1, ())) (
  cond (!y20.1) (
   some (y19.1, ())) (
   cond (decide (100 < ((v18.length : Nat) : Int))) (
    some (y19.1, ())) (
    ((f11 v1 v2 v3 v4 v5 v6 v7 v8 v9 v10 v11 v12 v13 v14 v15 v16)).bind fun y21 =>
    cond (!y21.2.1) (
     some (true, ())) (
     cond ((decide ((y21.1.length * 1) ≤ 140737488355328)) && (decide (y21.1.length ≤ 9223372036854775807))) (
      cond ((decide (((y21.1.length + v18.length) * 1) ≤ 140737488355328)) && (decide ((y21.1.length + v18.length) ≤ 9223372036854775807))) (
       ((f12w (y21.1 ++ v18))).bind fun y22 =>
       cond (!(y22.2.1 == (decide (((v18.length : Nat) : Int) = 0)))) (
        some ((y22.2.1 == (decide (((v18.length : Nat) : Int) = 0))), ())) (
        cond (decide (v17 < 0)) (
         some ((y22.2.1 == (decide (((v18.length : Nat) : Int) = 0))), ())) (
         cond (decide (((y21.1.length : Nat) : Int) ≤ v17)) (
          some ((y22.2.1 == (decide (((v18.length : Nat) : Int) = 0))), ())) (
          cond ((decide (0 ≤ v17)) && (decide (v17 ≤ ((y21.1.length : Nat) : Int)))) (
           ((f12w (List.drop 0 (List.take (Int.toNat v17) y21.1)))).bind fun y23 =>
           some ((!y23.2.1), ())) (
           none))))) (
       none)) (
      none)))))
noncomputable def con6 : Con := ⟨ps6, rs6, fun x => f6 x.1.1.1.1 x.1.1.1.2 x.1.1.2.1.1 x.1.1.2.1.2 x.1.1.2.2.1 x.1.1.2.2.2.1 x.1.1.2.2.2.2.1 x.1.1.2.2.2.2.2 x.1.2.1.1 x.1.2.1.2.1 x.1.2.1.2.2.1 x.1.2.1.2.2.2 x.1.2.2.1 x.1.2.2.2.1 x.1.2.2.2.2.1 x.1.2.2.2.2.2 x.2.1 x.2.2.1⟩
theorem e6 (x : Args ps6) : kTop Go.Proofs.Tryz.prog C6 (lookS S6) big 10 6 ps6 rs6 x = con6.f x := by kernel_rfl
theorem ok6 [Glob] [RngG Go.Proofs.Tryz.prog] (h : AllOK Go.Proofs.Tryz.prog L6) (h' : AllU Go.Proofs.Tryz.prog U6) : con6.OK Go.Proofs.Tryz.prog 6 := con_of_tree (lookC_ok h h') (rounds_of (l := S6) trivial) e6
theorem k6 : con6.OK Go.Proofs.Tryz.prog 6 := ok6 ⟨k8, k9, k11, ok12w, trivial⟩ trivial
end Go.Proofs.Zz
