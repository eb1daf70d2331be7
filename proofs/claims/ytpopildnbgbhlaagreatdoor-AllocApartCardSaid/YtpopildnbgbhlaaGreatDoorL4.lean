/- Pure13_4, Eq13_4, P13_4, Row13, Law13_4. -/
import Derived.Test.YtpopildnbgbhlaaGreatDoorPU
import Derived.Test.YtpopildnbgbhlaaGreatDoorEQ
import Derived.Test.YtpopildnbgbhlaaGreatDoorFD
import Derived.Test.YtpopildnbgbhlaaGreatDoorPC
import Derived.Test.YtpopildnbgbhlaaGreatDoorFG
import Derived.Test.YtpopildnbgbhlaaGreatDoorTie
import Derived.Test.YtpopildnbgbhlaaGreatDoorCards
import Derived.Lay
import Derived.SevenTiedAt
import Derived.Shelf.Vars
import Derived.Lib.LaidTab
namespace Go.Proofs.Zz
open Go Go.Sy
set_option linter.unusedVariables false
set_option maxRecDepth 100000
noncomputable def f4 (v1 v2 v3 v4 v5 v6 v7 v8 v9 v10 v11 : Int) (v12 : Bool) (v13 : (List (Int × Int × Int × Int × Int × Int × Int × Int × Bool))) (v14 v15 v16 : Int) : Option (Bool × Unit) :=
 (f11).bind fun y17 =>
 ((f16 v1 v2 v3 v4 v5 v6 v7 v8 v9 v10 v11 v12)).bind fun y18 =>
 cond (!y17.1) (
  some (y17.1, ())) (
  cond (!y18.2.1) (
   some (y17.1, ())) (
   cond (decide (60 < (v13.length : Int))) (
    some (y17.1, ())) (
    ((f17 y18.1.1.1.1 y18.1.1.1.2 y18.1.1.2.1.1 y18.1.1.2.1.2 y18.1.1.2.2.1 y18.1.1.2.2.2.1 y18.1.1.2.2.2.2.1 y18.1.1.2.2.2.2.2 y18.1.2.1.1 y18.1.2.1.2.1 y18.1.2.1.2.2.1 y18.1.2.1.2.2.2 y18.1.2.2.1 y18.1.2.2.2.1 y18.1.2.2.2.2.1 y18.1.2.2.2.2.2 v13)).bind fun y19 =>
    cond (decide (v14 < 0)) (
     some (true, ())) (
     cond (decide (v15 < 0)) (
      some (true, ())) (
      cond (decide ((y19.1.2.2.2.2.1.length : Int) ≤ v14)) (
       some (true, ())) (
       cond (decide ((y19.1.2.2.2.2.1.length : Int) ≤ v15)) (
        some (true, ())) (
        cond ((decide (0 ≤ v14)) && (decide (v14 < (y19.1.2.2.2.2.1.length : Int)))) (
         cond ((decide (0 ≤ v14)) && (decide (v14 < (y19.1.2.2.2.2.1.length : Int)))) (
          ((f18 v1 v2 v3 v4 v5 v6 v7 v8 (rd (.pair (.int .i64) (.pair (.int .i64) (.pair (.int .i64) (.pair (.int .i64) (.int .i64))))) y19.1.2.2.2.2.1 (Int.toNat v14)).2.1 (rd (.pair (.int .i64) (.pair (.int .i64) (.pair (.int .i64) (.pair (.int .i64) (.int .i64))))) y19.1.2.2.2.2.1 (Int.toNat v14)).2.2.1)).bind fun y20 =>
          cond ((decide (0 ≤ v15)) && (decide (v15 < (y19.1.2.2.2.2.1.length : Int)))) (
           cond ((decide (0 ≤ v15)) && (decide (v15 < (y19.1.2.2.2.2.1.length : Int)))) (
            ((f18 v1 v2 v3 v4 v5 v6 v7 v8 (rd (.pair (.int .i64) (.pair (.int .i64) (.pair (.int .i64) (.pair (.int .i64) (.int .i64))))) y19.1.2.2.2.2.1 (Int.toNat v15)).2.1 (rd (.pair (.int .i64) (.pair (.int .i64) (.pair (.int .i64) (.pair (.int .i64) (.int .i64))))) y19.1.2.2.2.2.1 (Int.toNat v15)).2.2.1)).bind fun y21 =>
            ((f19 v1 v2 v3 v4 v5 v6 v7 v8 v16)).bind fun y22 =>
            cond (!y20.2.1) (
             some (false, ())) (
             cond (!y21.2.1) (
              some (false, ())) (
              cond (!(decide (v14 = v15))) (
               cond (decide (y20.1.1 = y21.1.1)) (
                cond (decide (y20.1.2.1 ≤ y21.1.2.2)) (
                 cond (decide (y21.1.2.1 ≤ y20.1.2.2)) (
                  some (false, ())) (
                  cond y22.2.1 (
                   cond (decide (y20.1.1 = y22.1.1)) (
                    cond (decide (y20.1.2.1 ≤ y22.1.2.2)) (
                     cond (decide (y22.1.2.1 ≤ y20.1.2.2)) (
                      some (false, ())) (
                      cond (decide (v5 ≤ y20.1.2.1)) (
                       cond (decide (y20.1.2.2 ≤ v6)) (
                        ((f20 y19.1.2.2.2.1 y20.1.1)).bind fun y23 =>
                        some ((decide (0 ≤ y23.1)), ())) (
                        some (false, ()))) (
                       some (false, ())))) (
                     cond (decide (v5 ≤ y20.1.2.1)) (
                      cond (decide (y20.1.2.2 ≤ v6)) (
                       ((f20 y19.1.2.2.2.1 y20.1.1)).bind fun y24 =>
                       some ((decide (0 ≤ y24.1)), ())) (
                       some (false, ()))) (
                      some (false, ())))) (
                    cond (decide (v5 ≤ y20.1.2.1)) (
                     cond (decide (y20.1.2.2 ≤ v6)) (
                      ((f20 y19.1.2.2.2.1 y20.1.1)).bind fun y25 =>
                      some ((decide (0 ≤ y25.1)), ())) (
                      some (false, ()))) (
                     some (false, ())))) (
                   cond (decide (v5 ≤ y20.1.2.1)) (
                    cond (decide (y20.1.2.2 ≤ v6)) (
                     ((f20 y19.1.2.2.2.1 y20.1.1)).bind fun y26 =>
                     some ((decide (0 ≤ y26.1)), ())) (
                     some (false, ()))) (
                    some (false, ()))))) (
                 cond y22.2.1 (
                  cond (decide (y20.1.1 = y22.1.1)) (
                   cond (decide (y20.1.2.1 ≤ y22.1.2.2)) (
                    cond (decide (y22.1.2.1 ≤ y20.1.2.2)) (
                     some (false, ())) (
                     cond (decide (v5 ≤ y20.1.2.1)) (
                      cond (decide (y20.1.2.2 ≤ v6)) (
                       ((f20 y19.1.2.2.2.1 y20.1.1)).bind fun y27 =>
                       some ((decide (0 ≤ y27.1)), ())) (
                       some (false, ()))) (
                      some (false, ())))) (
                    cond (decide (v5 ≤ y20.1.2.1)) (
                     cond (decide (y20.1.2.2 ≤ v6)) (
                      ((f20 y19.1.2.2.2.1 y20.1.1)).bind fun y28 =>
                      some ((decide (0 ≤ y28.1)), ())) (
                      some (false, ()))) (
                     some (false, ())))) (
                   cond (decide (v5 ≤ y20.1.2.1)) (
                    cond (decide (y20.1.2.2 ≤ v6)) (
                     ((f20 y19.1.2.2.2.1 y20.1.1)).bind fun y29 =>
                     some ((decide (0 ≤ y29.1)), ())) (
                     some (false, ()))) (
                    some (false, ())))) (
                  cond (decide (v5 ≤ y20.1.2.1)) (
                   cond (decide (y20.1.2.2 ≤ v6)) (
                    ((f20 y19.1.2.2.2.1 y20.1.1)).bind fun y30 =>
                    some ((decide (0 ≤ y30.1)), ())) (
                    some (false, ()))) (
                   some (false, ()))))) (
                cond y22.2.1 (
                 cond (decide (y20.1.1 = y22.1.1)) (
                  cond (decide (y20.1.2.1 ≤ y22.1.2.2)) (
                   cond (decide (y22.1.2.1 ≤ y20.1.2.2)) (
                    some (false, ())) (
                    cond (decide (v5 ≤ y20.1.2.1)) (
                     cond (decide (y20.1.2.2 ≤ v6)) (
                      ((f20 y19.1.2.2.2.1 y20.1.1)).bind fun y31 =>
                      some ((decide (0 ≤ y31.1)), ())) (
                      some (false, ()))) (
                     some (false, ())))) (
                   cond (decide (v5 ≤ y20.1.2.1)) (
                    cond (decide (y20.1.2.2 ≤ v6)) (
                     ((f20 y19.1.2.2.2.1 y20.1.1)).bind fun y32 =>
                     some ((decide (0 ≤ y32.1)), ())) (
                     some (false, ()))) (
                    some (false, ())))) (
                  cond (decide (v5 ≤ y20.1.2.1)) (
                   cond (decide (y20.1.2.2 ≤ v6)) (
                    ((f20 y19.1.2.2.2.1 y20.1.1)).bind fun y33 =>
                    some ((decide (0 ≤ y33.1)), ())) (
                    some (false, ()))) (
                   some (false, ())))) (
                 cond (decide (v5 ≤ y20.1.2.1)) (
                  cond (decide (y20.1.2.2 ≤ v6)) (
                   ((f20 y19.1.2.2.2.1 y20.1.1)).bind fun y34 =>
                   some ((decide (0 ≤ y34.1)), ())) (
                   some (false, ()))) (
                  some (false, ()))))) (
               cond y22.2.1 (
                cond (decide (y20.1.1 = y22.1.1)) (
                 cond (decide (y20.1.2.1 ≤ y22.1.2.2)) (
                  cond (decide (y22.1.2.1 ≤ y20.1.2.2)) (
                   some (false, ())) (
                   cond (decide (v5 ≤ y20.1.2.1)) (
                    cond (decide (y20.1.2.2 ≤ v6)) (
                     ((f20 y19.1.2.2.2.1 y20.1.1)).bind fun y35 =>
                     some ((decide (0 ≤ y35.1)), ())) (
                     some (false, ()))) (
                    some (false, ())))) (
                  cond (decide (v5 ≤ y20.1.2.1)) (
                   cond (decide (y20.1.2.2 ≤ v6)) (
                    ((f20 y19.1.2.2.2.1 y20.1.1)).bind fun y36 =>
                    some ((decide (0 ≤ y36.1)), ())) (
                    some (false, ()))) (
                   some (false, ())))) (
                 cond (decide (v5 ≤ y20.1.2.1)) (
                  cond (decide (y20.1.2.2 ≤ v6)) (
                   ((f20 y19.1.2.2.2.1 y20.1.1)).bind fun y37 =>
                   some ((decide (0 ≤ y37.1)), ())) (
                   some (false, ()))) (
                  some (false, ())))) (
                cond (decide (v5 ≤ y20.1.2.1)) (
                 cond (decide (y20.1.2.2 ≤ v6)) (
                  ((f20 y19.1.2.2.2.1 y20.1.1)).bind fun y38 =>
                  some ((decide (0 ≤ y38.1)), ())) (
                  some (false, ()))) (
                 some (false, ()))))))) (
            none)) (
           none)) (
          none)) (
         none))))))))
set_option maxHeartbeats 0
abbrev ps4 : List Ty := [.pair (.pair (.int .i64) (.int .i64)) (.pair (.pair (.int .i64) (.int .i64)) (.pair (.int .i64) (.pair (.int .i64) (.pair (.int .i64) (.int .i64))))), .pair (.int .i64) (.pair (.int .i64) (.pair (.int .i64) (.bool))), .row (.pair (.int .i64) (.pair (.int .i64) (.pair (.int .i64) (.pair (.int .i64) (.pair (.int .i64) (.pair (.int .i64) (.pair (.int .i64) (.pair (.int .i64) (.bool))))))))), .int .i64, .int .i64, .int .i64]
abbrev rs4 : List RTy := [.val (.bool)]
noncomputable abbrev L4 : List (Nat × Con) := [(11, con11), (16, con16), (17, con17), (18, con18), (19, con19), (20, con20)]
noncomputable abbrev U4 : List (Nat × UCon) := []
noncomputable abbrev C4 : Cons := lookC L4 U4
noncomputable abbrev S4 : List (Nat × Nat × LSum) := []
noncomputable def con4 : Con := ⟨ps4, rs4, fun x => f4 x.1.1.1 x.1.1.2 x.1.2.1.1 x.1.2.1.2 x.1.2.2.1 x.1.2.2.2.1 x.1.2.2.2.2.1 x.1.2.2.2.2.2 x.2.1.1 x.2.1.2.1 x.2.1.2.2.1 x.2.1.2.2.2 x.2.2.1 x.2.2.2.1 x.2.2.2.2.1 x.2.2.2.2.2.1⟩
theorem e4 (x : Args ps4) : kTop Tryz.prog C4 (lookS S4) big 10 4 ps4 rs4 x = con4.f x := by kernel_rfl
theorem ok4 [Glob] [RngG Tryz.prog] (h : AllOK Tryz.prog L4) (h' : AllU Tryz.prog U4) : con4.OK Tryz.prog 4 := con_of_tree (lookC_ok h h') (rounds_of (l := S4) trivial) e4
theorem k4 : con4.OK Tryz.prog 4 := ok4 ⟨k11, k16, k17, k18, k19, k20, trivial⟩ trivial
set_option linter.unusedSimpArgs false
theorem blk_apart {D : DT} {a b a' b' : Int} (h : BlkP D a b) (h' : BlkP D a' b') (hne : (a, b) ≠ (a', b')) (e : a = a') (h1 : (blkI D a b).2.1 ≤ (blkI D a' b').2.2) (h2 : (blkI D a' b').2.1 ≤ (blkI D a b).2.2) : False := by
 subst e
 have hw := h.1.h1
 have hb : b ≠ b' := fun e => hne (by rw [e])
 unfold blkI at h1 h2
 simp only at h1 h2
 rcases Int.lt_or_gt_of_ne hb with hlt | hlt
 ·have := Int.mul_le_mul_of_nonneg_right (show b + 1 ≤ b' by omega) (show 0 ≤ wdI D by omega)
  rw [Int.add_mul, Int.one_mul] at this
  omega
 ·have := Int.mul_le_mul_of_nonneg_right (show b' + 1 ≤ b by omega) (show 0 ≤ wdI D by omega)
  rw [Int.add_mul, Int.one_mul] at this
  omega
theorem f4_true (D : DT) (p : PT) (l : List RT) (i k sub : Int) :
  f4 D.1.1 D.1.2 D.2.1.1 D.2.1.2 D.2.2.1 D.2.2.2.1 D.2.2.2.2.1 D.2.2.2.2.2 p.1 p.2.1 p.2.2.1 p.2.2.2 l i k sub = some (true, ()) := by
 unfold f4
 rw [f11_eq, f16_eq]
 by_cases M : MayS (newS D p)
 case neg => rw [decide_eq_false M]; rfl
 rw [if_pos M, decide_eq_true M]
 simp only [Option.bind_some, Bool.not_true, cond_false]
 by_cases hl : 60 < ((l.length : Nat) : Int)
 ·rw [decide_eq_true hl]; rfl
 rw [decide_eq_false hl]
 have e17 := f17_eq (newS D p) M l (by omega)
 obtain ⟨M2, hD⟩ := run_may M l
 change _ = D at hD
 simp only at e17
 rw [e17]
 generalize (runS (newS D p) l).1 = t at *
 simp only [Option.bind_some, cond_false]
 by_cases h0 : i < 0
 ·rw [decide_eq_true h0]; rfl
 rw [decide_eq_false h0]
 by_cases h1 : k < 0
 ·rw [decide_eq_true h1]; rfl
 rw [decide_eq_false h1]
 by_cases h2 : ((t.2.2.2.2.1.length : Nat) : Int) ≤ i
 ·rw [decide_eq_true h2]; rfl
 rw [decide_eq_false h2]
 by_cases h3 : ((t.2.2.2.2.1.length : Nat) : Int) ≤ k
 ·rw [decide_eq_true h3]; rfl
 rw [decide_eq_false h3]
 obtain ⟨i, rfl⟩ : ∃ j : Nat, i = (j : Int) := ⟨i.toNat, by omega⟩
 obtain ⟨k, rfl⟩ : ∃ j : Nat, k = (j : Int) := ⟨k.toNat, by omega⟩
 have hi : i < t.2.2.2.2.1.length := by omega
 have hk : k < t.2.2.2.2.1.length := by omega
 simp only [cond_false, ltn hi, ltn hk, ge0, Bool.and_self, cond_true, Int.toNat_natCast, rdL hi, rdL hk]
 have ox := M2.leases.each _ (List.getElem_mem hi)
 have oy := M2.leases.each _ (List.getElem_mem hk)
 have hne : i ≠ k → kL t.2.2.2.2.1[i] ≠ kL t.2.2.2.2.1[k] := by
  intro hik
  rcases Nat.lt_or_gt_of_ne hik with h | h
  ·exact List.pairwise_iff_getElem.1 (keys_ne M2.leases.srt) _ _ hi hk h
  ·exact fun e => List.pairwise_iff_getElem.1 (keys_ne M2.leases.srt) _ _ hk hi h e.symm
 generalize t.2.2.2.2.1[i] = x at *
 generalize t.2.2.2.2.1[k] = y at *
 have bx := ox.blk
 have bY := oy.blk
 rw [hD] at bx bY
 have ex := f18_eq (D := D) x.2.1 x.2.2.1
 have ey := f18_eq (D := D) y.2.1 y.2.2.1
 have ez := f19_eq (D := D) sub
 rw [if_pos bx, decide_eq_true bx] at ex
 rw [if_pos bY, decide_eq_true bY] at ey
 have e20 := f20_eq t.2.2.2.1 M2.sm.szP x.2.1
 have hp : 0 ≤ poolOf t.2.2.2.1 x.2.1 := by
  have hx := ox.pool
  unfold poolOf
  split
  ·omega
  ·rename_i hn
   have := (poolOf_none t.2.2.2.1 x.2.1).1 (if_neg hn)
   rw [hx] at this; cases this
 have c1 := bx.1.block bx.2.2.1 bx.2.2.2
 have hw := bx.1.h1
 have g1 : loI D ≤ (blkI D x.2.1 x.2.2.1).2.1 := by
  have := bx.1.g2
  show loI D ≤ hiI D - dynI D + 1 + x.2.2.1 * wdI D
  change dynI D ≤ hiI D - loI D at this
  omega
 have g2 : (blkI D x.2.1 x.2.2.1).2.2 ≤ hiI D := by
  show hiI D - dynI D + 1 + x.2.2.1 * wdI D + wdI D - 1 ≤ hiI D
  omega
 have n1 : (!(decide ((i : Int) = (k : Int))) && decide ((blkI D x.2.1 x.2.2.1).1 = (blkI D y.2.1 y.2.2.1).1) && decide ((blkI D x.2.1 x.2.2.1).2.1 ≤ (blkI D y.2.1 y.2.2.1).2.2) && decide ((blkI D y.2.1 y.2.2.1).2.1 ≤ (blkI D x.2.1 x.2.2.1).2.2)) = false := by
  rw [Bool.eq_false_iff]
  intro h
  simp only [Bool.and_eq_true, Bool.not_eq_true', decide_eq_true_eq, decide_eq_false_iff_not] at h
  exact blk_apart bx bY (hne (by omega)) h.1.1.2 h.1.2 h.2
 have n0 : ∀ z : HT, (SubP D sub → z = baseI D sub) → (decide (SubP D sub) && decide ((blkI D x.2.1 x.2.2.1).1 = z.1) && decide ((blkI D x.2.1 x.2.2.1).2.1 ≤ z.2.2) && decide (z.2.1 ≤ (blkI D x.2.1 x.2.2.1).2.2)) = false := by
  intro z hz
  rw [Bool.eq_false_iff]
  intro h
  simp only [Bool.and_eq_true, decide_eq_true_eq] at h
  have hs := h.1.1.1
  have h5 := (hs.1.base hs.2.1 hs.2.2).2.2.2.1
  have h6 := h.1.2
  rw [hz hs] at h6
  change hiI D - dynI D + 1 + x.2.2.1 * wdI D ≤ baseFrom D sub + each D - 1 at h6
  omega
 have n2 := n0 (if SubP D sub then baseI D sub else (0, 0, 0)) (fun h => if_pos h)
 clear n0
 generalize (if SubP D sub then baseI D sub else (0, 0, 0) : HT) = z at *
 simp only [ex, ey, ez, Option.bind_some, e20, cond_true, Bool.not_true, cond_false]
 have e20' : ∀ (b : HT), b.1 = x.2.1 → f20 t.2.2.2.1 b.1 = some (poolOf t.2.2.2.1 x.2.1, ()) := fun b hb => by rw [hb]; exact e20
 have ebl : (blkI D x.2.1 x.2.2.1).1 = x.2.1 := rfl
 have d1 := decide_eq_true g1
 have d2 := decide_eq_true g2
 have d3 := decide_eq_true hp
 generalize blkI D x.2.1 x.2.2.1 = u at *
 simp only [e20' u ebl, Option.bind_some, d3]
 change decide (D.2.2.1 ≤ u.2.1) = true at d1
 change decide (u.2.2 ≤ D.2.2.2.1) = true at d2
 simp only [d1, d2, cond_true]
 generalize decide ((i : Int) = (k : Int)) = b1 at *
 generalize decide (u.1 = (blkI D y.2.1 y.2.2.1).1) = b2 at *
 generalize decide (u.2.1 ≤ (blkI D y.2.1 y.2.2.1).2.2) = b3 at *
 generalize decide ((blkI D y.2.1 y.2.2.1).2.1 ≤ u.2.2) = b4 at *
 generalize decide (SubP D sub) = b5 at *
 generalize decide (u.1 = z.1) = b6 at *
 generalize decide (u.2.1 ≤ z.2.2) = b7 at *
 generalize decide (z.2.1 ≤ u.2.2) = b8 at *
 clear ez
 revert b1 b2 b3 b4 b5 b6 b7 b8
 decide
end Go.Proofs.Zz
namespace Go.Proofs.YtpopildnbgbhlaaGreatDoor
open Go Go.Sy Go.RowKit Go.Proofs.Zz
set_option linter.unusedVariables false
set_option maxRecDepth 100000
theorem own : ownKnob Tryz.prog.godebug = none := by kernel_rfl
theorem laidOut : laidOutB Tryz.prog = true := by kernel_rfl
abbrev tabs : List (String × DataW Unit) := [("math/bits.deBruijn32tab", Rows.laid_math_bits_deBruijn32tab), ("math/bits.deBruijn64tab", Rows.laid_math_bits_deBruijn64tab)]
abbrev tab64 : List Int := Lib.deBruijn64tab.map fun (n : Nat) => (n : Int)
theorem tab64_eq : (Rows.laid_math_bits_deBruijn64tab : DataW Unit) = Lib.tabData .u8 tab64 := by kernel_rfl
theorem laidMet_next {P : Program} {x : String × DataW Unit} {r : List (String × DataW Unit)} {w : World} (h : laidMet P (x :: r) w) : laidMet P r w := by
 obtain ⟨ps, ⟨g, t, cs, fuel, p, q, _, _, _, _, h1, rfl⟩, hn, hp⟩ := h
 refine ⟨q, h1, ?_, fun b off hm => hp b off (List.mem_append.2 (.inr hm))⟩
 exact (List.nodup_append.1 hn).2.1
theorem tab64_of {W : World} (h : laidMet Tryz.prog tabs W) : Lib.TabIs Tryz.prog W "math/bits.deBruijn64tab" .u8 tab64 := by
 have h1 := laidMet_next h
 rw [tab64_eq] at h1
 exact Lib.tabIs_of_head (g := 1) (t := 233) (e := 5) (n := 64) (by kernel_rfl) (by kernel_rfl) (by kernel_rfl) (by kernel_rfl) (by kernel_rfl) (by kernel_rfl) h1
theorem tab_get : ∀ j : Fin 64, (tab64.map fun z => Value.int .u8 z)[j.val]? = some (Value.int .u8 ((Lib.deBruijn64tab.getD j.val 0 : Nat) : Int)) := by
 intro j
 simp only [tab64, List.getElem?_map]
 have h : Lib.deBruijn64tab[j.val]? = some (Lib.deBruijn64tab.getD j.val 0) := by
  have hl : Lib.deBruijn64tab.length = 64 := by decide
  have hj := j.isLt
  rw [List.getD_eq_getElem?_getD, List.getElem?_eq_getElem (by omega)]
  rfl
 rw [h]
 rfl
theorem glob_of {W : World} (h : laidMetH Tryz.prog tabs W) : Glob.pre (allS W) := by
 rw [MakeChecks.laidMetH_plain _ _ _ (by kernel_rfl)] at h
 intro w hw j hj
 have ht := tab64_of h
 unfold Lib.TabIs World.var? at ht
 have hg : Tryz.prog.globalNamed "math/bits.deBruijn64tab" = some 1 := by kernel_rfl
 rw [hg] at ht
 simp only [Option.bind_some] at ht
 have hl : Lib.deBruijn64tab.length = 64 := by decide
 have hget := tab_get ⟨j, by omega⟩
 cases hb : W.heap[1]? with
 | none => rw [hb] at ht; simp at ht
 | some o =>
  have hb' := hw 1 o hb
  rw [hb] at ht
  unfold World.cell?
  simp only
  rw [hb']
  cases o with
  | cells cs t x =>
   simp only at ht ⊢
   cases ht
   have e : ((tab64.map fun z => Value.int .u8 z).toArray)[j]? = (tab64.map fun z => Value.int .u8 z)[j]? := by simp
   rw [hget] at e
   simpa using e
  | _ => simp at ht
theorem shaped_tabs {os : Os} {args : Array Value} : ((World.laidAll Tryz.prog os tabs).forCall (fun _ _ => 0) ⟨#[], args, []⟩).Shaped Tryz.prog :=
 World.shaped_of_ZipB (by kernel_rfl) (by kernel_rfl)
theorem met_tabs (os : Os) (args : Array Value) : laidMetH Tryz.prog tabs ((World.laidAll Tryz.prog os tabs).forCall (fun _ _ => 0) ⟨#[], args, []⟩).memory := by
 rw [MakeChecks.laidMetH_plain _ _ _ (by kernel_rfl)]; exact laidMet_laidAll _ (by kernel_rfl) (by kernel_rfl)
end Go.Proofs.YtpopildnbgbhlaaGreatDoor
namespace Go.Proofs.YtpopildnbgbhlaaGreatDoor.allocApart
open Go Go.Sy Go.RowKit Go.Proofs.Zz Go.ChangeShapes
set_option linter.unusedVariables false
set_option maxRecDepth 100000
theorem lifted (os : Os) (started : os.Started) (H : Type) (enc : TypeId × Value → H) :
  ReturnsInHanded {} Tryz.checked os 4 .any (fun w args => (Rows.allocApartSpec.pre enc Tryz.prog Tryz.f4 [] false w args ∧ laidMetH Tryz.prog tabs w) ∧ sizedMet enc Tryz.prog Tryz.f4 (OpenSpec.ofChange Rows.allocApartSpec) false w args)
   (Rows.allocApartSpec.post enc Tryz.prog Tryz.f4 false true false false) :=
 law_lifted (C := Tryz.checked) (X := fun w _ => laidMetH Tryz.prog tabs w) (Ts := ps4) (F := con4.f) (ts := [25, 27, 45, 3, 3, 3]) (tb := 4) (fun _ _ _ hh h => h.of_heap hh) own started (by kernel_rfl) Tryz.func4
  (ChangeSpec.witness_shaped (enc := enc) (C := Tryz.checked) (os := os) (X := fun w _ => laidMetH Tryz.prog tabs w) false (World.laidAll Tryz.prog os tabs) #[.agg #[.int .i64 0, .int .i64 0, .int .i64 0, .int .i64 0, .int .i64 0, .int .i64 0, .int .i64 0, .int .i64 0], .agg #[.int .i64 0, .int .i64 0, .int .i64 0, .bool false], .slice none 0 0, .int .i64 0, .int .i64 0, .int .i64 0] 8 (World.laidAll_os _ _ _)
   shaped_tabs (by kernel_rfl) (by kernel_rfl) (by kernel_rfl) (met_tabs os _))
  (fun W _ hs h => glob_of h) laidOut k4 Tryz.params4 (by kernel_rfl) Tryz.underlying4
  (fun t ht => by
   have h : ([25, 27, 45, 3, 3, 3].all fun t => Tryz.prog.readableRec t && decide (t < Tryz.prog.types.size)) = true := by kernel_rfl
   have := List.all_eq_true.1 h t ht
   rw [Bool.and_eq_true, decide_eq_true_eq] at this
   exact this)
  ⟨by kernel_rfl, by kernel_rfl, by kernel_rfl, by kernel_rfl, by kernel_rfl, by kernel_rfl, trivial⟩ rfl (fun ds hds => by
   match ds, hds with
   | [d1, d2, d3, d4, d5, d6], _ => rfl)
  (fun x hx => f4_true x.1 x.2.1 x.2.2.1 x.2.2.2.1 x.2.2.2.2.1 x.2.2.2.2.2.1)
theorem holds : Rows.AllocApartSaid :=
 OpenClaim.holds_of_wide 4 Tryz.f4 rfl rfl rfl rfl rfl rfl rfl ⟨rfl, rfl, rfl, rfl, rfl⟩ rfl rfl rfl rfl rfl (by kernel_rfl) Tryz.func4 (by kernel_rfl)
  (of_decide_eq_true (by kernel_rfl)) (by unfold Func.isWrapper; first | (rw [if_pos (by decide +kernel)]; kernel_rfl) | (rw [if_neg (by decide +kernel)]; exact ⟨rfl, rfl⟩))
  (fun os started H enc _ => lifted os started H enc)
theorem card_holds : Rows.AllocApartCardSaid :=
 Claim7.holds_tied_plain_at .later [] [.data, .data] true _ true holds (fun _ h => by cases h) (by kernel_rfl) (fun _ h => by cases h) allocApart_row_tie rfl ⟨rfl, rfl⟩ (by kernel_rfl) rfl
  (fun f fn hf hfn => by
   obtain rfl : f = 4 := Option.some.inj ((show Tryz.prog.funcNamed "moorings/mooringslaw13.AllocApart" = some 4 by kernel_rfl).symm.trans hf) |>.symm
   obtain rfl : fn = Tryz.f4 := (Option.some.inj (Tryz.func4.symm.trans hfn)).symm
   exact ⟨by kernel_rfl, fun j t ht => by
    rw [Tryz.params4] at ht
    have hm : t ∈ [25, 27, 45, 3, 3, 3] := by simpa using Array.mem_of_getElem? ht
    have hall : ([25, 27, 45, 3, 3, 3].all fun u => !Tryz.prog.wantsStandIn u) = true := by kernel_rfl
    exact (show Tryz.prog.wantsStandIn t = false by simpa using List.all_eq_true.1 hall t hm)⟩)
  (by kernel_rfl)
end Go.Proofs.YtpopildnbgbhlaaGreatDoor.allocApart
namespace Go.Proofs.YtpopildnbgbhlaaGreatDoor
theorem allocApart_holds : Rows.AllocApartCardSaid := allocApart.card_holds
end Go.Proofs.YtpopildnbgbhlaaGreatDoor
