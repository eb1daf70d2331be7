/- Pure13_10, Eq13_10, P13_10, Row13, Law13_10. -/
import Derived.Test.YtpopildnbgbhlaaGreatDoorPU
import Derived.Test.YtpopildnbgbhlaaGreatDoorEQ
import Derived.Test.YtpopildnbgbhlaaGreatDoorFD
import Derived.Test.YtpopildnbgbhlaaGreatDoorPC
import Derived.Test.YtpopildnbgbhlaaGreatDoorFI
import Derived.Test.YtpopildnbgbhlaaGreatDoorFG
import Derived.Test.YtpopildnbgbhlaaGreatDoorTie
import Derived.Test.YtpopildnbgbhlaaGreatDoorCards
import Derived.Lay
import Derived.SevenTiedAt
import Derived.Shelf.Vars
import Derived.Lib.LaidTab
namespace Go.Proofs.Zz
open Go Go.Sy
set_option linter.unusedVariables false
set_option maxRecDepth 100000
abbrev X10_13 : Type := (Unit × Unit × Unit × (List (Int × Int × Int × Int × Int × Int × Int × Int × Bool)) × Unit × Unit × Unit × Bool × Int × Unit) × ((Int × Int × Int × Int × Int × Int × Int × Int × Int × Int × Int × Bool × Int × (List (Int × Int × Int)) × (List (Int × Int × Int × Int × Int)) × (List (Int × Int × Int)) × Unit) × (Int × Int × Int × Int × Int × Unit) × (Int × Int × Int × Int × Int × Int × Int × Int × Int × Int × Int × Bool × Int × (List (Int × Int × Int)) × (List (Int × Int × Int × Int × Int)) × (List (Int × Int × Int)) × Unit) × (Int × Int × Int × Unit) × (Int × Int × Int × Unit) × (Int × Int × Int × Unit) × Unit) × (Unit)
abbrev Y10_13 : Type := (Unit × Unit × Unit × (List (Int × Int × Int × Int × Int × Int × Int × Int × Bool)) × Unit × Unit × Unit × Bool × Unit) × ((Int × Int × Int × Int × Int × Int × Int × Int × Int × Int × Int × Bool × Int × (List (Int × Int × Int)) × (List (Int × Int × Int × Int × Int)) × (List (Int × Int × Int)) × Unit) × (Int × Int × Int × Int × Int × Unit) × (Int × Int × Int × Int × Int × Int × Int × Int × Int × Int × Int × Bool × Int × (List (Int × Int × Int)) × (List (Int × Int × Int × Int × Int)) × (List (Int × Int × Int)) × Unit) × (Int × Int × Int × Unit) × (Int × Int × Int × Unit) × (Int × Int × Int × Unit) × Unit) × (Unit)
abbrev Z10_13 : Type := Unit × Unit × Unit
noncomputable def t10_13 (v1 : (List (Int × Int × Int × Int × Int × Int × Int × Int × Bool))) (v2 : Bool) (v3 v4 v5 v6 v7 v8 v9 v10 v11 v12 v13 v14 : Int) (v15 : Bool) (v16 : Int) (v17 : (List (Int × Int × Int))) (v18 : (List (Int × Int × Int × Int × Int))) (v19 : (List (Int × Int × Int))) (v20 v21 v22 v23 v24 v25 v26 v27 v28 v29 v30 v31 v32 v33 v34 v35 : Int) (v36 : Bool) (v37 : Int) (v38 : (List (Int × Int × Int))) (v39 : (List (Int × Int × Int × Int × Int))) (v40 : (List (Int × Int × Int))) (v41 v42 v43 v44 v45 v46 v47 v48 v49 : Int) : Option (R3 X10_13 Y10_13 Z10_13) :=
 cond (decide (v3 < (v40.length : Int))) (
  cond v2 (
   some (R3.next (((), (), (), v1, (), (), (), true, (IntKind.wrap .i64 (v3 + 1)), ()), ((v4, v5, v6, v7, v8, v9, v10, v11, v12, v13, v14, v15, v16, v17, v18, v19, ()), (v20, v21, v22, v23, v24, ()), (v25, v26, v27, v28, v29, v30, v31, v32, v33, v34, v35, v36, v37, v38, v39, v40, ()), (v41, v42, v43, ()), (v44, v45, v46, ()), (v47, v48, v49, ()), ()), ()))) (
   cond ((decide (0 ≤ v3)) && (decide (v3 < (v40.length : Int)))) (
    some (R3.next (((), (), (), v1, (), (), (), ((decide ((rd (.pair (.int .i64) (.pair (.int .i64) (.int .i64))) v40 (Int.toNat v3)).1 = v21)) && ((decide ((rd (.pair (.int .i64) (.pair (.int .i64) (.int .i64))) v40 (Int.toNat v3)).2.1 = v22)) && ((decide ((rd (.pair (.int .i64) (.pair (.int .i64) (.int .i64))) v40 (Int.toNat v3)).2.2 = (IntKind.wrap .i64 (v16 + v14)))) && true))), (IntKind.wrap .i64 (v3 + 1)), ()), ((v4, v5, v6, v7, v8, v9, v10, v11, v12, v13, v14, v15, v16, v17, v18, v19, ()), (v20, v21, v22, v23, v24, ()), (v25, v26, v27, v28, v29, v30, v31, v32, v33, v34, v35, v36, v37, v38, v39, v40, ()), (v41, v42, v43, ()), (v44, v45, v46, ()), (v47, v48, v49, ()), ()), ()))) (
    none))) (
  some (R3.out (((), (), (), v1, (), (), (), v2, ()), ((v4, v5, v6, v7, v8, v9, v10, v11, v12, v13, v14, v15, v16, v17, v18, v19, ()), (v20, v21, v22, v23, v24, ()), (v25, v26, v27, v28, v29, v30, v31, v32, v33, v34, v35, v36, v37, v38, v39, v40, ()), (v41, v42, v43, ()), (v44, v45, v46, ()), (v47, v48, v49, ()), ()), ())))
noncomputable def u10_13 (z : X10_13) : Option (R3 X10_13 Y10_13 Z10_13) := t10_13 z.1.2.2.2.1 z.1.2.2.2.2.2.2.2.1 z.1.2.2.2.2.2.2.2.2.1 z.2.1.1.1 z.2.1.1.2.1 z.2.1.1.2.2.1 z.2.1.1.2.2.2.1 z.2.1.1.2.2.2.2.1 z.2.1.1.2.2.2.2.2.1 z.2.1.1.2.2.2.2.2.2.1 z.2.1.1.2.2.2.2.2.2.2.1 z.2.1.1.2.2.2.2.2.2.2.2.1 z.2.1.1.2.2.2.2.2.2.2.2.2.1 z.2.1.1.2.2.2.2.2.2.2.2.2.2.1 z.2.1.1.2.2.2.2.2.2.2.2.2.2.2.1 z.2.1.1.2.2.2.2.2.2.2.2.2.2.2.2.1 z.2.1.1.2.2.2.2.2.2.2.2.2.2.2.2.2.1 z.2.1.1.2.2.2.2.2.2.2.2.2.2.2.2.2.2.1 z.2.1.1.2.2.2.2.2.2.2.2.2.2.2.2.2.2.2.1 z.2.1.2.1.1 z.2.1.2.1.2.1 z.2.1.2.1.2.2.1 z.2.1.2.1.2.2.2.1 z.2.1.2.1.2.2.2.2.1 z.2.1.2.2.1.1 z.2.1.2.2.1.2.1 z.2.1.2.2.1.2.2.1 z.2.1.2.2.1.2.2.2.1 z.2.1.2.2.1.2.2.2.2.1 z.2.1.2.2.1.2.2.2.2.2.1 z.2.1.2.2.1.2.2.2.2.2.2.1 z.2.1.2.2.1.2.2.2.2.2.2.2.1 z.2.1.2.2.1.2.2.2.2.2.2.2.2.1 z.2.1.2.2.1.2.2.2.2.2.2.2.2.2.1 z.2.1.2.2.1.2.2.2.2.2.2.2.2.2.2.1 z.2.1.2.2.1.2.2.2.2.2.2.2.2.2.2.2.1 z.2.1.2.2.1.2.2.2.2.2.2.2.2.2.2.2.2.1 z.2.1.2.2.1.2.2.2.2.2.2.2.2.2.2.2.2.2.1 z.2.1.2.2.1.2.2.2.2.2.2.2.2.2.2.2.2.2.2.1 z.2.1.2.2.1.2.2.2.2.2.2.2.2.2.2.2.2.2.2.2.1 z.2.1.2.2.2.1.1 z.2.1.2.2.2.1.2.1 z.2.1.2.2.2.1.2.2.1 z.2.1.2.2.2.2.1.1 z.2.1.2.2.2.2.1.2.1 z.2.1.2.2.2.2.1.2.2.1 z.2.1.2.2.2.2.2.1.1 z.2.1.2.2.2.2.2.1.2.1 z.2.1.2.2.2.2.2.1.2.2.1
noncomputable def f10 (v1 v2 v3 v4 v5 v6 v7 v8 v9 v10 v11 : Int) (v12 : Bool) (v13 : Int) (v14 : (List (Int × Int × Int))) (v15 : (List (Int × Int × Int × Int × Int))) (v16 : (List (Int × Int × Int))) (v17 : Int) : Option (Bool × Unit) :=
 (f11).bind fun y18 =>
 ((f12 v1 v2 v3 v4 v5 v6 v7 v8 v9 v10 v11 v12 v13 v14 v15 v16)).bind fun y19 =>
 cond (!y18.1) (
  some (y18.1, ())) (
  cond (!y19.1) (
   some (y18.1, ())) (
   cond (decide (v17 < 0)) (
    some (y18.1, ())) (
    cond (decide ((v15.length : Int) ≤ v17)) (
     some (y18.1, ())) (
     ((f15 v1 v2 v3 v4 v5 v6 v7 v8 v9 v10 v11 v12 v13 v14 v15 v16)).bind fun y20 =>
     cond (!y20.1) (
      some (y18.1, ())) (
      cond ((decide (0 ≤ v17)) && (decide (v17 < (v15.length : Int)))) (
       ((f13 v1 v2 v3 v4 v5 v6 v7 v8 v9 v10 v11 v12 v13 v14 v15 v16 2 (rd (.pair (.int .i64) (.pair (.int .i64) (.pair (.int .i64) (.pair (.int .i64) (.int .i64))))) v15 (Int.toNat v17)).1 (rd (.pair (.int .i64) (.pair (.int .i64) (.pair (.int .i64) (.pair (.int .i64) (.int .i64))))) v15 (Int.toNat v17)).2.1 (rd (.pair (.int .i64) (.pair (.int .i64) (.pair (.int .i64) (.pair (.int .i64) (.int .i64))))) v15 (Int.toNat v17)).2.2.1 0 0 0 0 false)).bind fun y21 =>
       ((f13 y21.1.1.1.1 y21.1.1.1.2 y21.1.1.2.1.1 y21.1.1.2.1.2 y21.1.1.2.2.1 y21.1.1.2.2.2.1 y21.1.1.2.2.2.2.1 y21.1.1.2.2.2.2.2 y21.1.2.1.1 y21.1.2.1.2.1 y21.1.2.1.2.2.1 y21.1.2.1.2.2.2 y21.1.2.2.1 y21.1.2.2.2.1 y21.1.2.2.2.2.1 y21.1.2.2.2.2.2 2 (rd (.pair (.int .i64) (.pair (.int .i64) (.pair (.int .i64) (.pair (.int .i64) (.int .i64))))) v15 (Int.toNat v17)).1 (rd (.pair (.int .i64) (.pair (.int .i64) (.pair (.int .i64) (.pair (.int .i64) (.int .i64))))) v15 (Int.toNat v17)).2.1 (rd (.pair (.int .i64) (.pair (.int .i64) (.pair (.int .i64) (.pair (.int .i64) (.int .i64))))) v15 (Int.toNat v17)).2.2.1 0 0 0 0 false)).bind fun y22 =>
       ((f13 y21.1.1.1.1 y21.1.1.1.2 y21.1.1.2.1.1 y21.1.1.2.1.2 y21.1.1.2.2.1 y21.1.1.2.2.2.1 y21.1.1.2.2.2.2.1 y21.1.1.2.2.2.2.2 y21.1.2.1.1 y21.1.2.1.2.1 y21.1.2.1.2.2.1 y21.1.2.1.2.2.2 y21.1.2.2.1 y21.1.2.2.2.1 y21.1.2.2.2.2.1 y21.1.2.2.2.2.2 1 (rd (.pair (.int .i64) (.pair (.int .i64) (.pair (.int .i64) (.pair (.int .i64) (.int .i64))))) v15 (Int.toNat v17)).1 (rd (.pair (.int .i64) (.pair (.int .i64) (.pair (.int .i64) (.pair (.int .i64) (.int .i64))))) v15 (Int.toNat v17)).2.1 (rd (.pair (.int .i64) (.pair (.int .i64) (.pair (.int .i64) (.pair (.int .i64) (.int .i64))))) v15 (Int.toNat v17)).2.2.1 0 0 0 0 false)).bind fun y23 =>
       ((iter big u10_13 (((), (), (), y21.2.1, (), (), (), false, 0, ()), ((v1, v2, v3, v4, v5, v6, v7, v8, v9, v10, v11, v12, v13, v14, v15, v16, ()), ((rd (.pair (.int .i64) (.pair (.int .i64) (.pair (.int .i64) (.pair (.int .i64) (.int .i64))))) v15 (Int.toNat v17)).1, (rd (.pair (.int .i64) (.pair (.int .i64) (.pair (.int .i64) (.pair (.int .i64) (.int .i64))))) v15 (Int.toNat v17)).2.1, (rd (.pair (.int .i64) (.pair (.int .i64) (.pair (.int .i64) (.pair (.int .i64) (.int .i64))))) v15 (Int.toNat v17)).2.2.1, (rd (.pair (.int .i64) (.pair (.int .i64) (.pair (.int .i64) (.pair (.int .i64) (.int .i64))))) v15 (Int.toNat v17)).2.2.2.1, (rd (.pair (.int .i64) (.pair (.int .i64) (.pair (.int .i64) (.pair (.int .i64) (.int .i64))))) v15 (Int.toNat v17)).2.2.2.2, ()), (y21.1.1.1.1, y21.1.1.1.2, y21.1.1.2.1.1, y21.1.1.2.1.2, y21.1.1.2.2.1, y21.1.1.2.2.2.1, y21.1.1.2.2.2.2.1, y21.1.1.2.2.2.2.2, y21.1.2.1.1, y21.1.2.1.2.1, y21.1.2.1.2.2.1, y21.1.2.1.2.2.2, y21.1.2.2.1, y21.1.2.2.2.1, y21.1.2.2.2.2.1, y21.1.2.2.2.2.2, ()), (y21.2.2.1.1, y21.2.2.1.2.1, y21.2.2.1.2.2, ()), (y22.2.2.1.1, y22.2.2.1.2.1, y22.2.2.1.2.2, ()), (y23.2.2.1.1, y23.2.2.1.2.1, y23.2.2.1.2.2, ()), ()), ()))).bind fun r => match r with
       | .inl y24 =>
         cond (decide (y24.2.1.2.2.2.1.1 = 0)) (
          cond (decide ((y24.1.2.2.2.1.length : Int) = 1)) (
           cond (decide (y24.2.1.2.2.2.2.1.1 = 5)) (
            cond (decide (y24.2.1.2.2.2.2.2.1.1 = 5)) (
             cond (y24.1.2.2.2.2.2.2.2.1 == (decide (0 < y24.2.1.1.2.2.2.2.2.2.2.2.2.2.1))) (
              ((f22 y24.2.1.2.2.1.2.2.2.2.2.2.2.2.2.2.2.2.2.2.1 y24.2.1.2.1.2.1 y24.2.1.2.1.2.2.1)).bind fun y26 =>
              cond (decide (y26.1 = (-1))) (
               some ((decide ((y24.2.1.2.2.1.2.2.2.2.2.2.2.2.2.2.2.2.2.2.1.length : Int) = (IntKind.wrap .i64 ((y24.2.1.1.2.2.2.2.2.2.2.2.2.2.2.2.2.2.1.length : Int) - 1)))), ())) (
               some (false, ()))) (
              some (false, ()))) (
             some (false, ()))) (
            some (false, ()))) (
           some (false, ()))) (
          some (false, ()))
       | .inr z25 =>
         none) (
       none))))))
set_option maxHeartbeats 0
abbrev ps10 : List Ty := [.pair (.pair (.pair (.int .i64) (.int .i64)) (.pair (.pair (.int .i64) (.int .i64)) (.pair (.int .i64) (.pair (.int .i64) (.pair (.int .i64) (.int .i64)))))) (.pair (.pair (.int .i64) (.pair (.int .i64) (.pair (.int .i64) (.bool)))) (.pair (.int .i64) (.pair (.row (.pair (.int .i64) (.pair (.int .i64) (.int .i64)))) (.pair (.row (.pair (.int .i64) (.pair (.int .i64) (.pair (.int .i64) (.pair (.int .i64) (.int .i64)))))) (.row (.pair (.int .i64) (.pair (.int .i64) (.int .i64)))))))), .int .i64]
abbrev rs10 : List RTy := [.val (.bool)]
noncomputable abbrev L10 : List (Nat × Con) := [(11, con11), (12, con12), (13, con13), (15, con15), (22, con22)]
noncomputable abbrev U10 : List (Nat × UCon) := []
noncomputable abbrev C10 : Cons := lookC L10 U10
abbrev s10_13 : LShape := ⟨153, [(2, .fix (.ptr 4294967296 0)), (7, .fix (.ptr 4294987856 0)), (9, .fix (.ptr 4294996080 0)), (10, .cont (.pair (.int .i64) (.pair (.int .i64) (.pair (.int .i64) (.pair (.int .i64) (.pair (.int .i64) (.pair (.int .i64) (.pair (.int .i64) (.pair (.int .i64) .bool))))))))), (11, .fix (.ptr 4294996096 0)), (14, .fix (.ptr 4295000192 0)), (17, .fix (.ptr 4295008384 0)), (18, .bool), (19, .int .i64)], [], [(4294967296, .box 32 [.int .i64, .int .i64, .int .i64, .int .i64, .int .i64, .int .i64, .int .i64, .int .i64, .int .i64, .int .i64, .int .i64, .bool, .int .i64, .cont (.pair (.int .i64) (.pair (.int .i64) (.int .i64))), .cont (.pair (.int .i64) (.pair (.int .i64) (.pair (.int .i64) (.pair (.int .i64) (.int .i64))))), .cont (.pair (.int .i64) (.pair (.int .i64) (.int .i64)))]), (4294987856, .box 55 [.int .i64, .int .i64, .int .i64, .int .i64, .int .i64]), (4294996080, .box 32 [.int .i64, .int .i64, .int .i64, .int .i64, .int .i64, .int .i64, .int .i64, .int .i64, .int .i64, .int .i64, .int .i64, .bool, .int .i64, .cont (.pair (.int .i64) (.pair (.int .i64) (.int .i64))), .cont (.pair (.int .i64) (.pair (.int .i64) (.pair (.int .i64) (.pair (.int .i64) (.int .i64))))), .cont (.pair (.int .i64) (.pair (.int .i64) (.int .i64)))]), (4294996096, .box 40 [.int .i64, .int .i64, .int .i64]), (4295000192, .box 40 [.int .i64, .int .i64, .int .i64]), (4295008384, .box 40 [.int .i64, .int .i64, .int .i64])], []⟩
abbrev o10_13 : LShape := ⟨153, [(2, .fix (.ptr 4294967296 0)), (7, .fix (.ptr 4294987856 0)), (9, .fix (.ptr 4294996080 0)), (10, .cont (.pair (.int .i64) (.pair (.int .i64) (.pair (.int .i64) (.pair (.int .i64) (.pair (.int .i64) (.pair (.int .i64) (.pair (.int .i64) (.pair (.int .i64) .bool))))))))), (11, .fix (.ptr 4294996096 0)), (14, .fix (.ptr 4295000192 0)), (17, .fix (.ptr 4295008384 0)), (18, .bool)], [], [(4294967296, .box 32 [.int .i64, .int .i64, .int .i64, .int .i64, .int .i64, .int .i64, .int .i64, .int .i64, .int .i64, .int .i64, .int .i64, .bool, .int .i64, .cont (.pair (.int .i64) (.pair (.int .i64) (.int .i64))), .cont (.pair (.int .i64) (.pair (.int .i64) (.pair (.int .i64) (.pair (.int .i64) (.int .i64))))), .cont (.pair (.int .i64) (.pair (.int .i64) (.int .i64)))]), (4294987856, .box 55 [.int .i64, .int .i64, .int .i64, .int .i64, .int .i64]), (4294996080, .box 32 [.int .i64, .int .i64, .int .i64, .int .i64, .int .i64, .int .i64, .int .i64, .int .i64, .int .i64, .int .i64, .int .i64, .bool, .int .i64, .cont (.pair (.int .i64) (.pair (.int .i64) (.int .i64))), .cont (.pair (.int .i64) (.pair (.int .i64) (.pair (.int .i64) (.pair (.int .i64) (.int .i64))))), .cont (.pair (.int .i64) (.pair (.int .i64) (.int .i64)))]), (4294996096, .box 40 [.int .i64, .int .i64, .int .i64]), (4295000192, .box 40 [.int .i64, .int .i64, .int .i64]), (4295008384, .box 40 [.int .i64, .int .i64, .int .i64])], []⟩
abbrev q10_13 : LShape := ⟨153, [], [], [], []⟩
noncomputable def l10_13 : LSum := ⟨9, 10, s10_13, 0, o10_13, q10_13, u10_13, false, none, none, []⟩
noncomputable abbrev S10 : List (Nat × Nat × LSum) := [(4294967296, 13, l10_13)]
noncomputable def con10 : Con := ⟨ps10, rs10, fun x => f10 x.1.1.1.1 x.1.1.1.2 x.1.1.2.1.1 x.1.1.2.1.2 x.1.1.2.2.1 x.1.1.2.2.2.1 x.1.1.2.2.2.2.1 x.1.1.2.2.2.2.2 x.1.2.1.1 x.1.2.1.2.1 x.1.2.1.2.2.1 x.1.2.1.2.2.2 x.1.2.2.1 x.1.2.2.2.1 x.1.2.2.2.2.1 x.1.2.2.2.2.2 x.2.1⟩
theorem r10_13 : Round Tryz.prog C10 (lookS S10) big 4294967296 13 l10_13 := ⟨by kernel_rfl, fun z => by kernel_rfl⟩
theorem e10 (x : Args ps10) : kTop Tryz.prog C10 (lookS S10) big 10 10 ps10 rs10 x = con10.f x := by kernel_rfl
theorem ok10 [Glob] [RngG Tryz.prog] (h : AllOK Tryz.prog L10) (h' : AllU Tryz.prog U10) : con10.OK Tryz.prog 10 := con_of_tree (lookC_ok h h') (rounds_of (l := S10) ⟨r10_13, trivial⟩) e10
theorem k10 : con10.OK Tryz.prog 10 := ok10 ⟨k11, k12, k13, k15, k22, trivial⟩ trivial
set_option linter.unusedSimpArgs false
theorem ht3 (x : HT) (a b c : Int) : ((decide (x.1 = a)) && ((decide (x.2.1 = b)) && ((decide (x.2.2 = c)) && true))) = decide (x = (a, b, c)) := ht_eq x (a, b, c)
abbrev W10 : Type := (Int × Int × Int × Int × Int × Int × Int × Int × Int × Int × Int × Bool × Int × (List (Int × Int × Int)) × (List (Int × Int × Int × Int × Int)) × (List (Int × Int × Int)) × Unit) × (Int × Int × Int × Int × Int × Unit) × (Int × Int × Int × Int × Int × Int × Int × Int × Int × Int × Int × Bool × Int × (List (Int × Int × Int)) × (List (Int × Int × Int × Int × Int)) × (List (Int × Int × Int)) × Unit) × (Int × Int × Int × Unit) × (Int × Int × Int × Unit) × (Int × Int × Int × Unit) × Unit
abbrev h10 (w : W10) : List HT := w.2.2.1.2.2.2.2.2.2.2.2.2.2.2.2.2.2.2.1
theorem it10 (E : List ET) (w : W10) (hw : (h10 w).length ≤ 1000) :
  iter big u10_13 (((), (), (), E, (), (), (), false, 0, ()), w, ()) =
   some (.inl (((), (), (), E, (), (), (), (h10 w).any (fun x : HT => decide (x = (w.2.1.2.1, w.2.1.2.2.1, IntKind.wrap .i64 (w.1.2.2.2.2.2.2.2.2.2.2.2.2.1 + w.1.2.2.2.2.2.2.2.2.2.2.1)))), ()), w, ())) := by
 generalize hq : (fun x : HT => decide (x = (w.2.1.2.1, w.2.1.2.2.1, IntKind.wrap .i64 (w.1.2.2.2.2.2.2.2.2.2.2.2.2.1 + w.1.2.2.2.2.2.2.2.2.2.2.1)))) = q
 refine it_all (u := u10_13) (fun j => (((), (), (), E, (), (), (), ((h10 w).take j).any q, ((j : Nat) : Int), ()), w, ())) (n := (h10 w).length)
  (y := (((), (), (), E, (), (), (), (h10 w).any q, ()), w, ())) (fun j hj => ?_) ?_ 0 big (Nat.zero_le _) (by unfold big; omega)
 ·have e : ((h10 w).take (j + 1)).any q = (((h10 w).take j).any q || q (h10 w)[j]) := by
   rw [take_snoc hj, List.any_append]; simp
  simp only [u10_13, t10_13, ltn hj, ge0, cond_true, Bool.and_self, Int.toNat_natCast, rdH hj, nx hj (show (h10 w).length ≤ 9223372036854775807 by omega), ht3]
  rw [e]
  cases hb : ((h10 w).take j).any q <;> subst hq <;> rfl
 ·simp only [u10_13, t10_13, nlt, cond_false, List.take_length]
theorem f10_true (s : ST) (i : Int) :
  f10 s.1.1.1 s.1.1.2 s.1.2.1.1 s.1.2.1.2 s.1.2.2.1 s.1.2.2.2.1 s.1.2.2.2.2.1 s.1.2.2.2.2.2 s.2.1.1 s.2.1.2.1 s.2.1.2.2.1 s.2.1.2.2.2 s.2.2.1 s.2.2.2.1 s.2.2.2.2.1 s.2.2.2.2.2 i = some (true, ()) := by
 unfold f10
 rw [f11_eq, f12_eq s]
 by_cases hf : Few s
 case neg => rw [decide_eq_false hf]; rfl
 rw [decide_eq_true hf]
 simp only [Option.bind_some, Bool.not_true, cond_false]
 by_cases h0 : i < 0
 ·rw [decide_eq_true h0]; rfl
 rw [decide_eq_false h0]
 by_cases h1 : ((s.2.2.2.2.1.length : Nat) : Int) ≤ i
 ·rw [decide_eq_true h1]; rfl
 rw [decide_eq_false h1]
 have hs := hf.sm
 have h15 := f15_eq s hs.szP hs.szL hs.szH
 rw [h15]
 by_cases M : MayS s
 case neg => rw [decide_eq_false M]; rfl
 rw [decide_eq_true M]
 obtain ⟨j, rfl⟩ : ∃ j : Nat, i = (j : Int) := ⟨i.toNat, by omega⟩
 have hj : j < s.2.2.2.2.1.length := by omega
 simp only [Option.bind_some, Bool.not_true, cond_false, ltn hj, ge0, Bool.and_self, cond_true, Int.toNat_natCast, rdL hj]
 have hy : s.2.2.2.2.1[j] ∈ s.2.2.2.2.1 := List.getElem_mem hj
 generalize s.2.2.2.2.1[j] = y at hy
 have M2 : MayS (freeT s y s.2.2.1) := free_may M hy
 have hd : hasL (freeT s y s.2.2.1).2.2.2.2.1 y.2.1 y.2.2.1 = false := del_none M.leases.srt _ _
 have e1 := f13_eq s (2, y.1, y.2.1, y.2.2.1, 0, 0, 0, 0, false) hs
 rw [rel_do M hy] at e1
 have e2 := f13_eq (freeT s y s.2.2.1) (2, y.1, y.2.1, y.2.2.1, 0, 0, 0, 0, false) M2.sm
 rw [no_do M2 (.inr rfl) hd] at e2
 have e3 := f13_eq (freeT s y s.2.2.1) (1, y.1, y.2.1, y.2.2.1, 0, 0, 0, 0, false) M2.sm
 rw [no_do M2 (.inl rfl) hd] at e3
 have e4 := rel_held M hy
 have e5 : (freeT s y s.2.2.1).2.2.2.2.1.length = s.2.2.2.2.1.length - 1 := del_len (has_of hy)
 have e6 := (findL_none _ _ _).2 hd
 have e7 := f22_eq (freeT s y s.2.2.1).2.2.2.2.1 M2.sm.szL y.2.1 y.2.2.1
 have hw : IntKind.wrap .i64 (s.2.2.1 + s.2.1.2.2.1) = s.2.2.1 + s.2.1.2.2.1 := by
  have := M.now0; have := M.now1; have := M.pol.2.2.1; have := M.pol.2.2.2
  exact w64 (by omega) (by omega)
 have hw2 : IntKind.wrap .i64 (((s.2.2.2.2.1.length : Nat) : Int) - 1) = ((s.2.2.2.2.1.length - 1 : Nat) : Int) := by
  have := hs.l
  rw [w64 (by omega) (by omega)]; omega
 have hH := M2.sm.h
 generalize freeT s y s.2.2.1 = t at *
 simp only [ansT, errS] at e1 e2 e3
 rw [e1]
 simp only [Option.bind_some]
 rw [e2]
 simp only [Option.bind_some]
 rw [e3]
 simp only [Option.bind_some]
 rw [it10 _ _ (by exact hH)]
 simp only [Option.bind_some, h10, hw, e4, e7, e6, e5, hw2, decide_true, cond_true]
 cases hb : decide (0 < s.2.1.2.2.1) <;> rfl
end Go.Proofs.Zz
namespace Go.Proofs.YtpopildnbgbhlaaGreatDoor
open Go Go.Sy Go.RowKit Go.Proofs.Zz
set_option linter.unusedVariables false
set_option maxRecDepth 100000
theorem own : ownKnob Tryz.prog.godebug = none := by kernel_rfl
theorem laidOut : laidOutB Tryz.prog = true := by kernel_rfl
abbrev tabs : List (String × DataW Unit) := [("math/bits.deBruijn32tab", Rows.laid_math_bits_deBruijn32tab), ("math/bits.deBruijn64tab", Rows.laid_math_bits_deBruijn64tab)]
abbrev tab64 : List Int := Lib.deBruijn64tab.map fun (n : Nat) => (n : Int)
theorem tab64_eq : (Rows.laid_math_bits_deBruijn64tab : DataW Unit) = Lib.tabData .u8 tab64 := by kernel_rfl
theorem laidMet_next {P : Program} {x : String × DataW Unit} {r : List (String × DataW Unit)} {w : World} (h : laidMet P (x :: r) w) : laidMet P r w := by
 obtain ⟨ps, ⟨g, t, cs, fuel, p, q, _, _, _, _, h1, rfl⟩, hn, hp⟩ := h
 refine ⟨q, h1, ?_, fun b off hm => hp b off (List.mem_append.2 (.inr hm))⟩
 exact (List.nodup_append.1 hn).2.1
theorem tab64_of {W : World} (h : laidMet Tryz.prog tabs W) : Lib.TabIs Tryz.prog W "math/bits.deBruijn64tab" .u8 tab64 := by
 have h1 := laidMet_next h
 rw [tab64_eq] at h1
 exact Lib.tabIs_of_head (g := 1) (t := 233) (e := 5) (n := 64) (by kernel_rfl) (by kernel_rfl) (by kernel_rfl) (by kernel_rfl) (by kernel_rfl) (by kernel_rfl) h1
theorem tab_get : ∀ j : Fin 64, (tab64.map fun z => Value.int .u8 z)[j.val]? = some (Value.int .u8 ((Lib.deBruijn64tab.getD j.val 0 : Nat) : Int)) := by
 intro j
 simp only [tab64, List.getElem?_map]
 have h : Lib.deBruijn64tab[j.val]? = some (Lib.deBruijn64tab.getD j.val 0) := by
  have hl : Lib.deBruijn64tab.length = 64 := by decide
  have hj := j.isLt
  rw [List.getD_eq_getElem?_getD, List.getElem?_eq_getElem (by omega)]
  rfl
 rw [h]
 rfl
theorem glob_of {W : World} (h : laidMetH Tryz.prog tabs W) : Glob.pre (allS W) := by
 rw [MakeChecks.laidMetH_plain _ _ _ (by kernel_rfl)] at h
 intro w hw j hj
 have ht := tab64_of h
 unfold Lib.TabIs World.var? at ht
 have hg : Tryz.prog.globalNamed "math/bits.deBruijn64tab" = some 1 := by kernel_rfl
 rw [hg] at ht
 simp only [Option.bind_some] at ht
 have hl : Lib.deBruijn64tab.length = 64 := by decide
 have hget := tab_get ⟨j, by omega⟩
 cases hb : W.heap[1]? with
 | none => rw [hb] at ht; simp at ht
 | some o =>
  have hb' := hw 1 o hb
  rw [hb] at ht
  unfold World.cell?
  simp only
  rw [hb']
  cases o with
  | cells cs t x =>
   simp only at ht ⊢
   cases ht
   have e : ((tab64.map fun z => Value.int .u8 z).toArray)[j]? = (tab64.map fun z => Value.int .u8 z)[j]? := by simp
   rw [hget] at e
   simpa using e
  | _ => simp at ht
theorem shaped_tabs {os : Os} {args : Array Value} : ((World.laidAll Tryz.prog os tabs).forCall (fun _ _ => 0) ⟨#[], args, []⟩).Shaped Tryz.prog :=
 World.shaped_of_ZipB (by kernel_rfl) (by kernel_rfl)
theorem met_tabs (os : Os) (args : Array Value) : laidMetH Tryz.prog tabs ((World.laidAll Tryz.prog os tabs).forCall (fun _ _ => 0) ⟨#[], args, []⟩).memory := by
 rw [MakeChecks.laidMetH_plain _ _ _ (by kernel_rfl)]; exact laidMet_laidAll _ (by kernel_rfl) (by kernel_rfl)
end Go.Proofs.YtpopildnbgbhlaaGreatDoor
namespace Go.Proofs.YtpopildnbgbhlaaGreatDoor.allocReleases
open Go Go.Sy Go.RowKit Go.Proofs.Zz Go.ChangeShapes
set_option linter.unusedVariables false
set_option maxRecDepth 100000
theorem lifted (os : Os) (started : os.Started) (H : Type) (enc : TypeId × Value → H) :
  ReturnsInHanded {} Tryz.checked os 10 .any (fun w args => (Rows.allocReleasesSpec.pre enc Tryz.prog Tryz.f10 [] false w args ∧ laidMetH Tryz.prog tabs w) ∧ sizedMet enc Tryz.prog Tryz.f10 (OpenSpec.ofChange Rows.allocReleasesSpec) false w args)
   (Rows.allocReleasesSpec.post enc Tryz.prog Tryz.f10 false true false false) :=
 law_lifted (C := Tryz.checked) (X := fun w _ => laidMetH Tryz.prog tabs w) (Ts := ps10) (F := con10.f) (ts := [32, 3]) (tb := 4) (fun _ _ _ hh h => h.of_heap hh) own started (by kernel_rfl) Tryz.func10
  (ChangeSpec.witness_shaped (enc := enc) (C := Tryz.checked) (os := os) (X := fun w _ => laidMetH Tryz.prog tabs w) false (World.laidAll Tryz.prog os tabs) #[.agg #[.int .i64 0, .int .i64 0, .int .i64 0, .int .i64 0, .int .i64 0, .int .i64 0, .int .i64 0, .int .i64 0, .int .i64 0, .int .i64 0, .int .i64 0, .bool false, .int .i64 0, .slice none 0 0, .slice none 0 0, .slice none 0 0], .int .i64 0] 8 (World.laidAll_os _ _ _)
   shaped_tabs (by kernel_rfl) (by kernel_rfl) (by kernel_rfl) (met_tabs os _))
  (fun W _ hs h => glob_of h) laidOut k10 Tryz.params10 (by kernel_rfl) Tryz.underlying4
  (fun t ht => by
   have h : ([32, 3].all fun t => Tryz.prog.readableRec t && decide (t < Tryz.prog.types.size)) = true := by kernel_rfl
   have := List.all_eq_true.1 h t ht
   rw [Bool.and_eq_true, decide_eq_true_eq] at this
   exact this)
  ⟨by kernel_rfl, by kernel_rfl, trivial⟩ rfl (fun ds hds => by
   match ds, hds with
   | [d1, d2], _ => rfl)
  (fun x hx => f10_true x.1 x.2.1)
theorem holds : Rows.AllocReleasesSaid :=
 OpenClaim.holds_of_wide 10 Tryz.f10 rfl rfl rfl rfl rfl rfl rfl ⟨rfl, rfl, rfl, rfl, rfl⟩ rfl rfl rfl rfl rfl (by kernel_rfl) Tryz.func10 (by kernel_rfl)
  (of_decide_eq_true (by kernel_rfl)) (by unfold Func.isWrapper; first | (rw [if_pos (by decide +kernel)]; kernel_rfl) | (rw [if_neg (by decide +kernel)]; exact ⟨rfl, rfl⟩))
  (fun os started H enc _ => lifted os started H enc)
theorem card_holds : Rows.AllocReleasesCardSaid :=
 Claim7.holds_tied_plain_at .later [] [.data, .data] true _ true holds (fun _ h => by cases h) (by kernel_rfl) (fun _ h => by cases h) allocReleases_row_tie rfl ⟨rfl, rfl⟩ (by kernel_rfl) rfl
  (fun f fn hf hfn => by
   obtain rfl : f = 10 := Option.some.inj ((show Tryz.prog.funcNamed "moorings/mooringslaw13.AllocReleases" = some 10 by kernel_rfl).symm.trans hf) |>.symm
   obtain rfl : fn = Tryz.f10 := (Option.some.inj (Tryz.func10.symm.trans hfn)).symm
   exact ⟨by kernel_rfl, fun j t ht => by
    rw [Tryz.params10] at ht
    have hm : t ∈ [32, 3] := by simpa using Array.mem_of_getElem? ht
    have hall : ([32, 3].all fun u => !Tryz.prog.wantsStandIn u) = true := by kernel_rfl
    exact (show Tryz.prog.wantsStandIn t = false by simpa using List.all_eq_true.1 hall t hm)⟩)
  (by kernel_rfl)
end Go.Proofs.YtpopildnbgbhlaaGreatDoor.allocReleases
namespace Go.Proofs.YtpopildnbgbhlaaGreatDoor
theorem allocReleases_holds : Rows.AllocReleasesCardSaid := allocReleases.card_holds
end Go.Proofs.YtpopildnbgbhlaaGreatDoor
