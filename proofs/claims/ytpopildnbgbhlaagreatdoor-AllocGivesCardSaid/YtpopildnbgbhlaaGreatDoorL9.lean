/- Pure13_9, Eq13_9, P13_9, Row13, Law13_9. -/
import Derived.Test.YtpopildnbgbhlaaGreatDoorPU
import Derived.Test.YtpopildnbgbhlaaGreatDoorEQ
import Derived.Test.YtpopildnbgbhlaaGreatDoorFD
import Derived.Test.YtpopildnbgbhlaaGreatDoorPC
import Derived.Test.YtpopildnbgbhlaaGreatDoorFI
import Derived.Test.YtpopildnbgbhlaaGreatDoorFG
import Derived.Test.YtpopildnbgbhlaaGreatDoorTie
import Derived.Test.YtpopildnbgbhlaaGreatDoorCards
import Derived.Lay
import Derived.SevenTiedAt
import Derived.Shelf.Vars
import Derived.Lib.LaidTab
namespace Go.Proofs.Zz
open Go Go.Sy
set_option linter.unusedVariables false
set_option maxRecDepth 100000
abbrev X9_9 : Type := (Int × Unit × Unit × (List (Int × Int × Int × Int × Int × Int × Int × Int × Bool)) × Unit × Int × Unit) × ((Int × Int × Int × Int × Int × Int × Int × Int × Int × Int × Int × Bool × Int × (List (Int × Int × Int)) × (List (Int × Int × Int × Int × Int)) × (List (Int × Int × Int)) × Unit) × (Int × Int × Int × Int × Int × Int × Int × Int × Int × Int × Int × Bool × Int × (List (Int × Int × Int)) × (List (Int × Int × Int × Int × Int)) × (List (Int × Int × Int)) × Unit) × (Int × Int × Int × Unit) × Unit) × (Unit)
abbrev Y9_9 : Type := (Int × Unit × Unit × (List (Int × Int × Int × Int × Int × Int × Int × Int × Bool)) × Unit × Unit) × ((Int × Int × Int × Int × Int × Int × Int × Int × Int × Int × Int × Bool × Int × (List (Int × Int × Int)) × (List (Int × Int × Int × Int × Int)) × (List (Int × Int × Int)) × Unit) × (Int × Int × Int × Int × Int × Int × Int × Int × Int × Int × Int × Bool × Int × (List (Int × Int × Int)) × (List (Int × Int × Int × Int × Int)) × (List (Int × Int × Int)) × Unit) × (Int × Int × Int × Unit) × Unit) × (Unit)
abbrev Z9_9 : Type := (Bool × Unit) × (Unit) × (Unit)
noncomputable def t9_9 (v1 : Int) (v2 : (List (Int × Int × Int × Int × Int × Int × Int × Int × Bool))) (v3 v4 v5 v6 v7 v8 v9 v10 v11 v12 v13 v14 : Int) (v15 : Bool) (v16 : Int) (v17 : (List (Int × Int × Int))) (v18 : (List (Int × Int × Int × Int × Int))) (v19 : (List (Int × Int × Int))) (v20 v21 v22 v23 v24 v25 v26 v27 v28 v29 v30 : Int) (v31 : Bool) (v32 : Int) (v33 : (List (Int × Int × Int))) (v34 : (List (Int × Int × Int × Int × Int))) (v35 : (List (Int × Int × Int))) (v36 v37 v38 : Int) : Option (R3 X9_9 Y9_9 Z9_9) :=
 cond (decide (v3 < (v19.length : Int))) (
  cond ((decide (0 ≤ v3)) && (decide (v3 < (v19.length : Int)))) (
   cond (decide ((rd (.pair (.int .i64) (.pair (.int .i64) (.int .i64))) v19 (Int.toNat v3)).1 = v37)) (
    cond ((decide (0 ≤ v3)) && (decide (v3 < (v19.length : Int)))) (
     cond (decide ((rd (.pair (.int .i64) (.pair (.int .i64) (.int .i64))) v19 (Int.toNat v3)).2.1 = v38)) (
      some (R3.ret ((false, ()), (), ()))) (
      some (R3.next ((v1, (), (), v2, (), (IntKind.wrap .i64 (v3 + 1)), ()), ((v4, v5, v6, v7, v8, v9, v10, v11, v12, v13, v14, v15, v16, v17, v18, v19, ()), (v20, v21, v22, v23, v24, v25, v26, v27, v28, v29, v30, v31, v32, v33, v34, v35, ()), (v36, v37, v38, ()), ()), ())))) (
     none)) (
    some (R3.next ((v1, (), (), v2, (), (IntKind.wrap .i64 (v3 + 1)), ()), ((v4, v5, v6, v7, v8, v9, v10, v11, v12, v13, v14, v15, v16, v17, v18, v19, ()), (v20, v21, v22, v23, v24, v25, v26, v27, v28, v29, v30, v31, v32, v33, v34, v35, ()), (v36, v37, v38, ()), ()), ())))) (
   none)) (
  some (R3.out ((v1, (), (), v2, (), ()), ((v4, v5, v6, v7, v8, v9, v10, v11, v12, v13, v14, v15, v16, v17, v18, v19, ()), (v20, v21, v22, v23, v24, v25, v26, v27, v28, v29, v30, v31, v32, v33, v34, v35, ()), (v36, v37, v38, ()), ()), ())))
noncomputable def u9_9 (z : X9_9) : Option (R3 X9_9 Y9_9 Z9_9) := t9_9 z.1.1 z.1.2.2.2.1 z.1.2.2.2.2.2.1 z.2.1.1.1 z.2.1.1.2.1 z.2.1.1.2.2.1 z.2.1.1.2.2.2.1 z.2.1.1.2.2.2.2.1 z.2.1.1.2.2.2.2.2.1 z.2.1.1.2.2.2.2.2.2.1 z.2.1.1.2.2.2.2.2.2.2.1 z.2.1.1.2.2.2.2.2.2.2.2.1 z.2.1.1.2.2.2.2.2.2.2.2.2.1 z.2.1.1.2.2.2.2.2.2.2.2.2.2.1 z.2.1.1.2.2.2.2.2.2.2.2.2.2.2.1 z.2.1.1.2.2.2.2.2.2.2.2.2.2.2.2.1 z.2.1.1.2.2.2.2.2.2.2.2.2.2.2.2.2.1 z.2.1.1.2.2.2.2.2.2.2.2.2.2.2.2.2.2.1 z.2.1.1.2.2.2.2.2.2.2.2.2.2.2.2.2.2.2.1 z.2.1.2.1.1 z.2.1.2.1.2.1 z.2.1.2.1.2.2.1 z.2.1.2.1.2.2.2.1 z.2.1.2.1.2.2.2.2.1 z.2.1.2.1.2.2.2.2.2.1 z.2.1.2.1.2.2.2.2.2.2.1 z.2.1.2.1.2.2.2.2.2.2.2.1 z.2.1.2.1.2.2.2.2.2.2.2.2.1 z.2.1.2.1.2.2.2.2.2.2.2.2.2.1 z.2.1.2.1.2.2.2.2.2.2.2.2.2.2.1 z.2.1.2.1.2.2.2.2.2.2.2.2.2.2.2.1 z.2.1.2.1.2.2.2.2.2.2.2.2.2.2.2.2.1 z.2.1.2.1.2.2.2.2.2.2.2.2.2.2.2.2.2.1 z.2.1.2.1.2.2.2.2.2.2.2.2.2.2.2.2.2.2.1 z.2.1.2.1.2.2.2.2.2.2.2.2.2.2.2.2.2.2.2.1 z.2.1.2.2.1.1 z.2.1.2.2.1.2.1 z.2.1.2.2.1.2.2.1
noncomputable def f9 (v1 v2 v3 v4 v5 v6 v7 v8 v9 v10 v11 : Int) (v12 : Bool) (v13 : Int) (v14 : (List (Int × Int × Int))) (v15 : (List (Int × Int × Int × Int × Int))) (v16 : (List (Int × Int × Int))) (v17 : Int) : Option (Bool × Unit) :=
 (f11).bind fun y18 =>
 ((f12 v1 v2 v3 v4 v5 v6 v7 v8 v9 v10 v11 v12 v13 v14 v15 v16)).bind fun y19 =>
 cond (!y18.1) (
  some (y18.1, ())) (
  cond (!y19.1) (
   some (y18.1, ())) (
   ((f13 v1 v2 v3 v4 v5 v6 v7 v8 v9 v10 v11 v12 v13 v14 v15 v16 0 v17 0 0 0 0 0 0 false)).bind fun y20 =>
   cond (!(decide (y20.2.2.1.1 = 0))) (
    some ((decide ((y20.2.1.length : Int) = 0)), ())) (
    ((iter big u9_9 ((v17, (), (), y20.2.1, (), 0, ()), ((v1, v2, v3, v4, v5, v6, v7, v8, v9, v10, v11, v12, v13, v14, v15, v16, ()), (y20.1.1.1.1, y20.1.1.1.2, y20.1.1.2.1.1, y20.1.1.2.1.2, y20.1.1.2.2.1, y20.1.1.2.2.2.1, y20.1.1.2.2.2.2.1, y20.1.1.2.2.2.2.2, y20.1.2.1.1, y20.1.2.1.2.1, y20.1.2.1.2.2.1, y20.1.2.1.2.2.2, y20.1.2.2.1, y20.1.2.2.2.1, y20.1.2.2.2.2.1, y20.1.2.2.2.2.2, ()), (y20.2.2.1.1, y20.2.2.1.2.1, y20.2.2.1.2.2, ()), ()), ()))).bind fun r => match r with
    | .inl y21 =>
      ((f22 y21.2.1.2.1.2.2.2.2.2.2.2.2.2.2.2.2.2.2.1 y21.2.1.2.2.1.2.1 y21.2.1.2.2.1.2.2.1)).bind fun y23 =>
      cond (decide (y23.1 < 0)) (
       some (false, ())) (
       cond (decide ((y21.2.1.2.1.2.2.2.2.2.2.2.2.2.2.2.2.2.2.1.length : Int) ≤ y23.1)) (
        some (false, ())) (
        cond ((decide (0 ≤ y23.1)) && (decide (y23.1 < (y21.2.1.2.1.2.2.2.2.2.2.2.2.2.2.2.2.2.2.1.length : Int)))) (
         cond (!((decide ((rd (.pair (.int .i64) (.pair (.int .i64) (.pair (.int .i64) (.pair (.int .i64) (.int .i64))))) y21.2.1.2.1.2.2.2.2.2.2.2.2.2.2.2.2.2.2.1 (Int.toNat y23.1)).1 = y21.1.1)) && ((decide ((rd (.pair (.int .i64) (.pair (.int .i64) (.pair (.int .i64) (.pair (.int .i64) (.int .i64))))) y21.2.1.2.1.2.2.2.2.2.2.2.2.2.2.2.2.2.2.1 (Int.toNat y23.1)).2.1 = y21.2.1.2.2.1.2.1)) && ((decide ((rd (.pair (.int .i64) (.pair (.int .i64) (.pair (.int .i64) (.pair (.int .i64) (.int .i64))))) y21.2.1.2.1.2.2.2.2.2.2.2.2.2.2.2.2.2.2.1 (Int.toNat y23.1)).2.2.1 = y21.2.1.2.2.1.2.2.1)) && ((decide ((rd (.pair (.int .i64) (.pair (.int .i64) (.pair (.int .i64) (.pair (.int .i64) (.int .i64))))) y21.2.1.2.1.2.2.2.2.2.2.2.2.2.2.2.2.2.2.1 (Int.toNat y23.1)).2.2.2.1 = y21.2.1.1.2.2.2.2.2.2.2.2.2.2.2.2.1)) && ((decide ((rd (.pair (.int .i64) (.pair (.int .i64) (.pair (.int .i64) (.pair (.int .i64) (.int .i64))))) y21.2.1.2.1.2.2.2.2.2.2.2.2.2.2.2.2.2.2.1 (Int.toNat y23.1)).2.2.2.2 = y21.2.1.1.2.2.2.2.2.2.2.2.2.2.2.2.1)) && true)))))) (
          some (false, ())) (
          ((f22 y21.2.1.1.2.2.2.2.2.2.2.2.2.2.2.2.2.2.1 y21.2.1.2.2.1.2.1 y21.2.1.2.2.1.2.2.1)).bind fun y24 =>
          cond (!(decide (y24.1 = (-1)))) (
           some (false, ())) (
           ((f23 y21.2.1.1.2.2.2.2.2.2.2.2.2.2.2.2.2.1 y21.2.1.2.2.1.2.1)).bind fun y25 =>
           cond (!y25.1) (
            some (false, ())) (
            ((f24 y21.2.1.2.1.2.2.2.2.2.2.2.2.2.2.2.2.2.2.1 y21.2.1.2.2.1.2.1 y21.2.1.2.2.1.2.2.1)).bind fun y26 =>
            cond y26.2.1 (
             ((f25 y26.1 y21.2.1.1.2.2.2.2.2.2.2.2.2.2.2.2.2.2.1)).bind fun y27 =>
             cond y27.1 (
              cond (decide ((y21.1.2.2.2.1.length : Int) = 1)) (
               cond (decide (0 < (y21.1.2.2.2.1.length : Int))) (
                cond ((decide ((rd (.pair (.int .i64) (.pair (.int .i64) (.pair (.int .i64) (.pair (.int .i64) (.pair (.int .i64) (.pair (.int .i64) (.pair (.int .i64) (.pair (.int .i64) .bool)))))))) y21.1.2.2.2.1 0).1 = 0)) && ((decide ((rd (.pair (.int .i64) (.pair (.int .i64) (.pair (.int .i64) (.pair (.int .i64) (.pair (.int .i64) (.pair (.int .i64) (.pair (.int .i64) (.pair (.int .i64) .bool)))))))) y21.1.2.2.2.1 0).2.1 = y21.2.1.1.2.2.2.2.2.2.2.2.2.2.2.2.1)) && ((decide ((rd (.pair (.int .i64) (.pair (.int .i64) (.pair (.int .i64) (.pair (.int .i64) (.pair (.int .i64) (.pair (.int .i64) (.pair (.int .i64) (.pair (.int .i64) .bool)))))))) y21.1.2.2.2.1 0).2.2.1 = y21.1.1)) && ((decide ((rd (.pair (.int .i64) (.pair (.int .i64) (.pair (.int .i64) (.pair (.int .i64) (.pair (.int .i64) (.pair (.int .i64) (.pair (.int .i64) (.pair (.int .i64) .bool)))))))) y21.1.2.2.2.1 0).2.2.2.1 = y21.2.1.2.2.1.2.1)) && ((decide ((rd (.pair (.int .i64) (.pair (.int .i64) (.pair (.int .i64) (.pair (.int .i64) (.pair (.int .i64) (.pair (.int .i64) (.pair (.int .i64) (.pair (.int .i64) .bool)))))))) y21.1.2.2.2.1 0).2.2.2.2.1 = y21.2.1.2.2.1.2.2.1)) && (((decide ((rd (.pair (.int .i64) (.pair (.int .i64) (.pair (.int .i64) (.pair (.int .i64) (.pair (.int .i64) (.pair (.int .i64) (.pair (.int .i64) (.pair (.int .i64) .bool)))))))) y21.1.2.2.2.1 0).2.2.2.2.2.1 = 0)) && ((decide ((rd (.pair (.int .i64) (.pair (.int .i64) (.pair (.int .i64) (.pair (.int .i64) (.pair (.int .i64) (.pair (.int .i64) (.pair (.int .i64) (.pair (.int .i64) .bool)))))))) y21.1.2.2.2.1 0).2.2.2.2.2.2.1 = 0)) && ((decide ((rd (.pair (.int .i64) (.pair (.int .i64) (.pair (.int .i64) (.pair (.int .i64) (.pair (.int .i64) (.pair (.int .i64) (.pair (.int .i64) (.pair (.int .i64) .bool)))))))) y21.1.2.2.2.1 0).2.2.2.2.2.2.2.1 = 0)) && (((rd (.pair (.int .i64) (.pair (.int .i64) (.pair (.int .i64) (.pair (.int .i64) (.pair (.int .i64) (.pair (.int .i64) (.pair (.int .i64) (.pair (.int .i64) .bool)))))))) y21.1.2.2.2.1 0).2.2.2.2.2.2.2.2 == false) && true)))) && true)))))) (
                 ((f26 y21.2.1.2.1.2.2.2.2.2.2.2.2.2.2.2.2.2.1 y21.2.1.1.2.2.2.2.2.2.2.2.2.2.2.2.2.1)).bind fun y28 =>
                 some (y28.1, ())) (
                 some (false, ()))) (
                none)) (
               some (false, ()))) (
              some (false, ()))) (
             some (false, ())))))) (
         none)))
    | .inr z22 =>
      some (z22.1.1, ()))))
set_option maxHeartbeats 0
abbrev ps9 : List Ty := [.pair (.pair (.pair (.int .i64) (.int .i64)) (.pair (.pair (.int .i64) (.int .i64)) (.pair (.int .i64) (.pair (.int .i64) (.pair (.int .i64) (.int .i64)))))) (.pair (.pair (.int .i64) (.pair (.int .i64) (.pair (.int .i64) (.bool)))) (.pair (.int .i64) (.pair (.row (.pair (.int .i64) (.pair (.int .i64) (.int .i64)))) (.pair (.row (.pair (.int .i64) (.pair (.int .i64) (.pair (.int .i64) (.pair (.int .i64) (.int .i64)))))) (.row (.pair (.int .i64) (.pair (.int .i64) (.int .i64)))))))), .int .i64]
abbrev rs9 : List RTy := [.val (.bool)]
noncomputable abbrev L9 : List (Nat × Con) := [(11, con11), (12, con12), (13, con13), (22, con22), (23, con23), (24, con24), (25, con25), (26, con26)]
noncomputable abbrev U9 : List (Nat × UCon) := []
noncomputable abbrev C9 : Cons := lookC L9 U9
abbrev s9_9 : LShape := ⟨160, [(1, .int .i64), (2, .fix (.ptr 4294967296 0)), (7, .fix (.ptr 4294987904 0)), (8, .cont (.pair (.int .i64) (.pair (.int .i64) (.pair (.int .i64) (.pair (.int .i64) (.pair (.int .i64) (.pair (.int .i64) (.pair (.int .i64) (.pair (.int .i64) .bool))))))))), (9, .fix (.ptr 4294987920 0)), (10, .int .i64)], [], [(4294967296, .box 32 [.int .i64, .int .i64, .int .i64, .int .i64, .int .i64, .int .i64, .int .i64, .int .i64, .int .i64, .int .i64, .int .i64, .bool, .int .i64, .cont (.pair (.int .i64) (.pair (.int .i64) (.int .i64))), .cont (.pair (.int .i64) (.pair (.int .i64) (.pair (.int .i64) (.pair (.int .i64) (.int .i64))))), .cont (.pair (.int .i64) (.pair (.int .i64) (.int .i64)))]), (4294987904, .box 32 [.int .i64, .int .i64, .int .i64, .int .i64, .int .i64, .int .i64, .int .i64, .int .i64, .int .i64, .int .i64, .int .i64, .bool, .int .i64, .cont (.pair (.int .i64) (.pair (.int .i64) (.int .i64))), .cont (.pair (.int .i64) (.pair (.int .i64) (.pair (.int .i64) (.pair (.int .i64) (.int .i64))))), .cont (.pair (.int .i64) (.pair (.int .i64) (.int .i64)))]), (4294987920, .box 40 [.int .i64, .int .i64, .int .i64])], []⟩
abbrev o9_9 : LShape := ⟨160, [(1, .int .i64), (2, .fix (.ptr 4294967296 0)), (7, .fix (.ptr 4294987904 0)), (8, .cont (.pair (.int .i64) (.pair (.int .i64) (.pair (.int .i64) (.pair (.int .i64) (.pair (.int .i64) (.pair (.int .i64) (.pair (.int .i64) (.pair (.int .i64) .bool))))))))), (9, .fix (.ptr 4294987920 0))], [], [(4294967296, .box 32 [.int .i64, .int .i64, .int .i64, .int .i64, .int .i64, .int .i64, .int .i64, .int .i64, .int .i64, .int .i64, .int .i64, .bool, .int .i64, .cont (.pair (.int .i64) (.pair (.int .i64) (.int .i64))), .cont (.pair (.int .i64) (.pair (.int .i64) (.pair (.int .i64) (.pair (.int .i64) (.int .i64))))), .cont (.pair (.int .i64) (.pair (.int .i64) (.int .i64)))]), (4294987904, .box 32 [.int .i64, .int .i64, .int .i64, .int .i64, .int .i64, .int .i64, .int .i64, .int .i64, .int .i64, .int .i64, .int .i64, .bool, .int .i64, .cont (.pair (.int .i64) (.pair (.int .i64) (.int .i64))), .cont (.pair (.int .i64) (.pair (.int .i64) (.pair (.int .i64) (.pair (.int .i64) (.int .i64))))), .cont (.pair (.int .i64) (.pair (.int .i64) (.int .i64)))]), (4294987920, .box 40 [.int .i64, .int .i64, .int .i64])], []⟩
abbrev q9_9 : LShape := ⟨160, [(4, .bool)], [], [], []⟩
noncomputable def l9_9 : LSum := ⟨9, 9, s9_9, 0, o9_9, q9_9, u9_9, false, none, none, []⟩
noncomputable abbrev S9 : List (Nat × Nat × LSum) := [(4294967296, 9, l9_9)]
noncomputable def con9 : Con := ⟨ps9, rs9, fun x => f9 x.1.1.1.1 x.1.1.1.2 x.1.1.2.1.1 x.1.1.2.1.2 x.1.1.2.2.1 x.1.1.2.2.2.1 x.1.1.2.2.2.2.1 x.1.1.2.2.2.2.2 x.1.2.1.1 x.1.2.1.2.1 x.1.2.1.2.2.1 x.1.2.1.2.2.2 x.1.2.2.1 x.1.2.2.2.1 x.1.2.2.2.2.1 x.1.2.2.2.2.2 x.2.1⟩
theorem r9_9 : Round Tryz.prog C9 (lookS S9) big 4294967296 9 l9_9 := ⟨by kernel_rfl, fun z => by kernel_rfl⟩
theorem e9 (x : Args ps9) : kTop Tryz.prog C9 (lookS S9) big 10 9 ps9 rs9 x = con9.f x := by kernel_rfl
theorem ok9 [Glob] [RngG Tryz.prog] (h : AllOK Tryz.prog L9) (h' : AllU Tryz.prog U9) : con9.OK Tryz.prog 9 := con_of_tree (lookC_ok h h') (rounds_of (l := S9) ⟨r9_9, trivial⟩) e9
theorem k9 : con9.OK Tryz.prog 9 := ok9 ⟨k11, k12, k13, k22, k23, k24, k25, k26, trivial⟩ trivial
set_option linter.unusedSimpArgs false
abbrev W9 : Type := (Int × Int × Int × Int × Int × Int × Int × Int × Int × Int × Int × Bool × Int × (List (Int × Int × Int)) × (List (Int × Int × Int × Int × Int)) × (List (Int × Int × Int)) × Unit) × (Int × Int × Int × Int × Int × Int × Int × Int × Int × Int × Int × Bool × Int × (List (Int × Int × Int)) × (List (Int × Int × Int × Int × Int)) × (List (Int × Int × Int)) × Unit) × (Int × Int × Int × Unit) × Unit
abbrev h9 (w : W9) : List HT := w.1.2.2.2.2.2.2.2.2.2.2.2.2.2.2.2.1
theorem it9 (sub : Int) (E : List ET) (w : W9) (hw : (h9 w).length ≤ 1000) (hn : ∀ x ∈ h9 w, kH x ≠ (w.2.2.1.2.1, w.2.2.1.2.2.1)) :
  iter big u9_9 ((sub, (), (), E, (), 0, ()), w, ()) = some (.inl ((sub, (), (), E, (), ()), w, ())) := by
 refine it_all (u := u9_9) (fun j => ((sub, (), (), E, (), ((j : Nat) : Int), ()), w, ())) (n := (h9 w).length)
  (y := ((sub, (), (), E, (), ()), w, ())) (fun j hj => ?_) ?_ 0 big (Nat.zero_le _) (by unfold big; omega)
 ·have hne := hn _ (List.getElem_mem hj)
  simp only [u9_9, t9_9, ltn hj, ge0, cond_true, Bool.and_self, Int.toNat_natCast, rdH hj, nx hj (show (h9 w).length ≤ 9223372036854775807 by omega)]
  generalize (h9 w)[j] = x at hne
  by_cases h1 : x.1 = w.2.2.1.2.1
  ·have h2 : ¬ x.2.1 = w.2.2.1.2.2.1 := fun h => hne (by rw [← h, ← h1]; rfl)
   rw [decide_eq_true h1, decide_eq_false h2]; rfl
  ·rw [decide_eq_false h1]; rfl
 ·simp only [u9_9, t9_9, nlt, cond_false]
theorem f9_true (s : ST) (sub : Int) :
  f9 s.1.1.1 s.1.1.2 s.1.2.1.1 s.1.2.1.2 s.1.2.2.1 s.1.2.2.2.1 s.1.2.2.2.2.1 s.1.2.2.2.2.2 s.2.1.1 s.2.1.2.1 s.2.1.2.2.1 s.2.1.2.2.2 s.2.2.1 s.2.2.2.1 s.2.2.2.2.1 s.2.2.2.2.2 sub = some (true, ()) := by
 unfold f9
 rw [f11_eq, f12_eq s]
 by_cases hf : Few s
 case neg => rw [decide_eq_false hf]; rfl
 rw [decide_eq_true hf]
 simp only [Option.bind_some, Bool.not_true, cond_false]
 have hs := hf.sm
 have e1 := f13_eq s (0, sub, 0, 0, 0, 0, 0, 0, false) hs
 by_cases M : MayS s
 case neg =>
  rw [may_not M] at e1
  simp only [ansT, errS] at e1
  rw [e1]; rfl
 rw [grant_do M] at e1
 rcases grant_ok M sub with ⟨e, he, h⟩ | ⟨a, b, G⟩
 ·rw [h] at e1
  simp only [ansT, errS] at e1
  rw [e1]
  simp only [Option.bind_some, decide_eq_false he, Bool.not_false, cond_true]
  rfl
 ·have M2 := G.may
  obtain ⟨g1, g2, g3⟩ := (⟨G.st, G.ev, G.ans⟩ : _ ∧ _ ∧ _)
  have hF := G.free
  have hH := G.held
  have hgv := G.gives
  generalize hx : ((sub, a, b, s.2.2.1, s.2.2.1) : LT) = x at g1
  have hx1 : x.2.1 = a := by rw [← hx]
  have hx2 : x.2.2.1 = b := by rw [← hx]
  generalize grantS s sub = d at *
  obtain ⟨t, ev, an⟩ := d
  simp only at g1 g2 g3 M2
  subst g2 g3
  have hxm : x ∈ t.2.2.2.2.1 := by rw [g1]; exact mem_insK.2 (.inl rfl)
  have hh : hasL t.2.2.2.2.1 a b = true := by have := has_of hxm; rw [hx1, hx2] at this; exact this
  obtain ⟨k1, k2, k3⟩ := mine_at hh
  have k4 : mineL t.2.2.2.2.1 a b = x := by have := mine_of M2.leases.srt hxm; rw [hx1, hx2] at this; exact this
  rw [k4] at k3
  have k5 := (findL_none _ _ _).2 hF
  have k6 : delL t.2.2.2.2.1 a b = s.2.2.2.2.1 := by
   have := del_ins (x := x) M.leases.srt (by rw [hx1, hx2]; exact hF)
   rw [hx1, hx2] at this
   rw [g1]; exact this
  have k7 : t.2.2.2.1 = s.2.2.2.1 := by rw [g1]
  have e22 := f22_eq _ M2.sm.szL a b
  have e22' := f22_eq _ hs.szL a b
  have e23 := f23_eq _ hs.szP a
  have e24 := f24_eq _ M2.sm.l a b
  rw [if_pos hh, k6] at e24
  have e25 := f25_eq s.2.2.2.2.1 s.2.2.2.2.1 hs.szL
  have e26 := f26_eq s.2.2.2.1 s.2.2.2.1 hs.szP
  simp only [ansT] at e1
  rw [e1]
  simp only [Option.bind_some, decide_true, Bool.not_true, cond_false]
  rw [it9 sub _ _ (by exact hs.h) (by exact hH)]
  have d1 : decide (((t.2.2.2.2.1.findIdx (isL a b) : Nat) : Int) < 0) = false := decide_eq_false (by omega)
  have d2 : decide (((t.2.2.2.2.1.length : Nat) : Int) ≤ ((t.2.2.2.2.1.findIdx (isL a b) : Nat) : Int)) = false := decide_eq_false (by omega)
  simp only [Option.bind_some, e22, k2, d1, d2, cond_false, ltn k1, ge0, Bool.and_self, cond_true, Int.toNat_natCast, rdL k1, k3, e22', k5, decide_true, e23, hgv, e24, e25, e26, k7, Bool.not_true]
  subst hx
  have c1 : ∀ e : ET, decide ((([e].length : Nat) : Int) = 1) = true := fun _ => rfl
  have c2 : ∀ e : ET, decide (0 < (([e].length : Nat) : Int)) = true := fun _ => rfl
  simp only [decide_true, Bool.and_self, Bool.not_true, cond_false, cond_true, c1, c2]
  rw [rdE0]
  simp only [decide_true, Bool.and_self, beq_self_eq_true, cond_true, Bool.and_true, e26, Option.bind_some]
end Go.Proofs.Zz
namespace Go.Proofs.YtpopildnbgbhlaaGreatDoor
open Go Go.Sy Go.RowKit Go.Proofs.Zz
set_option linter.unusedVariables false
set_option maxRecDepth 100000
theorem own : ownKnob Tryz.prog.godebug = none := by kernel_rfl
theorem laidOut : laidOutB Tryz.prog = true := by kernel_rfl
abbrev tabs : List (String × DataW Unit) := [("math/bits.deBruijn32tab", Rows.laid_math_bits_deBruijn32tab), ("math/bits.deBruijn64tab", Rows.laid_math_bits_deBruijn64tab)]
abbrev tab64 : List Int := Lib.deBruijn64tab.map fun (n : Nat) => (n : Int)
theorem tab64_eq : (Rows.laid_math_bits_deBruijn64tab : DataW Unit) = Lib.tabData .u8 tab64 := by kernel_rfl
theorem laidMet_next {P : Program} {x : String × DataW Unit} {r : List (String × DataW Unit)} {w : World} (h : laidMet P (x :: r) w) : laidMet P r w := by
 obtain ⟨ps, ⟨g, t, cs, fuel, p, q, _, _, _, _, h1, rfl⟩, hn, hp⟩ := h
 refine ⟨q, h1, ?_, fun b off hm => hp b off (List.mem_append.2 (.inr hm))⟩
 exact (List.nodup_append.1 hn).2.1
theorem tab64_of {W : World} (h : laidMet Tryz.prog tabs W) : Lib.TabIs Tryz.prog W "math/bits.deBruijn64tab" .u8 tab64 := by
 have h1 := laidMet_next h
 rw [tab64_eq] at h1
 exact Lib.tabIs_of_head (g := 1) (t := 233) (e := 5) (n := 64) (by kernel_rfl) (by kernel_rfl) (by kernel_rfl) (by kernel_rfl) (by kernel_rfl) (by kernel_rfl) h1
theorem tab_get : ∀ j : Fin 64, (tab64.map fun z => Value.int .u8 z)[j.val]? = some (Value.int .u8 ((Lib.deBruijn64tab.getD j.val 0 : Nat) : Int)) := by
 intro j
 simp only [tab64, List.getElem?_map]
 have h : Lib.deBruijn64tab[j.val]? = some (Lib.deBruijn64tab.getD j.val 0) := by
  have hl : Lib.deBruijn64tab.length = 64 := by decide
  have hj := j.isLt
  rw [List.getD_eq_getElem?_getD, List.getElem?_eq_getElem (by omega)]
  rfl
 rw [h]
 rfl
theorem glob_of {W : World} (h : laidMetH Tryz.prog tabs W) : Glob.pre (allS W) := by
 rw [MakeChecks.laidMetH_plain _ _ _ (by kernel_rfl)] at h
 intro w hw j hj
 have ht := tab64_of h
 unfold Lib.TabIs World.var? at ht
 have hg : Tryz.prog.globalNamed "math/bits.deBruijn64tab" = some 1 := by kernel_rfl
 rw [hg] at ht
 simp only [Option.bind_some] at ht
 have hl : Lib.deBruijn64tab.length = 64 := by decide
 have hget := tab_get ⟨j, by omega⟩
 cases hb : W.heap[1]? with
 | none => rw [hb] at ht; simp at ht
 | some o =>
  have hb' := hw 1 o hb
  rw [hb] at ht
  unfold World.cell?
  simp only
  rw [hb']
  cases o with
  | cells cs t x =>
   simp only at ht ⊢
   cases ht
   have e : ((tab64.map fun z => Value.int .u8 z).toArray)[j]? = (tab64.map fun z => Value.int .u8 z)[j]? := by simp
   rw [hget] at e
   simpa using e
  | _ => simp at ht
theorem shaped_tabs {os : Os} {args : Array Value} : ((World.laidAll Tryz.prog os tabs).forCall (fun _ _ => 0) ⟨#[], args, []⟩).Shaped Tryz.prog :=
 World.shaped_of_ZipB (by kernel_rfl) (by kernel_rfl)
theorem met_tabs (os : Os) (args : Array Value) : laidMetH Tryz.prog tabs ((World.laidAll Tryz.prog os tabs).forCall (fun _ _ => 0) ⟨#[], args, []⟩).memory := by
 rw [MakeChecks.laidMetH_plain _ _ _ (by kernel_rfl)]; exact laidMet_laidAll _ (by kernel_rfl) (by kernel_rfl)
end Go.Proofs.YtpopildnbgbhlaaGreatDoor
namespace Go.Proofs.YtpopildnbgbhlaaGreatDoor.allocGives
open Go Go.Sy Go.RowKit Go.Proofs.Zz Go.ChangeShapes
set_option linter.unusedVariables false
set_option maxRecDepth 100000
theorem lifted (os : Os) (started : os.Started) (H : Type) (enc : TypeId × Value → H) :
  ReturnsInHanded {} Tryz.checked os 9 .any (fun w args => (Rows.allocGivesSpec.pre enc Tryz.prog Tryz.f9 [] false w args ∧ laidMetH Tryz.prog tabs w) ∧ sizedMet enc Tryz.prog Tryz.f9 (OpenSpec.ofChange Rows.allocGivesSpec) false w args)
   (Rows.allocGivesSpec.post enc Tryz.prog Tryz.f9 false true false false) :=
 law_lifted (C := Tryz.checked) (X := fun w _ => laidMetH Tryz.prog tabs w) (Ts := ps9) (F := con9.f) (ts := [32, 3]) (tb := 4) (fun _ _ _ hh h => h.of_heap hh) own started (by kernel_rfl) Tryz.func9
  (ChangeSpec.witness_shaped (enc := enc) (C := Tryz.checked) (os := os) (X := fun w _ => laidMetH Tryz.prog tabs w) false (World.laidAll Tryz.prog os tabs) #[.agg #[.int .i64 0, .int .i64 0, .int .i64 0, .int .i64 0, .int .i64 0, .int .i64 0, .int .i64 0, .int .i64 0, .int .i64 0, .int .i64 0, .int .i64 0, .bool false, .int .i64 0, .slice none 0 0, .slice none 0 0, .slice none 0 0], .int .i64 0] 8 (World.laidAll_os _ _ _)
   shaped_tabs (by kernel_rfl) (by kernel_rfl) (by kernel_rfl) (met_tabs os _))
  (fun W _ hs h => glob_of h) laidOut k9 Tryz.params9 (by kernel_rfl) Tryz.underlying4
  (fun t ht => by
   have h : ([32, 3].all fun t => Tryz.prog.readableRec t && decide (t < Tryz.prog.types.size)) = true := by kernel_rfl
   have := List.all_eq_true.1 h t ht
   rw [Bool.and_eq_true, decide_eq_true_eq] at this
   exact this)
  ⟨by kernel_rfl, by kernel_rfl, trivial⟩ rfl (fun ds hds => by
   match ds, hds with
   | [d1, d2], _ => rfl)
  (fun x hx => f9_true x.1 x.2.1)
theorem holds : Rows.AllocGivesSaid :=
 OpenClaim.holds_of_wide 9 Tryz.f9 rfl rfl rfl rfl rfl rfl rfl ⟨rfl, rfl, rfl, rfl, rfl⟩ rfl rfl rfl rfl rfl (by kernel_rfl) Tryz.func9 (by kernel_rfl)
  (of_decide_eq_true (by kernel_rfl)) (by unfold Func.isWrapper; first | (rw [if_pos (by decide +kernel)]; kernel_rfl) | (rw [if_neg (by decide +kernel)]; exact ⟨rfl, rfl⟩))
  (fun os started H enc _ => lifted os started H enc)
theorem card_holds : Rows.AllocGivesCardSaid :=
 Claim7.holds_tied_plain_at .later [] [.data, .data] true _ true holds (fun _ h => by cases h) (by kernel_rfl) (fun _ h => by cases h) allocGives_row_tie rfl ⟨rfl, rfl⟩ (by kernel_rfl) rfl
  (fun f fn hf hfn => by
   obtain rfl : f = 9 := Option.some.inj ((show Tryz.prog.funcNamed "moorings/mooringslaw13.AllocGives" = some 9 by kernel_rfl).symm.trans hf) |>.symm
   obtain rfl : fn = Tryz.f9 := (Option.some.inj (Tryz.func9.symm.trans hfn)).symm
   exact ⟨by kernel_rfl, fun j t ht => by
    rw [Tryz.params9] at ht
    have hm : t ∈ [32, 3] := by simpa using Array.mem_of_getElem? ht
    have hall : ([32, 3].all fun u => !Tryz.prog.wantsStandIn u) = true := by kernel_rfl
    exact (show Tryz.prog.wantsStandIn t = false by simpa using List.all_eq_true.1 hall t hm)⟩)
  (by kernel_rfl)
end Go.Proofs.YtpopildnbgbhlaaGreatDoor.allocGives
namespace Go.Proofs.YtpopildnbgbhlaaGreatDoor
theorem allocGives_holds : Rows.AllocGivesCardSaid := allocGives.card_holds
end Go.Proofs.YtpopildnbgbhlaaGreatDoor
