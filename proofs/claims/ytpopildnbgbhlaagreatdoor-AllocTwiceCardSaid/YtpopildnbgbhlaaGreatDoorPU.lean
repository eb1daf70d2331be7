/- Pure13, Pure13w, Pure13x, Pure13c. -/
import Derived.Test.YtpopildnbgbhlaaGreatDoorFG
namespace Go.Proofs.Zz
open Go Go.Sy
set_option linter.unusedVariables false
set_option maxRecDepth 100000
abbrev DT26 : Type := Int × Int
abbrev DT0 : Type := List DT26
abbrev DT1 : Type := List (Int × Int × Int)
abbrev DT28 : Type := Int × DT0 × Unit
abbrev DT29 : Type := Int × Unit × Unit
abbrev DT22 : Type := Int × Unit × Unit × Unit × Unit × Unit × Unit × Unit × Unit × Unit
abbrev DT2 : Type := DT28 × DT29 × DT22 × DT0 × DT0 × DT0 × DT0 × DT0 × DT0 × DT0 × DT0 × DT0 × DT0 × DT0 × DT0 × DT0 × DT0 × DT0 × DT0 × DT0 × DT0 × DT29 × Unit
abbrev DT15 : Type := Int × Unit
abbrev DT16 : Type := Int × Int × Unit
abbrev DT3 : Type := DT28 × DT15 × DT29 × DT0 × DT22 × DT0 × DT0 × DT0 × DT0 × DT0 × DT0 × DT0 × DT0 × DT16 × DT0 × DT29 × Unit
abbrev DT4 : Type := List (Int × Int × Int × Int × Int)
abbrev DT5 : Type := DT28 × DT29 × DT22 × DT0 × DT0 × DT0 × DT0 × DT0 × DT0 × DT0 × DT0 × DT0 × Unit
abbrev DT14 : Type := Int × Int × Int × Int × Int × Int × Int × Int × Int × Int × Int × Bool × Int × DT1 × DT4 × DT1 × Unit
abbrev DT17 : Type := Int × Int × Int × Unit
abbrev DT6 : Type := DT14 × (Int × Int × Int × Int × Int × Int × Int × Int × Bool × Unit) × (Int × Int × Int × Int × Int × Int × Int × Int × Int × Int × Int × Bool × Int × Unit × Unit × Unit × Unit) × (Unit × Unit) × DT17 × (Unit × Unit × Unit × Unit × Unit × Unit × Unit × Unit × Unit × Unit) × DT1 × DT4 × DT1 × (Int × Int × Int × Int × Int × Int × Int × Int × Int × Int × Int × Bool × Int × Unit × Unit × Unit × Int × Int × Int × Int × Int × Int × Int × Int × Bool × Unit × Int × Int × Int × Unit) × Unit
abbrev DT7 : Type := List (Int × Int × Int × Int × Int × Int × Int × Int × Bool)
abbrev DT8 : Type := Unit × Unit × Unit × Unit × Unit × Unit × Int × Int × Unit
abbrev DT9 : Type := Unit × Unit × Unit × Unit × Unit × Unit × Unit × Unit × Unit × Unit × Unit × Unit × Unit × Unit × Unit × Unit × Unit × Unit × Unit × Unit × Unit × Unit × Unit
abbrev DT10 : Type := Unit × Unit × Unit × Unit × Unit × Unit
abbrev DT11 : Type := Unit × Unit × Unit × Unit × Unit × Unit × Unit × Unit × Unit × Unit × Unit × Unit × Unit × Unit × Unit × Unit × Unit
abbrev DT12 : Type := DT14 × (Int × Int × Int × Int × Int × Int × Int × Int × Bool × Unit) × (Int × Int × Int × Int × Int × Int × Int × Int × Int × Int × Int × Bool × Int × Unit × Unit × Unit × Unit) × (Unit × Unit) × DT17 × (Unit × Unit × Unit × Unit × Unit × Unit × Unit × Unit × Unit × Unit) × DT1 × DT4 × DT1 × (Int × Int × Int × Int × Int × Int × Int × Int × Int × Int × Int × Bool × Int × Unit × Unit × Unit × Int × Int × Int × Int × Int × Int × Int × Int × Bool × Unit × Int × Int × Int × Unit) × DT28 × Unit
abbrev DT13 : Type := Unit × Unit × Unit × Unit × Unit × Unit × Unit × Unit × Unit × Unit × Unit × Unit × Unit
abbrev DT18 : Type := Bool × Unit
abbrev DT19 : Type := (DT26 × DT26 × Int × Int × Int × Int) × (Int × Int × Int × Bool) × Int × DT1 × DT4 × DT1
abbrev DT25 : Type := List Int
abbrev DT20 : Type := Int × Int × Int × Int × Int × Int × DT25 × Unit
abbrev DT21 : Type := DT16 × (Unit × Unit) × Unit
abbrev DT23 : Type := DT16 × DT15 × DT16 × (Unit × Unit × Unit × Unit × Unit × Unit × Unit × Unit × Unit) × Unit
abbrev DT24 : Type := Unit × Unit × Unit × Unit × Unit × Unit × Unit × Unit × Unit × Unit × Unit
abbrev DT27 : Type := DT14 × (Int × Int × Int × Int × Int × Int × Int × Int × Int × Int × Int × Bool × Int × Unit × Unit × Unit × Unit) × Unit
abbrev DT30 : Type := Unit × Unit × Int × Int × Unit
abbrev DT31 : Type := DT16 × DT16 × Unit
abbrev DT32 : Type := DT20 × (DT1 × Unit) × DT17 × DT17 × Unit
abbrev DT33 : Type := DT17 × DT1 × Unit
abbrev DT34 : Type := DT15 × DT1 × Unit
abbrev DT35 : Type := DT1 × Int × Unit
abbrev DT36 : Type := DT20 × (DT1 × Unit) × DT17 × Unit
abbrev dT0 : Ty := .pair (.int .i64) (.int .i64)
abbrev dT2 : Ty := .pair (.int .i64) dT0
abbrev dT1 : Ty := .pair (.int .i64) (.pair (.int .i64) dT2)
abbrev dT3 : Ty := .pair (.int .i64) (.pair (.int .i64) (.pair (.int .i64) (.pair (.int .i64) (.pair (.int .i64) (.pair (.int .i64) (.pair (.int .i64) (.pair (.int .i64) .bool)))))))
noncomputable def f44 (v1 v2 v3 : Int) : Option DT18 :=
 cond (decide (v2 ≤ v1)) (
  some ((decide (v1 ≤ v3)), ())) (
  some (false, ()))
noncomputable def f28 (v1 v2 v3 : Int) (v4 : Bool) : Option DT18 :=
 ((f44 v1 1 8)).bind fun y5 =>
 cond y5.1 (
  ((f44 v2 1 1048576)).bind fun y6 =>
  cond y6.1 (
   ((f44 v3 0 1048576)).bind fun y7 =>
   some (y7.1, ())) (
   some (false, ()))) (
  some (false, ()))
noncomputable def f80 (v1 v2 v3 : Int) : Option DT18 :=
 cond (decide (v2 ≤ v1)) (
  some ((decide (v1 ≤ v3)), ())) (
  some (false, ()))
noncomputable def f95 (v1 v2 : Int) : Option DT18 :=
 cond (decide (0 ≤ v2)) (
  cond (decide (v2 ≤ 32)) (
   cond (decide (0 ≤ v1)) (
    cond (decide (v1 < 4294967296)) (
     cond (!(decide ((IntKind.wrap .i64 (32 - v2)) < 0))) (
      some ((decide ((bitop .and .i64 v1 (IntKind.wrap .i64 ((IntKind.wrap .i64 (1 * ((2 : Int) ^ ((min (Int.toNat (IntKind.wrap .i64 (32 - v2))) 64) : Nat)))) - 1))) = 0)), ())) (
      none)) (
     some (false, ()))) (
    some (false, ()))) (
   some (false, ()))) (
  some (false, ()))
noncomputable def f49 (v1 v2 : Int) : Option DT15 :=
 ((f95 v1 v2)).bind fun y3 =>
 cond (!y3.1) (
  some (0, ())) (
  cond (!(decide ((IntKind.wrap .i64 (32 - v2)) < 0))) (
   some ((IntKind.wrap .i64 (1 * ((2 : Int) ^ ((min (Int.toNat (IntKind.wrap .i64 (32 - v2))) 64) : Nat)))), ())) (
   none))
noncomputable def f118 (v1 v2 v3 : Int) : Option DT15 :=
 ((f95 v1 v2)).bind fun y4 =>
 cond (!y4.1) (
  some ((-1), ())) (
  cond (decide (v3 < 0)) (
   some ((-1), ())) (
   cond (decide (4294967296 ≤ v3)) (
    some ((-1), ())) (
    cond (!(decide ((IntKind.wrap .i64 (32 - v2)) < 0))) (
     cond (!(decide ((Int.fdiv (bitop .xor .i64 v3 v1) ((2 : Int) ^ ((min (Int.toNat (IntKind.wrap .i64 (32 - v2))) 64) : Nat))) = 0))) (
      some ((-1), ())) (
      some ((IntKind.wrap .i64 (v3 - v1)), ()))) (
     none))))
noncomputable def f83 (v1 v2 v3 v4 : Int) : Option DT18 :=
 ((f95 v1 v2)).bind fun y5 =>
 cond y5.1 (
  ((f95 v3 v4)).bind fun y6 =>
  cond y6.1 (
   ((f118 v1 v2 v3)).bind fun y7 =>
   cond (!(decide (y7.1 = (-1)))) (
    some (true, ())) (
    ((f118 v3 v4 v1)).bind fun y8 =>
    some ((!(decide (y8.1 = (-1)))), ()))) (
   some (false, ()))) (
  some (false, ()))
noncomputable def f51 (v1 v2 v3 v4 v5 v6 v7 v8 : Int) : Option DT15 :=
 ((f49 v1 v2)).bind fun y9 =>
 ((f49 v3 v4)).bind fun y10 =>
 cond (decide ((cond (decide (y10.1 < y9.1)) y10.1 y9.1) = 0)) (
  some (0, ())) (
  cond (!(decide (y10.1 = 0))) (
   some ((IntKind.wrap .i64 ((IntKind.wrap .i64 (Int.tdiv (IntKind.wrap .i64 (y9.1 - 1)) y10.1)) + 1)), ())) (
   none))
noncomputable def f87 (v1 v2 v3 v4 v5 v6 v7 v8 : Int) : Option DT15 :=
 some ((IntKind.wrap .i64 ((IntKind.wrap .i64 ((IntKind.wrap .i64 (v6 - v5)) + 1)) - v7)), ())
noncomputable def f43 (v1 v2 v3 v4 v5 v6 v7 v8 : Int) : Option DT18 :=
 ((f49 v1 v2)).bind fun y9 =>
 ((f80 y9.1 1 32)).bind fun y10 =>
 cond y10.1 (
  ((f49 v3 v4)).bind fun y11 =>
  ((f80 y11.1 1 4)).bind fun y12 =>
  cond (!y12.1) (
   some (false, ())) (
   ((f83 v1 v2 v3 v4)).bind fun y13 =>
   cond (!(!y13.1)) (
    some (false, ())) (
    ((f80 v5 1 v6)).bind fun y14 =>
    cond y14.1 (
     cond (!(decide (v6 ≤ 65535))) (
      some (false, ())) (
      ((f80 v7 0 (IntKind.wrap .i64 (v6 - v5)))).bind fun y15 =>
      cond y15.1 (
       ((f80 v8 1 65535)).bind fun y16 =>
       cond y16.1 (
        cond (!(decide (v8 = 0))) (
         cond (!(decide ((IntKind.wrap .i64 (Int.tdiv v7 v8)) ≤ 8))) (
          some (false, ())) (
          ((f87 v1 v2 v3 v4 v5 v6 v7 v8)).bind fun y17 =>
          ((f51 v1 v2 v3 v4 v5 v6 v7 v8)).bind fun y18 =>
          cond (!(decide (y18.1 ≤ y17.1))) (
           some (false, ())) (
           some (true, ())))) (
         none)) (
        some (false, ()))) (
       some (false, ())))) (
     some (false, ()))))) (
  some (false, ()))
noncomputable def f91 (v1 v2 v3 v4 v5 v6 : Int) : Option DT18 :=
 cond (decide (v1 < (IntKind.wrap .i64 (v4 + v5)))) (
  some ((decide (v4 < (IntKind.wrap .i64 (v1 + v2)))), ())) (
  some (false, ()))
noncomputable def f92 (v1 v2 v3 v4 : Int) : Option DT18 :=
 cond (decide (0 ≤ v1)) (
  cond (decide (1 ≤ v2)) (
   cond (decide (v1 < v4)) (
    cond (decide (v2 ≤ (IntKind.wrap .i64 (v4 - v1)))) (
     cond (decide (0 ≤ v3)) (
      some ((decide (v3 < 2)), ())) (
      some (false, ()))) (
     some (false, ()))) (
    some (false, ()))) (
   some (false, ()))) (
  some (false, ()))
abbrev X45_4 : Type := (DT1 × Int × DT1 × Int × Int × Unit) × (Unit) × (Unit)
abbrev X45_53_2_0 : Type := (DT1 × Unit × Int × Int × Unit) × (DT17 × Unit) × (Unit)
abbrev Y45_53_2_0 : Type := (Unit) × (DT17 × Unit) × (Unit)
abbrev Z45_53_2_0 : Type := DT15 × (DT17 × Unit) × (Unit)
noncomputable def t45_53_2_0 (v1 : DT1) (v2 v3 v4 v5 v6 : Int) : Option (R3 X45_53_2_0 Y45_53_2_0 Z45_53_2_0) :=
 cond (decide (v3 < v2)) (
  cond ((decide (0 ≤ v3)) && (decide (v3 < (v1.length : Int)))) (
   ((f91 v4 v5 v6 (rd dT2 v1 (Int.toNat v3)).1 (rd dT2 v1 (Int.toNat v3)).2.1 (rd dT2 v1 (Int.toNat v3)).2.2)).bind fun y7 =>
   cond y7.1 (
    some (R3.ret ((v3, ()), ((v4, v5, v6, ()), ()), ()))) (
    some (R3.next ((v1, (), v2, (IntKind.wrap .i64 (v3 + 1)), ()), ((v4, v5, v6, ()), ()), ())))) (
   none)) (
  some (R3.out ((), ((v4, v5, v6, ()), ()), ())))
noncomputable def u45_53_2_0 (z : X45_53_2_0) : Option (R3 X45_53_2_0 Y45_53_2_0 Z45_53_2_0) := t45_53_2_0 z.1.1 z.1.2.2.1 z.1.2.2.2.1 z.2.1.1.1 z.2.1.1.2.1 z.2.1.1.2.2.1
abbrev Y45_4 : Type := (Unit) × (Unit) × (Unit)
abbrev Z45_4 : Type := DT18 × (Unit) × (Unit)
noncomputable def t45_4 (v1 : DT1) (v2 : Int) (v3 : DT1) (v4 v5 : Int) : Option (R3 X45_4 Y45_4 Z45_4) :=
 cond (decide (v5 < v4)) (
  cond ((decide (0 ≤ v5)) && (decide (v5 < (v3.length : Int)))) (
   ((f92 (rd dT2 v3 (Int.toNat v5)).1 (rd dT2 v3 (Int.toNat v5)).2.1 (rd dT2 v3 (Int.toNat v5)).2.2 v2)).bind fun y6 =>
   cond (!y6.1) (
    some (R3.ret ((false, ()), (), ()))) (
    cond ((decide (0 ≤ v5)) && (decide (v5 ≤ (v1.length : Int)))) (
     ((iter big u45_53_2_0 (((List.drop 0 (List.take (Int.toNat v5) v1)), (), (((List.drop 0 (List.take (Int.toNat v5) v1)).length : Nat) : Int), 0, ()), (((rd dT2 v3 (Int.toNat v5)).1, (rd dT2 v3 (Int.toNat v5)).2.1, (rd dT2 v3 (Int.toNat v5)).2.2, ()), ()), ()))).bind fun r => match r with
     | .inl y7 =>
       some (R3.next ((v1, v2, v3, v4, (IntKind.wrap .i64 (v5 + 1)), ()), (), ()))
     | .inr z8 =>
       cond (decide (0 ≤ z8.1.1)) (
        some (R3.ret ((false, ()), (), ()))) (
        some (R3.next ((v1, v2, v3, v4, (IntKind.wrap .i64 (v5 + 1)), ()), (), ())))) (
     none))) (
   none)) (
  some (R3.out ((), (), ())))
noncomputable def u45_4 (z : X45_4) : Option (R3 X45_4 Y45_4 Z45_4) := t45_4 z.1.1 z.1.2.1 z.1.2.2.1 z.1.2.2.2.1 z.1.2.2.2.2.1
noncomputable def f45 (v1 : DT1) (v2 : Int) : Option DT18 :=
 cond (decide (v2 < 0)) (
  some (false, ())) (
  cond (decide (4 < v2)) (
   some (false, ())) (
   cond (decide (3 < (v1.length : Int))) (
    some (false, ())) (
    ((iter big u45_4 ((v1, v2, v1, (v1.length : Int), 0, ()), (), ()))).bind fun r => match r with
    | .inl y3 =>
      some (true, ())
    | .inr z4 =>
      some (z4.1.1, ()))))
noncomputable def f46 (v1 v2 v3 v4 v5 v6 v7 v8 v9 v10 v11 : Int) (v12 : Bool) (v13 : Int) (v14 : DT1) (v15 : DT4) (v16 : DT1) : Option DT15 :=
 ((f49 v3 v4)).bind fun y17 =>
 some (y17.1, ())
noncomputable def f50 (v1 v2 v3 v4 v5 v6 v7 v8 : Int) : Option DT15 :=
 ((f43 v1 v2 v3 v4 v5 v6 v7 v8)).bind fun y9 =>
 cond (!y9.1) (
  some (0, ())) (
  cond (!(decide (v8 = 0))) (
   some ((IntKind.wrap .i64 (Int.tdiv v7 v8)), ())) (
   none))
noncomputable def f18 (v1 v2 v3 v4 v5 v6 v7 v8 v9 v10 : Int) : Option ((Int × Int × Int) × Bool × Unit) :=
 cond (decide (v9 < 0)) (
  some ((0, 0, 0), false, ())) (
  ((f49 v3 v4)).bind fun y11 =>
  cond (decide (y11.1 ≤ v9)) (
   some ((0, 0, 0), false, ())) (
   cond (decide (v10 < 0)) (
    some ((0, 0, 0), false, ())) (
    ((f50 v1 v2 v3 v4 v5 v6 v7 v8)).bind fun y12 =>
    cond (decide (y12.1 ≤ v10)) (
     some ((0, 0, 0), false, ())) (
     some ((v9, (IntKind.wrap .i64 ((IntKind.wrap .i64 ((IntKind.wrap .i64 (v6 - v7)) + 1)) + (IntKind.wrap .i64 (v10 * v8)))), (IntKind.wrap .i64 ((IntKind.wrap .i64 ((IntKind.wrap .i64 ((IntKind.wrap .i64 ((IntKind.wrap .i64 (v6 - v7)) + 1)) + (IntKind.wrap .i64 (v10 * v8)))) + v8)) - 1))), true, ())))))
noncomputable def f52 (v1 v2 v3 v4 v5 v6 v7 v8 : Int) : Option DT15 :=
 ((f43 v1 v2 v3 v4 v5 v6 v7 v8)).bind fun y9 =>
 cond (!y9.1) (
  some (0, ())) (
  ((f87 v1 v2 v3 v4 v5 v6 v7 v8)).bind fun y10 =>
  ((f51 v1 v2 v3 v4 v5 v6 v7 v8)).bind fun y11 =>
  cond (!(decide (y11.1 = 0))) (
   some ((IntKind.wrap .i64 (Int.tdiv y10.1 y11.1)), ())) (
   none))
noncomputable def f19 (v1 v2 v3 v4 v5 v6 v7 v8 v9 : Int) : Option ((Int × Int × Int) × Bool × Unit) :=
 ((f43 v1 v2 v3 v4 v5 v6 v7 v8)).bind fun y10 =>
 cond (!y10.1) (
  some ((0, 0, 0), false, ())) (
  cond (decide (v9 < 0)) (
   some ((0, 0, 0), false, ())) (
   ((f49 v1 v2)).bind fun y11 =>
   cond (decide (y11.1 ≤ v9)) (
    some ((0, 0, 0), false, ())) (
    ((f51 v1 v2 v3 v4 v5 v6 v7 v8)).bind fun y12 =>
    ((f52 v1 v2 v3 v4 v5 v6 v7 v8)).bind fun y13 =>
    cond (!(decide (y12.1 = 0))) (
     cond (!(decide (y12.1 = 0))) (
      some (((IntKind.wrap .i64 (Int.tdiv v9 y12.1)), (IntKind.wrap .i64 (v5 + (IntKind.wrap .i64 ((Int.tmod v9 y12.1) * y13.1)))), (IntKind.wrap .i64 ((IntKind.wrap .i64 ((IntKind.wrap .i64 (v5 + (IntKind.wrap .i64 ((Int.tmod v9 y12.1) * y13.1)))) + y13.1)) - 1))), true, ())) (
      none)) (
     none))))
noncomputable def f55 (v1 v2 v3 v4 : Int) : Option DT18 :=
 cond (decide (0 ≤ v1)) (
  cond (decide (v1 ≤ 4)) (
   cond (decide (1 ≤ v2)) (
    cond (decide (v2 ≤ 4)) (
     cond (decide (v1 ≤ v4)) (
      some ((decide (v4 < (IntKind.wrap .i64 (v1 + v2)))), ())) (
      some (false, ()))) (
     some (false, ()))) (
    some (false, ()))) (
   some (false, ()))) (
  some (false, ()))
abbrev X20_53_2_0 : Type := (DT1 × Unit × Int × Int × Unit) × (DT15 × Unit) × (Unit)
abbrev Y20_53_2_0 : Type := (Unit) × (DT15 × Unit) × (Unit)
abbrev Z20_53_2_0 : Type := DT15 × (DT15 × Unit) × (Unit)
noncomputable def t20_53_2_0 (v1 : DT1) (v2 v3 v4 : Int) : Option (R3 X20_53_2_0 Y20_53_2_0 Z20_53_2_0) :=
 cond (decide (v3 < v2)) (
  cond ((decide (0 ≤ v3)) && (decide (v3 < (v1.length : Int)))) (
   ((f55 (rd dT2 v1 (Int.toNat v3)).1 (rd dT2 v1 (Int.toNat v3)).2.1 (rd dT2 v1 (Int.toNat v3)).2.2 v4)).bind fun y5 =>
   cond y5.1 (
    some (R3.ret ((v3, ()), ((v4, ()), ()), ()))) (
    some (R3.next ((v1, (), v2, (IntKind.wrap .i64 (v3 + 1)), ()), ((v4, ()), ()), ())))) (
   none)) (
  some (R3.out ((), ((v4, ()), ()), ())))
noncomputable def u20_53_2_0 (z : X20_53_2_0) : Option (R3 X20_53_2_0 Y20_53_2_0 Z20_53_2_0) := t20_53_2_0 z.1.1 z.1.2.2.1 z.1.2.2.2.1 z.2.1.1.1
noncomputable def f20 (v1 : DT1) (v2 : Int) : Option DT15 :=
 ((iter big u20_53_2_0 ((v1, (), (v1.length : Int), 0, ()), ((v2, ()), ()), ()))).bind fun r => match r with
 | .inl y3 =>
   some ((-1), ())
 | .inr z4 =>
   some (z4.1.1, ())
noncomputable def f94 (v1 v2 v3 v4 : Int) : Option DT18 :=
 cond (decide (v3 < v1)) (
  some (true, ())) (
  cond (decide (v1 = v3)) (
   some ((decide (v4 < v2)), ())) (
   some (false, ())))
abbrev X47_3 : Type := (Unit × Unit × DT4 × Int × Int × Unit) × (DT14 × DT0 × Unit) × (Unit)
abbrev Y47_3 : Type := (Unit × Unit) × (DT14 × Unit) × (Unit)
abbrev Z47_3 : Type := DT18 × (Unit) × (Unit)
noncomputable def t47_3 (v1 : DT4) (v2 v3 v4 v5 v6 v7 v8 v9 v10 v11 v12 v13 v14 : Int) (v15 : Bool) (v16 : Int) (v17 : DT1) (v18 : DT4) (v19 : DT1) (v20 : DT0) : Option (R3 X47_3 Y47_3 Z47_3) :=
 cond (decide (v3 < v2)) (
  cond ((decide (0 ≤ v3)) && (decide (v3 < (v1.length : Int)))) (
   ((f19 v4 v5 v6 v7 v8 v9 v10 v11 (rd dT1 v1 (Int.toNat v3)).1)).bind fun y21 =>
   ((f18 v4 v5 v6 v7 v8 v9 v10 v11 (rd dT1 v1 (Int.toNat v3)).2.1 (rd dT1 v1 (Int.toNat v3)).2.2.1)).bind fun y22 =>
   cond (!y21.2.1) (
    some (R3.ret ((false, ()), (), ()))) (
    cond (!y22.2.1) (
     some (R3.ret ((false, ()), (), ()))) (
     ((f20 v17 (rd dT1 v1 (Int.toNat v3)).2.1)).bind fun y23 =>
     cond (decide (y23.1 = (-1))) (
      some (R3.ret ((false, ()), (), ()))) (
      cond v15 (
       cond (!(decide (y21.1.1 = (rd dT1 v1 (Int.toNat v3)).2.1))) (
        some (R3.ret ((false, ()), (), ()))) (
        cond (decide (v12 < (mVal (mPut v20 (rd dT1 v1 (Int.toNat v3)).1 (IntKind.wrap .i64 ((mVal v20 (rd dT1 v1 (Int.toNat v3)).1) + 1))) (rd dT1 v1 (Int.toNat v3)).1))) (
         some (R3.ret ((false, ()), (), ()))) (
         cond (decide ((rd dT1 v1 (Int.toNat v3)).2.2.2.1 < 0)) (
          some (R3.ret ((false, ()), (), ()))) (
          cond (decide ((rd dT1 v1 (Int.toNat v3)).2.2.2.2 < (rd dT1 v1 (Int.toNat v3)).2.2.2.1)) (
           some (R3.ret ((false, ()), (), ()))) (
           cond (decide (v16 < (rd dT1 v1 (Int.toNat v3)).2.2.2.2)) (
            some (R3.ret ((false, ()), (), ()))) (
            cond (decide ((rd dT1 v1 (Int.toNat v3)).2.2.2.2 ≤ (IntKind.wrap .i64 (v16 - v13)))) (
             some (R3.ret ((false, ()), (), ()))) (
             cond (decide (0 < v3)) (
              cond ((decide (0 ≤ (IntKind.wrap .i64 (v3 - 1)))) && (decide ((IntKind.wrap .i64 (v3 - 1)) < (v18.length : Int)))) (
               cond ((decide (0 ≤ (IntKind.wrap .i64 (v3 - 1)))) && (decide ((IntKind.wrap .i64 (v3 - 1)) < (v18.length : Int)))) (
                ((f94 (rd dT1 v1 (Int.toNat v3)).2.1 (rd dT1 v1 (Int.toNat v3)).2.2.1 (rd dT1 v18 (Int.toNat (IntKind.wrap .i64 (v3 - 1)))).2.1 (rd dT1 v18 (Int.toNat (IntKind.wrap .i64 (v3 - 1)))).2.2.1)).bind fun y24 =>
                cond (!y24.1) (
                 some (R3.ret ((false, ()), (), ()))) (
                 some (R3.next (((), (), v1, v2, (IntKind.wrap .i64 (v3 + 1)), ()), ((v4, v5, v6, v7, v8, v9, v10, v11, v12, v13, v14, v15, v16, v17, v18, v19, ()), (mPut v20 (rd dT1 v1 (Int.toNat v3)).1 (IntKind.wrap .i64 ((mVal v20 (rd dT1 v1 (Int.toNat v3)).1) + 1))), ()), ())))) (
                none)) (
               none)) (
              some (R3.next (((), (), v1, v2, (IntKind.wrap .i64 (v3 + 1)), ()), ((v4, v5, v6, v7, v8, v9, v10, v11, v12, v13, v14, v15, v16, v17, v18, v19, ()), (mPut v20 (rd dT1 v1 (Int.toNat v3)).1 (IntKind.wrap .i64 ((mVal v20 (rd dT1 v1 (Int.toNat v3)).1) + 1))), ()), ())))))))))) (
       cond (decide (v12 < (mVal (mPut v20 (rd dT1 v1 (Int.toNat v3)).1 (IntKind.wrap .i64 ((mVal v20 (rd dT1 v1 (Int.toNat v3)).1) + 1))) (rd dT1 v1 (Int.toNat v3)).1))) (
        some (R3.ret ((false, ()), (), ()))) (
        cond (decide ((rd dT1 v1 (Int.toNat v3)).2.2.2.1 < 0)) (
         some (R3.ret ((false, ()), (), ()))) (
         cond (decide ((rd dT1 v1 (Int.toNat v3)).2.2.2.2 < (rd dT1 v1 (Int.toNat v3)).2.2.2.1)) (
          some (R3.ret ((false, ()), (), ()))) (
          cond (decide (v16 < (rd dT1 v1 (Int.toNat v3)).2.2.2.2)) (
           some (R3.ret ((false, ()), (), ()))) (
           cond (decide ((rd dT1 v1 (Int.toNat v3)).2.2.2.2 ≤ (IntKind.wrap .i64 (v16 - v13)))) (
            some (R3.ret ((false, ()), (), ()))) (
            cond (decide (0 < v3)) (
             cond ((decide (0 ≤ (IntKind.wrap .i64 (v3 - 1)))) && (decide ((IntKind.wrap .i64 (v3 - 1)) < (v18.length : Int)))) (
              cond ((decide (0 ≤ (IntKind.wrap .i64 (v3 - 1)))) && (decide ((IntKind.wrap .i64 (v3 - 1)) < (v18.length : Int)))) (
               ((f94 (rd dT1 v1 (Int.toNat v3)).2.1 (rd dT1 v1 (Int.toNat v3)).2.2.1 (rd dT1 v18 (Int.toNat (IntKind.wrap .i64 (v3 - 1)))).2.1 (rd dT1 v18 (Int.toNat (IntKind.wrap .i64 (v3 - 1)))).2.2.1)).bind fun y25 =>
               cond (!y25.1) (
                some (R3.ret ((false, ()), (), ()))) (
                some (R3.next (((), (), v1, v2, (IntKind.wrap .i64 (v3 + 1)), ()), ((v4, v5, v6, v7, v8, v9, v10, v11, v12, v13, v14, v15, v16, v17, v18, v19, ()), (mPut v20 (rd dT1 v1 (Int.toNat v3)).1 (IntKind.wrap .i64 ((mVal v20 (rd dT1 v1 (Int.toNat v3)).1) + 1))), ()), ())))) (
               none)) (
              none)) (
             some (R3.next (((), (), v1, v2, (IntKind.wrap .i64 (v3 + 1)), ()), ((v4, v5, v6, v7, v8, v9, v10, v11, v12, v13, v14, v15, v16, v17, v18, v19, ()), (mPut v20 (rd dT1 v1 (Int.toNat v3)).1 (IntKind.wrap .i64 ((mVal v20 (rd dT1 v1 (Int.toNat v3)).1) + 1))), ()), ()))))))))))))) (
   none)) (
  some (R3.out (((), ()), ((v4, v5, v6, v7, v8, v9, v10, v11, v12, v13, v14, v15, v16, v17, v18, v19, ()), ()), ())))
noncomputable def u47_3 (z : X47_3) : Option (R3 X47_3 Y47_3 Z47_3) := t47_3 z.1.2.2.1 z.1.2.2.2.1 z.1.2.2.2.2.1 z.2.1.1.1 z.2.1.1.2.1 z.2.1.1.2.2.1 z.2.1.1.2.2.2.1 z.2.1.1.2.2.2.2.1 z.2.1.1.2.2.2.2.2.1 z.2.1.1.2.2.2.2.2.2.1 z.2.1.1.2.2.2.2.2.2.2.1 z.2.1.1.2.2.2.2.2.2.2.2.1 z.2.1.1.2.2.2.2.2.2.2.2.2.1 z.2.1.1.2.2.2.2.2.2.2.2.2.2.1 z.2.1.1.2.2.2.2.2.2.2.2.2.2.2.1 z.2.1.1.2.2.2.2.2.2.2.2.2.2.2.2.1 z.2.1.1.2.2.2.2.2.2.2.2.2.2.2.2.2.1 z.2.1.1.2.2.2.2.2.2.2.2.2.2.2.2.2.2.1 z.2.1.1.2.2.2.2.2.2.2.2.2.2.2.2.2.2.2.1 z.2.1.2.1
noncomputable def f47 (v1 v2 v3 v4 v5 v6 v7 v8 v9 v10 v11 : Int) (v12 : Bool) (v13 : Int) (v14 : DT1) (v15 : DT4) (v16 : DT1) : Option DT18 :=
 ((iter big u47_3 (((), (), v15, (v15.length : Int), 0, ()), ((v1, v2, v3, v4, v5, v6, v7, v8, v9, v10, v11, v12, v13, v14, v15, v16, ()), [], ()), ()))).bind fun r => match r with
 | .inl y17 =>
   some ((decide ((y17.2.1.1.2.2.2.2.2.2.2.2.2.2.2.2.2.2.1.length : Int) ≤ 32)), ())
 | .inr z18 =>
   some (z18.1.1, ())
noncomputable def f98 (v1 v2 v3 v4 v5 : Int) : Option ((DT26 × Int × Int × Int × Int × Int) × Unit) :=
 some (((v2, v3), v1, v2, v3, v4, v5), ())
noncomputable def f57 (v1 v2 v3 v4 v5 : Int) : Option (DT26 × Unit) :=
 ((f98 v1 v2 v3 v4 v5)).bind fun y6 =>
 some ((y6.1.1.1, y6.1.1.2), ())
abbrev X22_96_2_0 : Type := (DT4 × Unit × Int × Int × Unit) × DT21 × (Unit)
abbrev Y22_96_2_0 : Type := (Unit) × DT21 × (Unit)
abbrev Z22_96_2_0 : Type := DT15 × DT21 × (Unit)
noncomputable def t22_96_2_0 (v1 : DT4) (v2 v3 v4 v5 : Int) : Option (R3 X22_96_2_0 Y22_96_2_0 Z22_96_2_0) :=
 cond (decide (v3 < v2)) (
  cond ((decide (0 ≤ v3)) && (decide (v3 < (v1.length : Int)))) (
   ((f57 (rd dT1 v1 (Int.toNat v3)).1 (rd dT1 v1 (Int.toNat v3)).2.1 (rd dT1 v1 (Int.toNat v3)).2.2.1 (rd dT1 v1 (Int.toNat v3)).2.2.2.1 (rd dT1 v1 (Int.toNat v3)).2.2.2.2)).bind fun y6 =>
   cond ((decide (y6.1.1 = v4)) && ((decide (y6.1.2 = v5)) && true)) (
    some (R3.ret ((v3, ()), ((v4, v5, ()), ((), ()), ()), ()))) (
    some (R3.next ((v1, (), v2, (IntKind.wrap .i64 (v3 + 1)), ()), ((v4, v5, ()), ((), ()), ()), ())))) (
   none)) (
  some (R3.out ((), ((v4, v5, ()), ((), ()), ()), ())))
noncomputable def u22_96_2_0 (z : X22_96_2_0) : Option (R3 X22_96_2_0 Y22_96_2_0 Z22_96_2_0) := t22_96_2_0 z.1.1 z.1.2.2.1 z.1.2.2.2.1 z.2.1.1.1 z.2.1.1.2.1
noncomputable def f22 (v1 : DT4) (v2 v3 : Int) : Option DT15 :=
 ((iter big u22_96_2_0 ((v1, (), (v1.length : Int), 0, ()), ((v2, v3, ()), ((), ()), ()), ()))).bind fun r => match r with
 | .inl y4 =>
   some ((-1), ())
 | .inr z5 =>
   some (z5.1.1, ())
abbrev X48_2 : Type := (Unit × DT1 × Int × Int × Unit) × (DT14 × Unit) × (Unit)
abbrev Y48_2 : Type := (Unit) × (Unit) × (Unit)
abbrev Z48_2 : Type := DT18 × (Unit) × (Unit)
noncomputable def t48_2 (v1 : DT1) (v2 v3 v4 v5 v6 v7 v8 v9 v10 v11 v12 v13 v14 : Int) (v15 : Bool) (v16 : Int) (v17 : DT1) (v18 : DT4) (v19 : DT1) : Option (R3 X48_2 Y48_2 Z48_2) :=
 cond (decide (v3 < v2)) (
  cond ((decide (0 ≤ v3)) && (decide (v3 < (v1.length : Int)))) (
   ((f18 v4 v5 v6 v7 v8 v9 v10 v11 (rd dT2 v1 (Int.toNat v3)).1 (rd dT2 v1 (Int.toNat v3)).2.1)).bind fun y20 =>
   cond (!y20.2.1) (
    some (R3.ret ((false, ()), (), ()))) (
    ((f44 (rd dT2 v1 (Int.toNat v3)).2.2 (IntKind.wrap .i64 (v16 + 1)) (IntKind.wrap .i64 (v16 + 1048576)))).bind fun y21 =>
    cond (!y21.1) (
     some (R3.ret ((false, ()), (), ()))) (
     ((f22 v18 (rd dT2 v1 (Int.toNat v3)).1 (rd dT2 v1 (Int.toNat v3)).2.1)).bind fun y22 =>
     cond (!(decide (y22.1 = (-1)))) (
      some (R3.ret ((false, ()), (), ()))) (
      cond (decide (0 < v3)) (
       cond ((decide (0 ≤ (IntKind.wrap .i64 (v3 - 1)))) && (decide ((IntKind.wrap .i64 (v3 - 1)) < (v19.length : Int)))) (
        cond ((decide (0 ≤ (IntKind.wrap .i64 (v3 - 1)))) && (decide ((IntKind.wrap .i64 (v3 - 1)) < (v19.length : Int)))) (
         ((f94 (rd dT2 v1 (Int.toNat v3)).1 (rd dT2 v1 (Int.toNat v3)).2.1 (rd dT2 v19 (Int.toNat (IntKind.wrap .i64 (v3 - 1)))).1 (rd dT2 v19 (Int.toNat (IntKind.wrap .i64 (v3 - 1)))).2.1)).bind fun y23 =>
         cond (!y23.1) (
          some (R3.ret ((false, ()), (), ()))) (
          some (R3.next (((), v1, v2, (IntKind.wrap .i64 (v3 + 1)), ()), ((v4, v5, v6, v7, v8, v9, v10, v11, v12, v13, v14, v15, v16, v17, v18, v19, ()), ()), ())))) (
         none)) (
        none)) (
       some (R3.next (((), v1, v2, (IntKind.wrap .i64 (v3 + 1)), ()), ((v4, v5, v6, v7, v8, v9, v10, v11, v12, v13, v14, v15, v16, v17, v18, v19, ()), ()), ()))))))) (
   none)) (
  some (R3.out ((), (), ())))
noncomputable def u48_2 (z : X48_2) : Option (R3 X48_2 Y48_2 Z48_2) := t48_2 z.1.2.1 z.1.2.2.1 z.1.2.2.2.1 z.2.1.1.1 z.2.1.1.2.1 z.2.1.1.2.2.1 z.2.1.1.2.2.2.1 z.2.1.1.2.2.2.2.1 z.2.1.1.2.2.2.2.2.1 z.2.1.1.2.2.2.2.2.2.1 z.2.1.1.2.2.2.2.2.2.2.1 z.2.1.1.2.2.2.2.2.2.2.2.1 z.2.1.1.2.2.2.2.2.2.2.2.2.1 z.2.1.1.2.2.2.2.2.2.2.2.2.2.1 z.2.1.1.2.2.2.2.2.2.2.2.2.2.2.1 z.2.1.1.2.2.2.2.2.2.2.2.2.2.2.2.1 z.2.1.1.2.2.2.2.2.2.2.2.2.2.2.2.2.1 z.2.1.1.2.2.2.2.2.2.2.2.2.2.2.2.2.2.1 z.2.1.1.2.2.2.2.2.2.2.2.2.2.2.2.2.2.2.1
noncomputable def f48 (v1 v2 v3 v4 v5 v6 v7 v8 v9 v10 v11 : Int) (v12 : Bool) (v13 : Int) (v14 : DT1) (v15 : DT4) (v16 : DT1) : Option DT18 :=
 ((iter big u48_2 (((), v16, (v16.length : Int), 0, ()), ((v1, v2, v3, v4, v5, v6, v7, v8, v9, v10, v11, v12, v13, v14, v15, v16, ()), ()), ()))).bind fun r => match r with
 | .inl y17 =>
   some (true, ())
 | .inr z18 =>
   some (z18.1.1, ())
noncomputable def f15 (v1 v2 v3 v4 v5 v6 v7 v8 v9 v10 v11 : Int) (v12 : Bool) (v13 : Int) (v14 : DT1) (v15 : DT4) (v16 : DT1) : Option DT18 :=
 ((f43 v1 v2 v3 v4 v5 v6 v7 v8)).bind fun y17 =>
 cond y17.1 (
  ((f28 v9 v10 v11 v12)).bind fun y18 =>
  cond y18.1 (
   ((f44 v13 0 1073741824)).bind fun y19 =>
   cond y19.1 (
    ((f46 v1 v2 v3 v4 v5 v6 v7 v8 v9 v10 v11 v12 v13 v14 v15 v16)).bind fun y20 =>
    ((f45 v14 y20.1)).bind fun y21 =>
    cond y21.1 (
     ((f47 v1 v2 v3 v4 v5 v6 v7 v8 v9 v10 v11 v12 v13 v14 v15 v16)).bind fun y22 =>
     cond y22.1 (
      ((f48 v1 v2 v3 v4 v5 v6 v7 v8 v9 v10 v11 v12 v13 v14 v15 v16)).bind fun y23 =>
      some (y23.1, ())) (
      some (false, ()))) (
     some (false, ()))) (
    some (false, ()))) (
   some (false, ()))) (
  some (false, ()))
abbrev X21_3 : Type := (Int × DT4 × Int × Int × Unit) × (Unit) × DT25 × Unit
abbrev Y21_3 : Type := (Unit) × (Unit) × DT25 × Unit
abbrev Z21_3 : Type := Unit × Unit × Unit
noncomputable def t21_3 (v1 : Int) (v2 : DT4) (v3 v4 : Int) (v5 : DT25) : Option (R3 X21_3 Y21_3 Z21_3) :=
 cond (decide (v4 < v3)) (
  cond ((decide (0 ≤ v4)) && (decide (v4 < (v2.length : Int)))) (
   cond (decide ((rd dT1 v2 (Int.toNat v4)).1 = v1)) (
    cond ((decide (((v5.length + 1) * 8) ≤ 140737488355328)) && (decide ((v5.length + 1) ≤ 9223372036854775807))) (
     some (R3.next ((v1, v2, v3, (IntKind.wrap .i64 (v4 + 1)), ()), (), (v5 ++ [v4]), ()))) (
     none)) (
    some (R3.next ((v1, v2, v3, (IntKind.wrap .i64 (v4 + 1)), ()), (), v5, ())))) (
   none)) (
  some (R3.out ((), (), v5, ())))
noncomputable def u21_3 (z : X21_3) : Option (R3 X21_3 Y21_3 Z21_3) := t21_3 z.1.1 z.1.2.1 z.1.2.2.1 z.1.2.2.2.1 z.2.2.1
noncomputable def f21 (v1 : DT4) (v2 : Int) : Option (DT25 × Unit) :=
 ((iter big u21_3 ((v2, v1, (v1.length : Int), 0, ()), (), [], ()))).bind fun r => match r with
 | .inl y3 =>
   some (y3.2.2.1, ())
 | .inr z4 =>
   none
noncomputable def f23 (v1 : DT1) (v2 : Int) : Option DT18 :=
 ((f20 v1 v2)).bind fun y3 =>
 cond (!(decide (y3.1 = (-1)))) (
  cond ((decide (0 ≤ y3.1)) && (decide (y3.1 < (v1.length : Int)))) (
   some ((decide ((rd dT2 v1 (Int.toNat y3.1)).2.2 = 0)), ())) (
   none)) (
  some (false, ()))
noncomputable def f144 (v1 v2 : Int) : Option DT18 :=
 cond (decide (0 ≤ v1)) (
  cond (decide (v1 ≤ 8)) (
   cond (decide (0 ≤ v2)) (
    cond (!(decide (v1 < 0))) (
     some ((decide ((Int.fdiv v2 ((2 : Int) ^ ((min (Int.toNat v1) 64) : Nat))) = 0)), ())) (
     none)) (
    some (false, ()))) (
   some (false, ()))) (
  some (false, ()))
abbrev X99_143_2_0 : Type := (Unit × Int × Unit) × DT23 × (Unit)
abbrev Y99_143_2_0 : Type := (Unit) × DT23 × (Unit)
abbrev Z99_143_2_0 : Type := (Unit) × DT23 × (Unit)
noncomputable def t99_143_2_0 (v1 v2 v3 v4 v5 v6 : Int) : Option (R3 X99_143_2_0 Y99_143_2_0 Z99_143_2_0) :=
 cond (decide (0 < v1)) (
  ((fTz v1)).bind fun y7 =>
  some (R3.ret ((), ((v2, v3, ()), (y7.1, ()), (v5, v6, ()), ((), (), (), (), (), (), (), (), ()), ()), ()))) (
  some (R3.out ((), ((v2, v3, ()), (v4, ()), (v5, v6, ()), ((), (), (), (), (), (), (), (), ()), ()), ())))
noncomputable def u99_143_2_0 (z : X99_143_2_0) : Option (R3 X99_143_2_0 Y99_143_2_0 Z99_143_2_0) := t99_143_2_0 z.1.2.1 z.2.1.1.1 z.2.1.1.2.1 z.2.1.2.1.1 z.2.1.2.2.1.1 z.2.1.2.2.1.2.1
noncomputable def f99 (v1 v2 : Int) : Option DT15 :=
 ((f144 v1 v2)).bind fun y3 =>
 cond (!y3.1) (
  some ((-1), ())) (
  cond (!(decide (v1 < 0))) (
   ((iter big u99_143_2_0 (((), (bitop .andNot .u64 (IntKind.wrap .u64 ((IntKind.wrap .u64 (1 * ((2 : Int) ^ ((min (Int.toNat v1) 64) : Nat)))) - 1)) (IntKind.wrap .u64 v2)), ()), ((v1, v2, ()), (0, ()), (v1, v2, ()), ((), (), (), (), (), (), (), (), ()), ()), ()))).bind fun r => match r with
   | .inl y4 =>
     some ((-1), ())
   | .inr z5 =>
     some (z5.2.1.2.1.1, ())) (
   none))
noncomputable def f121 (v1 : Int) : Option (DT26 × Bool × Unit) :=
 ((f144 v1 0)).bind fun y2 =>
 cond y2.1 (
  some ((v1, 0), true, ())) (
  some ((0, 0), false, ()))
noncomputable def f122 (v1 v2 v3 : Int) : Option ((DT26 × Int × Int × Int) × Unit) :=
 some (((v1, v2), v1, v2, v3), ())
noncomputable def f171 (v1 v2 v3 : Int) : Option DT18 :=
 ((f144 v1 v2)).bind fun y4 =>
 cond y4.1 (
  cond (decide (0 ≤ v3)) (
   some ((decide (v3 < v1)), ())) (
   some (false, ()))) (
  some (false, ()))
noncomputable def f172 (v1 v2 v3 : Int) : Option DT18 :=
 ((f171 v1 v2 v3)).bind fun y4 =>
 cond y4.1 (
  cond (!(decide (v3 < 0))) (
   some ((decide ((bitop .and .i64 (Int.fdiv v2 ((2 : Int) ^ ((min (Int.toNat v3) 64) : Nat))) 1) = 1)), ())) (
   none)) (
  some (false, ()))
noncomputable def f146 (v1 v2 v3 : Int) (v4 : Bool) : Option (DT26 × Bool × Unit) :=
 ((f171 v1 v2 v3)).bind fun y5 =>
 cond (!y5.1) (
  some ((v1, v2), false, ())) (
  ((f172 v1 v2 v3)).bind fun y6 =>
  cond (!(y6.1 == v4)) (
   some ((v1, v2), false, ())) (
   cond (!(decide (v3 < 0))) (
    some ((v1, (bitop .xor .i64 v2 (IntKind.wrap .i64 (1 * ((2 : Int) ^ ((min (Int.toNat v3) 64) : Nat)))))), true, ())) (
    none)))
noncomputable def f123 (v1 v2 v3 : Int) : Option (DT26 × Bool × Unit) :=
 ((f146 v1 v2 v3 false)).bind fun y4 =>
 some ((y4.1.1, y4.1.2), y4.2.1, ())
abbrev X100_4 : Type := (DT1 × Int × Unit × Unit × DT4 × Int × Int × Unit) × DT31 × DT0 × Unit
abbrev Y100_4 : Type := (DT1 × Int × Unit × Unit × Unit) × DT31 × DT0 × Unit
abbrev Z100_4 : Type := Unit × Unit × Unit
noncomputable def t100_4 (v1 : DT1) (v2 : Int) (v3 : DT4) (v4 v5 v6 v7 v8 v9 : Int) (v10 : DT0) : Option (R3 X100_4 Y100_4 Z100_4) :=
 cond (decide (v5 < v4)) (
  cond ((decide (0 ≤ v5)) && (decide (v5 < (v3.length : Int)))) (
   ((f98 (rd dT1 v3 (Int.toNat v5)).1 (rd dT1 v3 (Int.toNat v5)).2.1 (rd dT1 v3 (Int.toNat v5)).2.2.1 (rd dT1 v3 (Int.toNat v5)).2.2.2.1 (rd dT1 v3 (Int.toNat v5)).2.2.2.2)).bind fun y11 =>
   cond ((decide (((v10.length + 1) * 16) ≤ 140737488355328)) && (decide ((v10.length + 1) ≤ 9223372036854775807))) (
    some (R3.next ((v1, v2, (), (), v3, v4, (IntKind.wrap .i64 (v5 + 1)), ()), ((v6, v7, ()), (v8, v9, ()), ()), (v10 ++ [(y11.1.1.1, y11.1.1.2)]), ()))) (
    none)) (
   none)) (
  some (R3.out ((v1, v2, (), (), ()), ((v6, v7, ()), (v8, v9, ()), ()), v10, ())))
noncomputable def u100_4 (z : X100_4) : Option (R3 X100_4 Y100_4 Z100_4) := t100_4 z.1.1 z.1.2.1 z.1.2.2.2.2.1 z.1.2.2.2.2.2.1 z.1.2.2.2.2.2.2.1 z.2.1.1.1 z.2.1.1.2.1 z.2.1.2.1.1 z.2.1.2.1.2.1 z.2.2.1
abbrev X100_9 : Type := (Int × Unit × Unit × DT1 × Int × Int × Unit) × DT31 × DT0 × Unit
abbrev Y100_9 : Type := (Int × Unit × Unit × Unit) × DT31 × DT0 × Unit
abbrev Z100_9 : Type := Unit × Unit × Unit
noncomputable def t100_9 (v1 : Int) (v2 : DT1) (v3 v4 v5 v6 v7 v8 : Int) (v9 : DT0) : Option (R3 X100_9 Y100_9 Z100_9) :=
 cond (decide (v4 < v3)) (
  cond ((decide (0 ≤ v4)) && (decide (v4 < (v2.length : Int)))) (
   ((f122 (rd dT2 v2 (Int.toNat v4)).1 (rd dT2 v2 (Int.toNat v4)).2.1 (rd dT2 v2 (Int.toNat v4)).2.2)).bind fun y10 =>
   cond ((decide (((v9.length + 1) * 16) ≤ 140737488355328)) && (decide ((v9.length + 1) ≤ 9223372036854775807))) (
    some (R3.next ((v1, (), (), v2, v3, (IntKind.wrap .i64 (v4 + 1)), ()), ((v5, v6, ()), (v7, v8, ()), ()), (v9 ++ [(y10.1.1.1, y10.1.1.2)]), ()))) (
    none)) (
   none)) (
  some (R3.out ((v1, (), (), ()), ((v5, v6, ()), (v7, v8, ()), ()), v9, ())))
noncomputable def u100_9 (z : X100_9) : Option (R3 X100_9 Y100_9 Z100_9) := t100_9 z.1.1 z.1.2.2.2.1 z.1.2.2.2.2.1 z.1.2.2.2.2.2.1 z.2.1.1.1 z.2.1.1.2.1 z.2.1.2.1.1 z.2.1.2.1.2.1 z.2.2.1
abbrev X100_14 : Type := (Int × Unit × Unit × Int × Int × Unit) × DT31 × DT0 × Unit
abbrev Y100_14 : Type := (Unit × Unit × Unit) × DT31 × (Unit)
abbrev Z100_14 : Type := Unit × Unit × Unit
noncomputable def t100_14 (v1 v2 v3 v4 v5 v6 v7 : Int) (v8 : DT0) : Option (R3 X100_14 Y100_14 Z100_14) :=
 cond (decide (v3 < v2)) (
  cond ((decide (0 ≤ v3)) && (decide (v3 < (v8.length : Int)))) (
   cond (decide ((Int.toNat v3) < v8.length)) (
    cond (decide ((rd dT0 v8 (Int.toNat v3)).1 = v1)) (
     ((f123 v6 v7 (rd dT0 v8 (Int.toNat v3)).2)).bind fun y9 =>
     some (R3.next ((v1, (), (), v2, (IntKind.wrap .i64 (v3 + 1)), ()), ((v4, v5, ()), (y9.1.1, y9.1.2, ()), ()), v8, ()))) (
     some (R3.next ((v1, (), (), v2, (IntKind.wrap .i64 (v3 + 1)), ()), ((v4, v5, ()), (v6, v7, ()), ()), v8, ())))) (
    none)) (
   none)) (
  some (R3.out (((), (), ()), ((v4, v5, ()), (v6, v7, ()), ()), ())))
noncomputable def u100_14 (z : X100_14) : Option (R3 X100_14 Y100_14 Z100_14) := t100_14 z.1.1 z.1.2.2.2.1 z.1.2.2.2.2.1 z.2.1.1.1 z.2.1.1.2.1 z.2.1.2.1.1 z.2.1.2.1.2.1 z.2.2.1
noncomputable def f100 (v1 v2 v3 v4 v5 v6 v7 v8 : Int) (v9 : DT4) (v10 : DT1) (v11 : Int) : Option (DT26 × Unit) :=
 ((f50 v1 v2 v3 v4 v5 v6 v7 v8)).bind fun y12 =>
 ((f121 y12.1)).bind fun y13 =>
 ((iter big u100_4 ((v10, v11, (), (), v9, (v9.length : Int), 0, ()), ((0, 0, ()), (y13.1.1, y13.1.2, ()), ()), [], ()))).bind fun r => match r with
 | .inl y14 =>
   ((iter big u100_9 ((y14.1.2.1, (), (), y14.1.1, (y14.1.1.length : Int), 0, ()), ((y14.2.1.1.1, y14.2.1.1.2.1, ()), (y14.2.1.2.1.1, y14.2.1.2.1.2.1, ()), ()), y14.2.2.1, ()))).bind fun r => match r with
   | .inl y16 =>
     ((iter big u100_14 ((y16.1.1, (), (), (y16.2.2.1.length : Int), 0, ()), ((y16.2.1.1.1, y16.2.1.1.2.1, ()), (y16.2.1.2.1.1, y16.2.1.2.1.2.1, ()), ()), y16.2.2.1, ()))).bind fun r => match r with
     | .inl y18 =>
       some ((y18.2.1.2.1.1, y18.2.1.2.1.2.1), ())
     | .inr z19 =>
       none
   | .inr z17 =>
     none
 | .inr z15 =>
   none
abbrev X148_3 : Type := (Int × DT25 × Int × Int × Unit) × (Unit) × (Unit)
abbrev Y148_3 : Type := DT15 × (Unit) × (Unit)
abbrev Z148_3 : Type := DT15 × (Unit) × (Unit)
noncomputable def t148_3 (v1 : Int) (v2 : DT25) (v3 v4 : Int) : Option (R3 X148_3 Y148_3 Z148_3) :=
 cond (decide (v4 < v3)) (
  cond ((decide (0 ≤ v4)) && (decide (v4 < (v2.length : Int)))) (
   cond (!(decide ((rd (.int .i64) v2 (Int.toNat v4)) = v1))) (
    some (R3.ret (((rd (.int .i64) v2 (Int.toNat v4)), ()), (), ()))) (
    some (R3.next ((v1, v2, v3, (IntKind.wrap .i64 (v4 + 1)), ()), (), ())))) (
   none)) (
  some (R3.out ((v1, ()), (), ())))
noncomputable def u148_3 (z : X148_3) : Option (R3 X148_3 Y148_3 Z148_3) := t148_3 z.1.1 z.1.2.1 z.1.2.2.1 z.1.2.2.2.1
noncomputable def f148 (v1 : DT25) : Option DT15 :=
 ((iter big u148_3 ((0, v1, (v1.length : Int), 0, ()), (), ()))).bind fun r => match r with
 | .inl y2 =>
   some (y2.1.1, ())
 | .inr z3 =>
   some (z3.1.1, ())
noncomputable def f174 (v1 : Int) : Option DT18 :=
 some ((!(decide (v1 = v1))), ())
noncomputable def f149 (v1 v2 : Int) : Option DT15 :=
 ((f174 v1)).bind fun y3 =>
 ((f174 v2)).bind fun y4 =>
 cond y3.1 (
  cond y4.1 (
   some (0, ())) (
   some ((-1), ()))) (
  cond y4.1 (
   some (1, ())) (
   cond (decide (v1 < v2)) (
    some ((-1), ())) (
    cond (decide (v2 < v1)) (
     some (1, ())) (
     some (0, ())))))
noncomputable def f127 (v1 v2 v3 v4 : Int) : Option DT15 :=
 ((f149 v1 v3)).bind fun y5 =>
 ((f149 v2 v4)).bind fun y6 =>
 ((f148 [y5.1, y6.1])).bind fun y7 =>
 some (y7.1, ())
abbrev X102_96_2_0 : Type := (DT4 × Unit × Int × Int × Unit) × DT21 × (Unit)
abbrev Y102_96_2_0 : Type := (Unit) × DT21 × (Unit)
abbrev Z102_96_2_0 : Type := DT15 × DT21 × (Unit)
noncomputable def t102_96_2_0 (v1 : DT4) (v2 v3 v4 v5 : Int) : Option (R3 X102_96_2_0 Y102_96_2_0 Z102_96_2_0) :=
 cond (decide (v3 < v2)) (
  cond ((decide (0 ≤ v3)) && (decide (v3 < (v1.length : Int)))) (
   ((f57 (rd dT1 v1 (Int.toNat v3)).1 (rd dT1 v1 (Int.toNat v3)).2.1 (rd dT1 v1 (Int.toNat v3)).2.2.1 (rd dT1 v1 (Int.toNat v3)).2.2.2.1 (rd dT1 v1 (Int.toNat v3)).2.2.2.2)).bind fun y6 =>
   ((f127 y6.1.1 y6.1.2 v4 v5)).bind fun y7 =>
   cond (decide (0 < y7.1)) (
    some (R3.ret ((v3, ()), ((v4, v5, ()), ((), ()), ()), ()))) (
    some (R3.next ((v1, (), v2, (IntKind.wrap .i64 (v3 + 1)), ()), ((v4, v5, ()), ((), ()), ()), ())))) (
   none)) (
  some (R3.out ((), ((v4, v5, ()), ((), ()), ()), ())))
noncomputable def u102_96_2_0 (z : X102_96_2_0) : Option (R3 X102_96_2_0 Y102_96_2_0 Z102_96_2_0) := t102_96_2_0 z.1.1 z.1.2.2.1 z.1.2.2.2.1 z.2.1.1.1 z.2.1.1.2.1
noncomputable def f102 (v1 : DT4) (v2 v3 : Int) : Option DT15 :=
 ((iter big u102_96_2_0 ((v1, (), (v1.length : Int), 0, ()), ((v2, v3, ()), ((), ()), ()), ()))).bind fun r => match r with
 | .inl y4 =>
   some ((v1.length : Int), ())
 | .inr z5 =>
   cond (decide (z5.1.1 = (-1))) (
    some ((v1.length : Int), ())) (
    some (z5.1.1, ()))
noncomputable def f63 (v1 : DT4) (v2 v3 v4 v5 v6 : Int) : Option (DT4 × Bool × Unit) :=
 ((fCloneLease v1)).bind fun y7 =>
 ((f22 v1 v3 v4)).bind fun y8 =>
 cond (!(decide (y8.1 = (-1)))) (
  some (y7.1, false, ())) (
  cond (decide (32 ≤ (v1.length : Int))) (
   some (y7.1, false, ())) (
   ((f57 v2 v3 v4 v5 v6)).bind fun y9 =>
   ((f102 v1 y9.1.1 y9.1.2)).bind fun y10 =>
   ((fInsLease y7.1 y10.1 [(v2, v3, v4, v5, v6)])).bind fun y11 =>
   some (y11, true, ())))
noncomputable def f24 (v1 : DT4) (v2 v3 : Int) : Option (DT4 × Bool × Unit) :=
 ((fCloneLease v1)).bind fun y4 =>
 ((f22 v1 v2 v3)).bind fun y5 =>
 cond (decide (y5.1 = (-1))) (
  some (y4.1, false, ())) (
  cond ((((decide (0 ≤ y5.1)) && (decide (y5.1 ≤ (IntKind.wrap .i64 (y5.1 + 1))))) && (decide ((IntKind.wrap .i64 (y5.1 + 1)) ≤ (y4.1.length : Int)))) && (decide ((0 + (y4.1.length : Int)) ≤ (y4.1.length : Int)))) (
   cond (decide (y5.1 = (IntKind.wrap .i64 (y5.1 + 1)))) (
    some (y4.1, true, ())) (
    cond ((decide (0 ≤ y5.1)) && (decide ((0 + y5.1) ≤ (y4.1.length : Int)))) (
     cond (((decide (0 ≤ (IntKind.wrap .i64 (y5.1 + 1)))) && (decide ((IntKind.wrap .i64 (y5.1 + 1)) ≤ (((y4.1.length - 0) : Nat) : Int)))) && (decide ((0 + (((y4.1.length - 0) : Nat) : Int)) ≤ (y4.1.length : Int)))) (
      cond (decide (((0 + (Int.toNat y5.1)) + (List.drop (0 + (Int.toNat (IntKind.wrap .i64 (y5.1 + 1)))) (List.take (0 + (Int.toNat (((y4.1.length - 0) : Nat) : Int))) y4.1)).length) ≤ y4.1.length)) (
       cond (((decide (0 ≤ (((((0 + (Int.toNat y5.1)) + (List.drop (0 + (Int.toNat (IntKind.wrap .i64 (y5.1 + 1)))) (List.take (0 + (Int.toNat (((y4.1.length - 0) : Nat) : Int))) y4.1)).length) - 0) : Nat) : Int))) && (decide ((((((0 + (Int.toNat y5.1)) + (List.drop (0 + (Int.toNat (IntKind.wrap .i64 (y5.1 + 1)))) (List.take (0 + (Int.toNat (((y4.1.length - 0) : Nat) : Int))) y4.1)).length) - 0) : Nat) : Int) ≤ (y4.1.length : Int)))) && (decide ((0 + (y4.1.length : Int)) ≤ (((((List.take (0 + (Int.toNat y5.1)) y4.1) ++ (List.drop (0 + (Int.toNat (IntKind.wrap .i64 (y5.1 + 1)))) (List.take (0 + (Int.toNat (((y4.1.length - 0) : Nat) : Int))) y4.1))) ++ (List.drop ((0 + (Int.toNat y5.1)) + (List.drop (0 + (Int.toNat (IntKind.wrap .i64 (y5.1 + 1)))) (List.take (0 + (Int.toNat (((y4.1.length - 0) : Nat) : Int))) y4.1)).length) y4.1)).length : Nat) : Int)))) (
        some ((List.take ((0 + (Int.toNat y5.1)) + (List.drop (0 + (Int.toNat (IntKind.wrap .i64 (y5.1 + 1)))) (List.take (0 + (Int.toNat (((y4.1.length - 0) : Nat) : Int))) y4.1)).length) (((List.take (0 + (Int.toNat (((((0 + (Int.toNat y5.1)) + (List.drop (0 + (Int.toNat (IntKind.wrap .i64 (y5.1 + 1)))) (List.take (0 + (Int.toNat (((y4.1.length - 0) : Nat) : Int))) y4.1)).length) - 0) : Nat) : Int))) (((List.take (0 + (Int.toNat y5.1)) y4.1) ++ (List.drop (0 + (Int.toNat (IntKind.wrap .i64 (y5.1 + 1)))) (List.take (0 + (Int.toNat (((y4.1.length - 0) : Nat) : Int))) y4.1))) ++ (List.drop ((0 + (Int.toNat y5.1)) + (List.drop (0 + (Int.toNat (IntKind.wrap .i64 (y5.1 + 1)))) (List.take (0 + (Int.toNat (((y4.1.length - 0) : Nat) : Int))) y4.1)).length) y4.1))) ++ (List.replicate ((0 + (Int.toNat (y4.1.length : Int))) - (0 + (Int.toNat (((((0 + (Int.toNat y5.1)) + (List.drop (0 + (Int.toNat (IntKind.wrap .i64 (y5.1 + 1)))) (List.take (0 + (Int.toNat (((y4.1.length - 0) : Nat) : Int))) y4.1)).length) - 0) : Nat) : Int)))) (0, 0, 0, 0, 0))) ++ (List.drop ((0 + (Int.toNat (((((0 + (Int.toNat y5.1)) + (List.drop (0 + (Int.toNat (IntKind.wrap .i64 (y5.1 + 1)))) (List.take (0 + (Int.toNat (((y4.1.length - 0) : Nat) : Int))) y4.1)).length) - 0) : Nat) : Int))) + ((0 + (Int.toNat (y4.1.length : Int))) - (0 + (Int.toNat (((((0 + (Int.toNat y5.1)) + (List.drop (0 + (Int.toNat (IntKind.wrap .i64 (y5.1 + 1)))) (List.take (0 + (Int.toNat (((y4.1.length - 0) : Nat) : Int))) y4.1)).length) - 0) : Nat) : Int))))) (((List.take (0 + (Int.toNat y5.1)) y4.1) ++ (List.drop (0 + (Int.toNat (IntKind.wrap .i64 (y5.1 + 1)))) (List.take (0 + (Int.toNat (((y4.1.length - 0) : Nat) : Int))) y4.1))) ++ (List.drop ((0 + (Int.toNat y5.1)) + (List.drop (0 + (Int.toNat (IntKind.wrap .i64 (y5.1 + 1)))) (List.take (0 + (Int.toNat (((y4.1.length - 0) : Nat) : Int))) y4.1)).length) y4.1))))), true, ())) (
        none)) (
       none)) (
      none)) (
     none))) (
   none))
noncomputable def f129 (v1 v2 v3 : Int) : Option (DT26 × Unit) :=
 ((f122 v1 v2 v3)).bind fun y4 =>
 some ((y4.1.1.1, y4.1.1.2), ())
abbrev X131_138_2_0 : Type := (DT1 × Unit × Int × Int × Unit) × DT21 × (Unit)
abbrev Y131_138_2_0 : Type := (Unit) × DT21 × (Unit)
abbrev Z131_138_2_0 : Type := DT15 × DT21 × (Unit)
noncomputable def t131_138_2_0 (v1 : DT1) (v2 v3 v4 v5 : Int) : Option (R3 X131_138_2_0 Y131_138_2_0 Z131_138_2_0) :=
 cond (decide (v3 < v2)) (
  cond ((decide (0 ≤ v3)) && (decide (v3 < (v1.length : Int)))) (
   ((f129 (rd dT2 v1 (Int.toNat v3)).1 (rd dT2 v1 (Int.toNat v3)).2.1 (rd dT2 v1 (Int.toNat v3)).2.2)).bind fun y6 =>
   ((f127 y6.1.1 y6.1.2 v4 v5)).bind fun y7 =>
   cond (decide (0 < y7.1)) (
    some (R3.ret ((v3, ()), ((v4, v5, ()), ((), ()), ()), ()))) (
    some (R3.next ((v1, (), v2, (IntKind.wrap .i64 (v3 + 1)), ()), ((v4, v5, ()), ((), ()), ()), ())))) (
   none)) (
  some (R3.out ((), ((v4, v5, ()), ((), ()), ()), ())))
noncomputable def u131_138_2_0 (z : X131_138_2_0) : Option (R3 X131_138_2_0 Y131_138_2_0 Z131_138_2_0) := t131_138_2_0 z.1.1 z.1.2.2.1 z.1.2.2.2.1 z.2.1.1.1 z.2.1.1.2.1
noncomputable def f131 (v1 : DT1) (v2 v3 : Int) : Option DT15 :=
 ((iter big u131_138_2_0 ((v1, (), (v1.length : Int), 0, ()), ((v2, v3, ()), ((), ()), ()), ()))).bind fun r => match r with
 | .inl y4 =>
   some ((v1.length : Int), ())
 | .inr z5 =>
   cond (decide (z5.1.1 = (-1))) (
    some ((v1.length : Int), ())) (
    some (z5.1.1, ()))
abbrev X103_138_2_0 : Type := DT30 × DT33 × (Unit)
abbrev Y103_138_2_0 : Type := (Unit) × DT33 × (Unit)
abbrev Z103_138_2_0 : Type := DT15 × DT33 × (Unit)
noncomputable def t103_138_2_0 (v1 v2 v3 v4 v5 : Int) (v6 : DT1) : Option (R3 X103_138_2_0 Y103_138_2_0 Z103_138_2_0) :=
 cond (decide (v2 < v1)) (
  cond ((decide (0 ≤ v2)) && (decide (v2 < (v6.length : Int)))) (
   cond (decide ((Int.toNat v2) < v6.length)) (
    ((f129 (rd dT2 v6 (Int.toNat v2)).1 (rd dT2 v6 (Int.toNat v2)).2.1 (rd dT2 v6 (Int.toNat v2)).2.2)).bind fun y7 =>
    ((f129 v3 v4 v5)).bind fun y8 =>
    cond ((decide (y7.1.1 = y8.1.1)) && ((decide (y7.1.2 = y8.1.2)) && true)) (
     some (R3.ret ((v2, ()), ((v3, v4, v5, ()), v6, ()), ()))) (
     some (R3.next (((), (), v1, (IntKind.wrap .i64 (v2 + 1)), ()), ((v3, v4, v5, ()), v6, ()), ())))) (
    none)) (
   none)) (
  some (R3.out ((), ((v3, v4, v5, ()), v6, ()), ())))
noncomputable def u103_138_2_0 (z : X103_138_2_0) : Option (R3 X103_138_2_0 Y103_138_2_0 Z103_138_2_0) := t103_138_2_0 z.1.2.2.1 z.1.2.2.2.1 z.2.1.1.1 z.2.1.1.2.1 z.2.1.1.2.2.1 z.2.1.2.1
abbrev X103_113_5_0 : Type := DT30 × DT33 × (Unit)
abbrev Y103_113_5_0 : Type := (Unit × Int × Unit) × DT33 × (Unit)
abbrev Z103_113_5_0 : Type := (Unit) × DT33 × (Unit)
noncomputable def t103_113_5_0 (v1 v2 v3 v4 v5 : Int) (v6 : DT1) : Option (R3 X103_113_5_0 Y103_113_5_0 Z103_113_5_0) :=
 cond (decide (v2 < (v6.length : Int))) (
  cond ((decide (0 ≤ v2)) && (decide (v2 < (v6.length : Int)))) (
   cond (decide ((Int.toNat v2) < v6.length)) (
    ((f129 (rd dT2 v6 (Int.toNat v2)).1 (rd dT2 v6 (Int.toNat v2)).2.1 (rd dT2 v6 (Int.toNat v2)).2.2)).bind fun y7 =>
    ((f129 v3 v4 v5)).bind fun y8 =>
    cond (!((decide (y7.1.1 = y8.1.1)) && ((decide (y7.1.2 = y8.1.2)) && true))) (
     cond ((decide (0 ≤ v1)) && (decide (v1 < (v6.length : Int)))) (
      cond (decide ((Int.toNat v1) < v6.length)) (
       some (R3.next (((), (), (IntKind.wrap .i64 (v1 + 1)), (IntKind.wrap .i64 (v2 + 1)), ()), ((v3, v4, v5, ()), (v6.set (Int.toNat v1) ((rd dT2 v6 (Int.toNat v2)).1, (rd dT2 v6 (Int.toNat v2)).2.1, (rd dT2 v6 (Int.toNat v2)).2.2)), ()), ()))) (
       none)) (
      none)) (
     some (R3.next (((), (), v1, (IntKind.wrap .i64 (v2 + 1)), ()), ((v3, v4, v5, ()), v6, ()), ())))) (
    none)) (
   none)) (
  some (R3.out (((), v1, ()), ((v3, v4, v5, ()), v6, ()), ())))
noncomputable def u103_113_5_0 (z : X103_113_5_0) : Option (R3 X103_113_5_0 Y103_113_5_0 Z103_113_5_0) := t103_113_5_0 z.1.2.2.1 z.1.2.2.2.1 z.2.1.1.1 z.2.1.1.2.1 z.2.1.1.2.2.1 z.2.1.2.1
noncomputable def f103 (v1 : DT1) (v2 v3 v4 : Int) : Option (DT1 × Unit) :=
 ((fCloneHeld v1)).bind fun y5 =>
 ((iter big u103_138_2_0 (((), (), (y5.1.length : Int), 0, ()), ((v2, v3, v4, ()), y5.1, ()), ()))).bind fun r => match r with
 | .inl y6 =>
   ((f129 y6.2.1.1.1 y6.2.1.1.2.1 y6.2.1.1.2.2.1)).bind fun y8 =>
   ((f131 y6.2.1.2.1 y8.1.1 y8.1.2)).bind fun y9 =>
   ((fInsHeld y6.2.1.2.1 y9.1 [(y6.2.1.1.1, y6.2.1.1.2.1, y6.2.1.1.2.2.1)])).bind fun y10 =>
   some (y10, ())
 | .inr z7 =>
   cond (decide (z7.1.1 = (-1))) (
    ((f129 z7.2.1.1.1 z7.2.1.1.2.1 z7.2.1.1.2.2.1)).bind fun y11 =>
    ((f131 z7.2.1.2.1 y11.1.1 y11.1.2)).bind fun y12 =>
    ((fInsHeld z7.2.1.2.1 y12.1 [(z7.2.1.1.1, z7.2.1.1.2.1, z7.2.1.1.2.2.1)])).bind fun y13 =>
    some (y13, ())) (
    ((iter big u103_113_5_0 (((), (), z7.1.1, (IntKind.wrap .i64 (z7.1.1 + 1)), ()), ((z7.2.1.1.1, z7.2.1.1.2.1, z7.2.1.1.2.2.1, ()), z7.2.1.2.1, ()), ()))).bind fun r => match r with
    | .inl y14 =>
      cond (((decide (0 ≤ y14.1.2.1)) && (decide (y14.1.2.1 ≤ (((y14.2.1.2.1.length - 0) : Nat) : Int)))) && (decide ((0 + (((y14.2.1.2.1.length - 0) : Nat) : Int)) ≤ (y14.2.1.2.1.length : Int)))) (
       cond ((decide (0 ≤ y14.1.2.1)) && (decide ((0 + y14.1.2.1) ≤ (((((List.take (0 + (Int.toNat y14.1.2.1)) y14.2.1.2.1) ++ (List.replicate ((0 + (Int.toNat (((y14.2.1.2.1.length - 0) : Nat) : Int))) - (0 + (Int.toNat y14.1.2.1))) (0, 0, 0))) ++ (List.drop ((0 + (Int.toNat y14.1.2.1)) + ((0 + (Int.toNat (((y14.2.1.2.1.length - 0) : Nat) : Int))) - (0 + (Int.toNat y14.1.2.1)))) y14.2.1.2.1)).length : Nat) : Int)))) (
        ((f129 y14.2.1.1.1 y14.2.1.1.2.1 y14.2.1.1.2.2.1)).bind fun y16 =>
        ((f131 (List.drop 0 (List.take (0 + (Int.toNat y14.1.2.1)) (((List.take (0 + (Int.toNat y14.1.2.1)) y14.2.1.2.1) ++ (List.replicate ((0 + (Int.toNat (((y14.2.1.2.1.length - 0) : Nat) : Int))) - (0 + (Int.toNat y14.1.2.1))) (0, 0, 0))) ++ (List.drop ((0 + (Int.toNat y14.1.2.1)) + ((0 + (Int.toNat (((y14.2.1.2.1.length - 0) : Nat) : Int))) - (0 + (Int.toNat y14.1.2.1)))) y14.2.1.2.1)))) y16.1.1 y16.1.2)).bind fun y17 =>
        ((fInsHeld (List.take (0 + (Int.toNat y14.1.2.1)) (((List.take (0 + (Int.toNat y14.1.2.1)) y14.2.1.2.1) ++ (List.replicate ((0 + (Int.toNat (((y14.2.1.2.1.length - 0) : Nat) : Int))) - (0 + (Int.toNat y14.1.2.1))) (0, 0, 0))) ++ (List.drop ((0 + (Int.toNat y14.1.2.1)) + ((0 + (Int.toNat (((y14.2.1.2.1.length - 0) : Nat) : Int))) - (0 + (Int.toNat y14.1.2.1)))) y14.2.1.2.1))) y17.1 [(y14.2.1.1.1, y14.2.1.1.2.1, y14.2.1.1.2.2.1)])).bind fun y18 =>
        some (y18, ())) (
        none)) (
       none)
    | .inr z15 =>
      ((f129 z15.2.1.1.1 z15.2.1.1.2.1 z15.2.1.1.2.2.1)).bind fun y19 =>
      none)
noncomputable def f132 (v1 v2 v3 v4 : Int) : Option DT15 :=
 ((f149 v2 v4)).bind fun y5 =>
 ((f149 v1 v3)).bind fun y6 =>
 ((f148 [y5.1, y6.1])).bind fun y7 =>
 some (y7.1, ())
abbrev X104_4 : Type := (Unit × Unit × Unit × DT0 × Int × Int × Unit) × (DT28 × DT0 × DT16 × Unit) × (Unit)
abbrev Y104_4 : Type := (Unit × Unit) × (DT28 × Unit) × (Unit)
abbrev Z104_4 : Type := DT18 × (Unit) × (Unit)
noncomputable def t104_4 (v1 : DT0) (v2 v3 v4 : Int) (v5 v6 : DT0) (v7 v8 : Int) : Option (R3 X104_4 Y104_4 Z104_4) :=
 cond (decide (v3 < v2)) (
  cond ((decide (0 ≤ v3)) && (decide (v3 < (v1.length : Int)))) (
   cond (decide ((rd dT0 v1 (Int.toNat v3)).2 ≤ v4)) (
    some (R3.ret ((false, ()), (), ()))) (
    cond (decide (1073741824 < (rd dT0 v1 (Int.toNat v3)).2)) (
     some (R3.ret ((false, ()), (), ()))) (
     cond (decide ((rd dT0 v1 (Int.toNat v3)).1 < 0)) (
      some (R3.ret ((false, ()), (), ()))) (
      cond (decide (1 < (mVal (mPut v6 (rd dT0 v1 (Int.toNat v3)).1 (IntKind.wrap .i64 ((mVal v6 (rd dT0 v1 (Int.toNat v3)).1) + 1))) (rd dT0 v1 (Int.toNat v3)).1))) (
       some (R3.ret ((false, ()), (), ()))) (
       cond (decide (0 < v3)) (
        ((f132 v7 v8 (rd dT0 v1 (Int.toNat v3)).1 (rd dT0 v1 (Int.toNat v3)).2)).bind fun y9 =>
        cond (decide (0 ≤ y9.1)) (
         some (R3.ret ((false, ()), (), ()))) (
         some (R3.next (((), (), (), v1, v2, (IntKind.wrap .i64 (v3 + 1)), ()), ((v4, v5, ()), (mPut v6 (rd dT0 v1 (Int.toNat v3)).1 (IntKind.wrap .i64 ((mVal v6 (rd dT0 v1 (Int.toNat v3)).1) + 1))), ((rd dT0 v1 (Int.toNat v3)).1, (rd dT0 v1 (Int.toNat v3)).2, ()), ()), ())))) (
        some (R3.next (((), (), (), v1, v2, (IntKind.wrap .i64 (v3 + 1)), ()), ((v4, v5, ()), (mPut v6 (rd dT0 v1 (Int.toNat v3)).1 (IntKind.wrap .i64 ((mVal v6 (rd dT0 v1 (Int.toNat v3)).1) + 1))), ((rd dT0 v1 (Int.toNat v3)).1, (rd dT0 v1 (Int.toNat v3)).2, ()), ()), ())))))))) (
   none)) (
  some (R3.out (((), ()), ((v4, v5, ()), ()), ())))
noncomputable def u104_4 (z : X104_4) : Option (R3 X104_4 Y104_4 Z104_4) := t104_4 z.1.2.2.2.1 z.1.2.2.2.2.1 z.1.2.2.2.2.2.1 z.2.1.1.1 z.2.1.1.2.1 z.2.1.2.1 z.2.1.2.2.1.1 z.2.1.2.2.1.2.1
noncomputable def f104 (v1 : Int) (v2 : DT0) : Option DT18 :=
 ((iter big u104_4 (((), (), (), v2, (v2.length : Int), 0, ()), ((v1, v2, ()), [], (1073741824, v1, ()), ()), ()))).bind fun r => match r with
 | .inl y3 =>
   cond (decide (0 ≤ y3.2.1.1.1)) (
    cond (decide (y3.2.1.1.1 ≤ 1073741824)) (
     some ((decide ((y3.2.1.1.2.1.length : Int) ≤ 64)), ())) (
     some (false, ()))) (
    some (false, ()))
 | .inr z4 =>
   some (z4.1.1, ())
noncomputable def f67 (v1 : Int) : Option ((Int × DT0) × Bool × Unit) :=
 ((f104 v1 [])).bind fun y2 =>
 cond (!y2.1) (
  some ((0, []), false, ())) (
  some ((v1, []), true, ()))
noncomputable def f106 (v1 : Int) (v2 : DT0) : Option ((Int × DT0) × Unit) :=
 ((fCloneTimer v2)).bind fun y3 =>
 some ((v1, y3.1), ())
noncomputable def f135 (v1 : Int) : Option DT15 :=
 some ((bitop .and .i64 v1 7), ())
noncomputable def f136 (v1 v2 : Int) : Option DT18 :=
 some (true, ())
abbrev X70_138_2_0 : Type := DT30 × DT34 × (Unit)
abbrev Y70_138_2_0 : Type := (Unit) × DT34 × (Unit)
abbrev Z70_138_2_0 : Type := DT15 × DT34 × (Unit)
noncomputable def t70_138_2_0 (v1 v2 v3 : Int) (v4 : DT1) : Option (R3 X70_138_2_0 Y70_138_2_0 Z70_138_2_0) :=
 cond (decide (v2 < v1)) (
  cond ((decide (0 ≤ v2)) && (decide (v2 < (v4.length : Int)))) (
   cond (decide ((Int.toNat v2) < v4.length)) (
    cond (decide ((rd dT2 v4 (Int.toNat v2)).2.2 ≤ v3)) (
     some (R3.ret ((v2, ()), ((v3, ()), v4, ()), ()))) (
     some (R3.next (((), (), v1, (IntKind.wrap .i64 (v2 + 1)), ()), ((v3, ()), v4, ()), ())))) (
    none)) (
   none)) (
  some (R3.out ((), ((v3, ()), v4, ()), ())))
noncomputable def u70_138_2_0 (z : X70_138_2_0) : Option (R3 X70_138_2_0 Y70_138_2_0 Z70_138_2_0) := t70_138_2_0 z.1.2.2.1 z.1.2.2.2.1 z.2.1.1.1 z.2.1.2.1
abbrev X70_113_5_0 : Type := DT30 × DT34 × (Unit)
abbrev Y70_113_5_0 : Type := (Unit × Int × Unit) × DT34 × (Unit)
abbrev Z70_113_5_0 : Type := (Unit) × DT34 × (Unit)
noncomputable def t70_113_5_0 (v1 v2 v3 : Int) (v4 : DT1) : Option (R3 X70_113_5_0 Y70_113_5_0 Z70_113_5_0) :=
 cond (decide (v2 < (v4.length : Int))) (
  cond ((decide (0 ≤ v2)) && (decide (v2 < (v4.length : Int)))) (
   cond (decide ((Int.toNat v2) < v4.length)) (
    cond (!(decide ((rd dT2 v4 (Int.toNat v2)).2.2 ≤ v3))) (
     cond ((decide (0 ≤ v1)) && (decide (v1 < (v4.length : Int)))) (
      cond (decide ((Int.toNat v1) < v4.length)) (
       some (R3.next (((), (), (IntKind.wrap .i64 (v1 + 1)), (IntKind.wrap .i64 (v2 + 1)), ()), ((v3, ()), (v4.set (Int.toNat v1) ((rd dT2 v4 (Int.toNat v2)).1, (rd dT2 v4 (Int.toNat v2)).2.1, (rd dT2 v4 (Int.toNat v2)).2.2)), ()), ()))) (
       none)) (
      none)) (
     some (R3.next (((), (), v1, (IntKind.wrap .i64 (v2 + 1)), ()), ((v3, ()), v4, ()), ())))) (
    none)) (
   none)) (
  some (R3.out (((), v1, ()), ((v3, ()), v4, ()), ())))
noncomputable def u70_113_5_0 (z : X70_113_5_0) : Option (R3 X70_113_5_0 Y70_113_5_0 Z70_113_5_0) := t70_113_5_0 z.1.2.2.1 z.1.2.2.2.1 z.2.1.1.1 z.2.1.2.1
noncomputable def f70 (v1 : DT1) (v2 : Int) : Option (DT1 × Unit) :=
 ((fCloneHeld v1)).bind fun y3 =>
 ((iter big u70_138_2_0 (((), (), (y3.1.length : Int), 0, ()), ((v2, ()), y3.1, ()), ()))).bind fun r => match r with
 | .inl y4 =>
   some (y4.2.1.2.1, ())
 | .inr z5 =>
   cond (decide (z5.1.1 = (-1))) (
    some (z5.2.1.2.1, ())) (
    ((iter big u70_113_5_0 (((), (), z5.1.1, (IntKind.wrap .i64 (z5.1.1 + 1)), ()), ((z5.2.1.1.1, ()), z5.2.1.2.1, ()), ()))).bind fun r => match r with
    | .inl y6 =>
      cond (((decide (0 ≤ y6.1.2.1)) && (decide (y6.1.2.1 ≤ (((y6.2.1.2.1.length - 0) : Nat) : Int)))) && (decide ((0 + (((y6.2.1.2.1.length - 0) : Nat) : Int)) ≤ (y6.2.1.2.1.length : Int)))) (
       cond ((decide (0 ≤ y6.1.2.1)) && (decide ((0 + y6.1.2.1) ≤ (((((List.take (0 + (Int.toNat y6.1.2.1)) y6.2.1.2.1) ++ (List.replicate ((0 + (Int.toNat (((y6.2.1.2.1.length - 0) : Nat) : Int))) - (0 + (Int.toNat y6.1.2.1))) (0, 0, 0))) ++ (List.drop ((0 + (Int.toNat y6.1.2.1)) + ((0 + (Int.toNat (((y6.2.1.2.1.length - 0) : Nat) : Int))) - (0 + (Int.toNat y6.1.2.1)))) y6.2.1.2.1)).length : Nat) : Int)))) (
        some ((List.take (0 + (Int.toNat y6.1.2.1)) (((List.take (0 + (Int.toNat y6.1.2.1)) y6.2.1.2.1) ++ (List.replicate ((0 + (Int.toNat (((y6.2.1.2.1.length - 0) : Nat) : Int))) - (0 + (Int.toNat y6.1.2.1))) (0, 0, 0))) ++ (List.drop ((0 + (Int.toNat y6.1.2.1)) + ((0 + (Int.toNat (((y6.2.1.2.1.length - 0) : Nat) : Int))) - (0 + (Int.toNat y6.1.2.1)))) y6.2.1.2.1))), ())) (
        none)) (
       none)
    | .inr z7 =>
      none)
abbrev X157_4 : Type := (DT1 × Int × Unit × DT1 × Int × Int × Unit) × (DT17 × Unit) × (Unit)
abbrev Y157_4 : Type := DT35 × (Unit) × (Unit)
abbrev Z157_4 : Type := DT15 × (Unit) × (Unit)
noncomputable def t157_4 (v1 : DT1) (v2 : Int) (v3 : DT1) (v4 v5 v6 v7 v8 : Int) : Option (R3 X157_4 Y157_4 Z157_4) :=
 cond (decide (v5 < v4)) (
  cond ((decide (0 ≤ v5)) && (decide (v5 < (v3.length : Int)))) (
   cond (decide (v5 = v2)) (
    some (R3.next ((v1, v2, (), v3, v4, (IntKind.wrap .i64 (v5 + 1)), ()), ((v6, v7, v8, ()), ()), ()))) (
    ((f91 v6 v7 v8 (rd dT2 v3 (Int.toNat v5)).1 (rd dT2 v3 (Int.toNat v5)).2.1 (rd dT2 v3 (Int.toNat v5)).2.2)).bind fun y9 =>
    cond y9.1 (
     some (R3.ret ((11, ()), (), ()))) (
     some (R3.next ((v1, v2, (), v3, v4, (IntKind.wrap .i64 (v5 + 1)), ()), ((v6, v7, v8, ()), ()), ()))))) (
   none)) (
  some (R3.out ((v1, v2, ()), (), ())))
noncomputable def u157_4 (z : X157_4) : Option (R3 X157_4 Y157_4 Z157_4) := t157_4 z.1.1 z.1.2.1 z.1.2.2.2.1 z.1.2.2.2.2.1 z.1.2.2.2.2.2.1 z.2.1.1.1 z.2.1.1.2.1 z.2.1.1.2.2.1
noncomputable def f157 (v1 v2 v3 v4 v5 v6 : Int) (v7 : DT25) (v8 : DT1) (v9 v10 v11 v12 : Int) : Option DT15 :=
 ((f92 v10 v11 v12 v2)).bind fun y13 =>
 cond (!y13.1) (
  some (1, ())) (
  ((iter big u157_4 ((v8, v9, (), v8, (v8.length : Int), 0, ()), ((v10, v11, v12, ()), ()), ()))).bind fun r => match r with
  | .inl y14 =>
    cond (decide (y14.1.2.1 = (-1))) (
     cond (decide ((y14.1.1.length : Int) = 3)) (
      some (9, ())) (
      some (0, ()))) (
     some (0, ()))
  | .inr z15 =>
    some (z15.1.1, ()))
abbrev X139_184_2_0 : Type := (DT25 × Unit × Int × Int × Unit) × DT32 × (Unit)
abbrev Y139_184_2_0 : Type := (Unit) × DT32 × (Unit)
abbrev Z139_184_2_0 : Type := DT15 × DT32 × (Unit)
noncomputable def t139_184_2_0 (v1 : DT25) (v2 v3 v4 v5 v6 v7 v8 v9 : Int) (v10 : DT25) (v11 : DT1) (v12 v13 v14 v15 v16 v17 : Int) : Option (R3 X139_184_2_0 Y139_184_2_0 Z139_184_2_0) :=
 cond (decide (v3 < v2)) (
  cond ((decide (0 ≤ v3)) && (decide (v3 < (v1.length : Int)))) (
   cond ((decide (0 ≤ v6)) && (decide (v6 < (v11.length : Int)))) (
    ((f55 (rd dT2 v11 (Int.toNat v6)).1 (rd dT2 v11 (Int.toNat v6)).2.1 (rd dT2 v11 (Int.toNat v6)).2.2 (rd (.int .i64) v1 (Int.toNat v3)))).bind fun y18 =>
    cond y18.1 (
     ((f55 v15 v16 v17 (rd (.int .i64) v1 (Int.toNat v3)))).bind fun y19 =>
     cond (!y19.1) (
      some (R3.ret ((v3, ()), ((v4, v5, v6, v7, v8, v9, v10, ()), (v11, ()), (v12, v13, v14, ()), (v15, v16, v17, ()), ()), ()))) (
      some (R3.next ((v1, (), v2, (IntKind.wrap .i64 (v3 + 1)), ()), ((v4, v5, v6, v7, v8, v9, v10, ()), (v11, ()), (v12, v13, v14, ()), (v15, v16, v17, ()), ()), ())))) (
     some (R3.next ((v1, (), v2, (IntKind.wrap .i64 (v3 + 1)), ()), ((v4, v5, v6, v7, v8, v9, v10, ()), (v11, ()), (v12, v13, v14, ()), (v15, v16, v17, ()), ()), ())))) (
    none)) (
   none)) (
  some (R3.out ((), ((v4, v5, v6, v7, v8, v9, v10, ()), (v11, ()), (v12, v13, v14, ()), (v15, v16, v17, ()), ()), ())))
noncomputable def u139_184_2_0 (z : X139_184_2_0) : Option (R3 X139_184_2_0 Y139_184_2_0 Z139_184_2_0) := t139_184_2_0 z.1.1 z.1.2.2.1 z.1.2.2.2.1 z.2.1.1.1 z.2.1.1.2.1 z.2.1.1.2.2.1 z.2.1.1.2.2.2.1 z.2.1.1.2.2.2.2.1 z.2.1.1.2.2.2.2.2.1 z.2.1.1.2.2.2.2.2.2.1 z.2.1.2.1.1 z.2.1.2.2.1.1 z.2.1.2.2.1.2.1 z.2.1.2.2.1.2.2.1 z.2.1.2.2.2.1.1 z.2.1.2.2.2.1.2.1 z.2.1.2.2.2.1.2.2.1
abbrev X139_184_2_1 : Type := (DT25 × Unit × Int × Int × Unit) × DT36 × (Unit)
abbrev Y139_184_2_1 : Type := (Unit) × DT36 × (Unit)
abbrev Z139_184_2_1 : Type := DT15 × DT36 × (Unit)
noncomputable def t139_184_2_1 (v1 : DT25) (v2 v3 v4 v5 v6 v7 v8 v9 : Int) (v10 : DT25) (v11 : DT1) (v12 v13 v14 : Int) : Option (R3 X139_184_2_1 Y139_184_2_1 Z139_184_2_1) :=
 cond (decide (v3 < v2)) (
  cond ((decide (0 ≤ v3)) && (decide (v3 < (v1.length : Int)))) (
   cond ((decide (0 ≤ v6)) && (decide (v6 < (v11.length : Int)))) (
    ((f55 (rd dT2 v11 (Int.toNat v6)).1 (rd dT2 v11 (Int.toNat v6)).2.1 (rd dT2 v11 (Int.toNat v6)).2.2 (rd (.int .i64) v1 (Int.toNat v3)))).bind fun y15 =>
    cond y15.1 (
     ((f55 v12 v13 v14 (rd (.int .i64) v1 (Int.toNat v3)))).bind fun y16 =>
     cond (!y16.1) (
      some (R3.ret ((v3, ()), ((v4, v5, v6, v7, v8, v9, v10, ()), (v11, ()), (v12, v13, v14, ()), ()), ()))) (
      some (R3.next ((v1, (), v2, (IntKind.wrap .i64 (v3 + 1)), ()), ((v4, v5, v6, v7, v8, v9, v10, ()), (v11, ()), (v12, v13, v14, ()), ()), ())))) (
     some (R3.next ((v1, (), v2, (IntKind.wrap .i64 (v3 + 1)), ()), ((v4, v5, v6, v7, v8, v9, v10, ()), (v11, ()), (v12, v13, v14, ()), ()), ())))) (
    none)) (
   none)) (
  some (R3.out ((), ((v4, v5, v6, v7, v8, v9, v10, ()), (v11, ()), (v12, v13, v14, ()), ()), ())))
noncomputable def u139_184_2_1 (z : X139_184_2_1) : Option (R3 X139_184_2_1 Y139_184_2_1 Z139_184_2_1) := t139_184_2_1 z.1.1 z.1.2.2.1 z.1.2.2.2.1 z.2.1.1.1 z.2.1.1.2.1 z.2.1.1.2.2.1 z.2.1.1.2.2.2.1 z.2.1.1.2.2.2.2.1 z.2.1.1.2.2.2.2.2.1 z.2.1.1.2.2.2.2.2.2.1 z.2.1.2.1.1 z.2.1.2.2.1.1 z.2.1.2.2.1.2.1 z.2.1.2.2.1.2.2.1
noncomputable def f139 (v1 v2 v3 v4 v5 v6 : Int) (v7 : DT25) (v8 : DT1) : Option DT15 :=
 ((f45 v8 v2)).bind fun y9 =>
 cond (!y9.1) (
  some (1, ())) (
  cond (!(decide (v1 = 0))) (
   cond (decide (v3 < 0)) (
    some (5, ())) (
    cond (decide ((v8.length : Int) ≤ v3)) (
     some (5, ())) (
     cond (decide (v1 = 0)) (
      ((f157 v1 v2 v3 v4 v5 v6 v7 v8 (-1) v4 v5 v6)).bind fun y10 =>
      some (y10.1, ())) (
      cond (decide (v1 = 1)) (
       cond ((decide (0 ≤ v3)) && (decide (v3 < (v8.length : Int)))) (
        cond (decide ((rd dT2 v8 (Int.toNat v3)).2.2 = 1)) (
         some (11, ())) (
         some (0, ()))) (
        none)) (
       cond (decide (v1 = 2)) (
        cond ((decide (0 ≤ v3)) && (decide (v3 < (v8.length : Int)))) (
         ((f157 v1 v2 v3 v4 v5 v6 v7 v8 v3 (rd dT2 v8 (Int.toNat v3)).1 v5 (rd dT2 v8 (Int.toNat v3)).2.2)).bind fun y11 =>
         cond (!(decide (y11.1 = 0))) (
          some (y11.1, ())) (
          ((iter big u139_184_2_0 ((v7, (), (v7.length : Int), 0, ()), ((v1, v2, v3, v4, v5, v6, v7, ()), (v8, ()), ((rd dT2 v8 (Int.toNat v3)).1, v5, (rd dT2 v8 (Int.toNat v3)).2.2, ()), ((rd dT2 v8 (Int.toNat v3)).1, v5, (rd dT2 v8 (Int.toNat v3)).2.2, ()), ()), ()))).bind fun r => match r with
          | .inl y12 =>
            some (0, ())
          | .inr z13 =>
            cond (decide (0 ≤ z13.1.1)) (
             some (12, ())) (
             some (0, ())))) (
         none)) (
        cond (decide (v1 = 3)) (
         cond ((decide (0 ≤ v3)) && (decide (v3 < (v8.length : Int)))) (
          cond (decide ((rd dT2 v8 (Int.toNat v3)).2.2 = 0)) (
           some (12, ())) (
           ((iter big u139_184_2_1 ((v7, (), (v7.length : Int), 0, ()), ((v1, v2, v3, v4, v5, v6, v7, ()), (v8, ()), (0, 0, 0, ()), ()), ()))).bind fun r => match r with
           | .inl y14 =>
             some (0, ())
           | .inr z15 =>
             cond (decide (0 ≤ z15.1.1)) (
              some (12, ())) (
              some (0, ())))) (
          none)) (
         some (0, ())))))))) (
   cond (decide (v1 = 0)) (
    ((f157 v1 v2 v3 v4 v5 v6 v7 v8 (-1) v4 v5 v6)).bind fun y16 =>
    some (y16.1, ())) (
    cond (decide (v1 = 1)) (
     cond ((decide (0 ≤ v3)) && (decide (v3 < (v8.length : Int)))) (
      cond (decide ((rd dT2 v8 (Int.toNat v3)).2.2 = 1)) (
       some (11, ())) (
       some (0, ()))) (
      none)) (
     cond (decide (v1 = 2)) (
      cond ((decide (0 ≤ v3)) && (decide (v3 < (v8.length : Int)))) (
       ((f157 v1 v2 v3 v4 v5 v6 v7 v8 v3 (rd dT2 v8 (Int.toNat v3)).1 v5 (rd dT2 v8 (Int.toNat v3)).2.2)).bind fun y17 =>
       cond (!(decide (y17.1 = 0))) (
        some (y17.1, ())) (
        ((iter big u139_184_2_0 ((v7, (), (v7.length : Int), 0, ()), ((v1, v2, v3, v4, v5, v6, v7, ()), (v8, ()), ((rd dT2 v8 (Int.toNat v3)).1, v5, (rd dT2 v8 (Int.toNat v3)).2.2, ()), ((rd dT2 v8 (Int.toNat v3)).1, v5, (rd dT2 v8 (Int.toNat v3)).2.2, ()), ()), ()))).bind fun r => match r with
        | .inl y18 =>
          some (0, ())
        | .inr z19 =>
          cond (decide (0 ≤ z19.1.1)) (
           some (12, ())) (
           some (0, ())))) (
       none)) (
      cond (decide (v1 = 3)) (
       cond ((decide (0 ≤ v3)) && (decide (v3 < (v8.length : Int)))) (
        cond (decide ((rd dT2 v8 (Int.toNat v3)).2.2 = 0)) (
         some (12, ())) (
         ((iter big u139_184_2_1 ((v7, (), (v7.length : Int), 0, ()), ((v1, v2, v3, v4, v5, v6, v7, ()), (v8, ()), (0, 0, 0, ()), ()), ()))).bind fun r => match r with
         | .inl y20 =>
           some (0, ())
         | .inr z21 =>
           cond (decide (0 ≤ z21.1.1)) (
            some (12, ())) (
            some (0, ())))) (
        none)) (
       some (0, ())))))))
noncomputable def f115 (v1 v2 v3 v4 v5 v6 : Int) (v7 : DT25) (v8 : DT1) : Option DT35 :=
 ((fClonePool v8)).bind fun y9 =>
 ((f139 v1 v2 v3 v4 v5 v6 v7 v8)).bind fun y10 =>
 cond (!(decide (y10.1 = 0))) (
  some (y9.1, y10.1, ())) (
  cond (decide (v1 = 0)) (
   cond ((decide (((y9.1.length + 1) * 24) ≤ 140737488355328)) && (decide ((y9.1.length + 1) ≤ 9223372036854775807))) (
    some ((y9.1 ++ [(v4, v5, v6)]), 0, ())) (
    none)) (
   cond (decide (v1 = 1)) (
    cond ((decide (0 ≤ v3)) && (decide (v3 < (y9.1.length : Int)))) (
     cond (decide ((Int.toNat v3) < y9.1.length)) (
      some ((y9.1.set (Int.toNat v3) ((rd dT2 y9.1 (Int.toNat v3)).1, (rd dT2 y9.1 (Int.toNat v3)).2.1, 1)), 0, ())) (
      none)) (
     none)) (
    cond (decide (v1 = 2)) (
     cond ((decide (0 ≤ v3)) && (decide (v3 < (y9.1.length : Int)))) (
      cond (decide ((Int.toNat v3) < y9.1.length)) (
       some ((y9.1.set (Int.toNat v3) ((rd dT2 y9.1 (Int.toNat v3)).1, v5, (rd dT2 y9.1 (Int.toNat v3)).2.2)), 0, ())) (
       none)) (
      none)) (
     cond ((((decide (0 ≤ v3)) && (decide (v3 ≤ (IntKind.wrap .i64 (v3 + 1))))) && (decide ((IntKind.wrap .i64 (v3 + 1)) ≤ (y9.1.length : Int)))) && (decide ((0 + (y9.1.length : Int)) ≤ (y9.1.length : Int)))) (
      cond (decide (v3 = (IntKind.wrap .i64 (v3 + 1)))) (
       some (y9.1, 0, ())) (
       cond ((decide (0 ≤ v3)) && (decide ((0 + v3) ≤ (y9.1.length : Int)))) (
        cond (((decide (0 ≤ (IntKind.wrap .i64 (v3 + 1)))) && (decide ((IntKind.wrap .i64 (v3 + 1)) ≤ (((y9.1.length - 0) : Nat) : Int)))) && (decide ((0 + (((y9.1.length - 0) : Nat) : Int)) ≤ (y9.1.length : Int)))) (
         cond (decide (((0 + (Int.toNat v3)) + (List.drop (0 + (Int.toNat (IntKind.wrap .i64 (v3 + 1)))) (List.take (0 + (Int.toNat (((y9.1.length - 0) : Nat) : Int))) y9.1)).length) ≤ y9.1.length)) (
          cond (((decide (0 ≤ (((((0 + (Int.toNat v3)) + (List.drop (0 + (Int.toNat (IntKind.wrap .i64 (v3 + 1)))) (List.take (0 + (Int.toNat (((y9.1.length - 0) : Nat) : Int))) y9.1)).length) - 0) : Nat) : Int))) && (decide ((((((0 + (Int.toNat v3)) + (List.drop (0 + (Int.toNat (IntKind.wrap .i64 (v3 + 1)))) (List.take (0 + (Int.toNat (((y9.1.length - 0) : Nat) : Int))) y9.1)).length) - 0) : Nat) : Int) ≤ (y9.1.length : Int)))) && (decide ((0 + (y9.1.length : Int)) ≤ (((((List.take (0 + (Int.toNat v3)) y9.1) ++ (List.drop (0 + (Int.toNat (IntKind.wrap .i64 (v3 + 1)))) (List.take (0 + (Int.toNat (((y9.1.length - 0) : Nat) : Int))) y9.1))) ++ (List.drop ((0 + (Int.toNat v3)) + (List.drop (0 + (Int.toNat (IntKind.wrap .i64 (v3 + 1)))) (List.take (0 + (Int.toNat (((y9.1.length - 0) : Nat) : Int))) y9.1)).length) y9.1)).length : Nat) : Int)))) (
           some ((List.take ((0 + (Int.toNat v3)) + (List.drop (0 + (Int.toNat (IntKind.wrap .i64 (v3 + 1)))) (List.take (0 + (Int.toNat (((y9.1.length - 0) : Nat) : Int))) y9.1)).length) (((List.take (0 + (Int.toNat (((((0 + (Int.toNat v3)) + (List.drop (0 + (Int.toNat (IntKind.wrap .i64 (v3 + 1)))) (List.take (0 + (Int.toNat (((y9.1.length - 0) : Nat) : Int))) y9.1)).length) - 0) : Nat) : Int))) (((List.take (0 + (Int.toNat v3)) y9.1) ++ (List.drop (0 + (Int.toNat (IntKind.wrap .i64 (v3 + 1)))) (List.take (0 + (Int.toNat (((y9.1.length - 0) : Nat) : Int))) y9.1))) ++ (List.drop ((0 + (Int.toNat v3)) + (List.drop (0 + (Int.toNat (IntKind.wrap .i64 (v3 + 1)))) (List.take (0 + (Int.toNat (((y9.1.length - 0) : Nat) : Int))) y9.1)).length) y9.1))) ++ (List.replicate ((0 + (Int.toNat (y9.1.length : Int))) - (0 + (Int.toNat (((((0 + (Int.toNat v3)) + (List.drop (0 + (Int.toNat (IntKind.wrap .i64 (v3 + 1)))) (List.take (0 + (Int.toNat (((y9.1.length - 0) : Nat) : Int))) y9.1)).length) - 0) : Nat) : Int)))) (0, 0, 0))) ++ (List.drop ((0 + (Int.toNat (((((0 + (Int.toNat v3)) + (List.drop (0 + (Int.toNat (IntKind.wrap .i64 (v3 + 1)))) (List.take (0 + (Int.toNat (((y9.1.length - 0) : Nat) : Int))) y9.1)).length) - 0) : Nat) : Int))) + ((0 + (Int.toNat (y9.1.length : Int))) - (0 + (Int.toNat (((((0 + (Int.toNat v3)) + (List.drop (0 + (Int.toNat (IntKind.wrap .i64 (v3 + 1)))) (List.take (0 + (Int.toNat (((y9.1.length - 0) : Nat) : Int))) y9.1)).length) - 0) : Nat) : Int))))) (((List.take (0 + (Int.toNat v3)) y9.1) ++ (List.drop (0 + (Int.toNat (IntKind.wrap .i64 (v3 + 1)))) (List.take (0 + (Int.toNat (((y9.1.length - 0) : Nat) : Int))) y9.1))) ++ (List.drop ((0 + (Int.toNat v3)) + (List.drop (0 + (Int.toNat (IntKind.wrap .i64 (v3 + 1)))) (List.take (0 + (Int.toNat (((y9.1.length - 0) : Nat) : Int))) y9.1)).length) y9.1))))), 0, ())) (
           none)) (
          none)) (
         none)) (
        none))) (
      none)))))
noncomputable def f72 (v1 : DT1) (v2 v3 v4 : Int) : Option DT35 :=
 ((f115 0 v2 0 v3 v4 0 [] v1)).bind fun y5 =>
 some (y5.1, y5.2.1, ())
noncomputable def f73 (v1 : DT1) (v2 v3 : Int) : Option DT35 :=
 ((f115 1 v2 v3 0 0 0 [] v1)).bind fun y4 =>
 some (y4.1, y4.2.1, ())
noncomputable def f74 (v1 : DT1) (v2 v3 v4 : Int) (v5 : DT25) : Option DT35 :=
 ((f115 2 v2 v3 0 v4 0 v5 v1)).bind fun y6 =>
 some (y6.1, y6.2.1, ())
abbrev X75_3 : Type := (DT4 × Int × Int × Unit) × (Unit) × DT25 × Unit
abbrev Y75_3 : Type := (Unit) × (Unit) × DT25 × Unit
abbrev Z75_3 : Type := Unit × Unit × Unit
noncomputable def t75_3 (v1 : DT4) (v2 v3 : Int) (v4 : DT25) : Option (R3 X75_3 Y75_3 Z75_3) :=
 cond (decide (v3 < v2)) (
  cond ((decide (0 ≤ v3)) && (decide (v3 < (v1.length : Int)))) (
   ((f98 (rd dT1 v1 (Int.toNat v3)).1 (rd dT1 v1 (Int.toNat v3)).2.1 (rd dT1 v1 (Int.toNat v3)).2.2.1 (rd dT1 v1 (Int.toNat v3)).2.2.2.1 (rd dT1 v1 (Int.toNat v3)).2.2.2.2)).bind fun y5 =>
   cond ((decide (((v4.length + 1) * 8) ≤ 140737488355328)) && (decide ((v4.length + 1) ≤ 9223372036854775807))) (
    some (R3.next ((v1, v2, (IntKind.wrap .i64 (v3 + 1)), ()), (), (v4 ++ [y5.1.1.1]), ()))) (
    none)) (
   none)) (
  some (R3.out ((), (), v4, ())))
noncomputable def u75_3 (z : X75_3) : Option (R3 X75_3 Y75_3 Z75_3) := t75_3 z.1.1 z.1.2.1 z.1.2.2.1 z.2.2.1
noncomputable def f75 (v1 : DT4) : Option (DT25 × Unit) :=
 ((iter big u75_3 ((v1, (v1.length : Int), 0, ()), (), [], ()))).bind fun r => match r with
 | .inl y2 =>
   ((fSort y2.2.2.1)).bind fun y4 =>
   cond ((Nat.beq y4.length y2.2.2.1.length) && true) (
    ((fCompact y4)).bind fun y5 =>
    some (y5, ())) (
    none)
 | .inr z3 =>
   none
noncomputable def f76 (v1 : DT1) (v2 v3 : Int) (v4 : DT25) : Option DT35 :=
 ((f115 3 v2 v3 0 0 0 v4 v1)).bind fun y5 =>
 some (y5.1, y5.2.1, ())
noncomputable def f40 (v1 v2 v3 v4 v5 v6 v7 v8 v9 v10 v11 : Int) (v12 : Bool) (v13 : Int) (v14 : DT1) (v15 : DT4) (v16 : DT1) : Option (DT19 × Unit) :=
 ((fClonePool v14)).bind fun y17 =>
 ((fCloneLease v15)).bind fun y18 =>
 ((fCloneHeld v16)).bind fun y19 =>
 some ((((v1, v2), (v3, v4), v5, v6, v7, v8), (v9, v10, v11, v12), v13, y17.1, y18.1, y19.1), ())
abbrev X60_4 : Type := (DT4 × DT4 × Int × Int × Unit) × (Unit) × (Unit)
abbrev Y60_4 : Type := (Unit) × (Unit) × (Unit)
abbrev Z60_4 : Type := DT18 × (Unit) × (Unit)
noncomputable def t60_4 (v1 v2 : DT4) (v3 v4 : Int) : Option (R3 X60_4 Y60_4 Z60_4) :=
 cond (decide (v4 < v3)) (
  cond ((decide (0 ≤ v4)) && (decide (v4 < (v1.length : Int)))) (
   cond ((decide (0 ≤ v4)) && (decide (v4 < (v2.length : Int)))) (
    cond (!((decide ((rd dT1 v1 (Int.toNat v4)).1 = (rd dT1 v2 (Int.toNat v4)).1)) && ((decide ((rd dT1 v1 (Int.toNat v4)).2.1 = (rd dT1 v2 (Int.toNat v4)).2.1)) && ((decide ((rd dT1 v1 (Int.toNat v4)).2.2.1 = (rd dT1 v2 (Int.toNat v4)).2.2.1)) && ((decide ((rd dT1 v1 (Int.toNat v4)).2.2.2.1 = (rd dT1 v2 (Int.toNat v4)).2.2.2.1)) && ((decide ((rd dT1 v1 (Int.toNat v4)).2.2.2.2 = (rd dT1 v2 (Int.toNat v4)).2.2.2.2)) && true)))))) (
     some (R3.ret ((false, ()), (), ()))) (
     some (R3.next ((v1, v2, v3, (IntKind.wrap .i64 (v4 + 1)), ()), (), ())))) (
    none)) (
   none)) (
  some (R3.out ((), (), ())))
noncomputable def u60_4 (z : X60_4) : Option (R3 X60_4 Y60_4 Z60_4) := t60_4 z.1.1 z.1.2.1 z.1.2.2.1 z.1.2.2.2.1
noncomputable def f60 (v1 v2 : DT4) : Option DT18 :=
 cond (!(decide ((v1.length : Int) = (v2.length : Int)))) (
  some (false, ())) (
  ((iter big u60_4 ((v1, v2, (v1.length : Int), 0, ()), (), ()))).bind fun r => match r with
  | .inl y3 =>
    some (true, ())
  | .inr z4 =>
    some (z4.1.1, ()))
noncomputable def f25 (v1 v2 : DT4) : Option DT18 :=
 ((f60 v1 v2)).bind fun y3 =>
 some (y3.1, ())
abbrev X61_4 : Type := (DT1 × DT1 × Int × Int × Unit) × (Unit) × (Unit)
abbrev Y61_4 : Type := (Unit) × (Unit) × (Unit)
abbrev Z61_4 : Type := DT18 × (Unit) × (Unit)
noncomputable def t61_4 (v1 v2 : DT1) (v3 v4 : Int) : Option (R3 X61_4 Y61_4 Z61_4) :=
 cond (decide (v4 < v3)) (
  cond ((decide (0 ≤ v4)) && (decide (v4 < (v1.length : Int)))) (
   cond ((decide (0 ≤ v4)) && (decide (v4 < (v2.length : Int)))) (
    cond (!((decide ((rd dT2 v1 (Int.toNat v4)).1 = (rd dT2 v2 (Int.toNat v4)).1)) && ((decide ((rd dT2 v1 (Int.toNat v4)).2.1 = (rd dT2 v2 (Int.toNat v4)).2.1)) && ((decide ((rd dT2 v1 (Int.toNat v4)).2.2 = (rd dT2 v2 (Int.toNat v4)).2.2)) && true)))) (
     some (R3.ret ((false, ()), (), ()))) (
     some (R3.next ((v1, v2, v3, (IntKind.wrap .i64 (v4 + 1)), ()), (), ())))) (
    none)) (
   none)) (
  some (R3.out ((), (), ())))
noncomputable def u61_4 (z : X61_4) : Option (R3 X61_4 Y61_4 Z61_4) := t61_4 z.1.1 z.1.2.1 z.1.2.2.1 z.1.2.2.2.1
noncomputable def f61 (v1 v2 : DT1) : Option DT18 :=
 cond (!(decide ((v1.length : Int) = (v2.length : Int)))) (
  some (false, ())) (
  ((iter big u61_4 ((v1, v2, (v1.length : Int), 0, ()), (), ()))).bind fun r => match r with
  | .inl y3 =>
    some (true, ())
  | .inr z4 =>
    some (z4.1.1, ()))
noncomputable def f26 (v1 v2 : DT1) : Option DT18 :=
 ((f61 v1 v2)).bind fun y3 =>
 some (y3.1, ())
abbrev X79_4 : Type := (DT1 × DT1 × Int × Int × Unit) × (Unit) × (Unit)
abbrev Y79_4 : Type := (Unit) × (Unit) × (Unit)
abbrev Z79_4 : Type := DT18 × (Unit) × (Unit)
noncomputable def t79_4 (v1 v2 : DT1) (v3 v4 : Int) : Option (R3 X79_4 Y79_4 Z79_4) :=
 cond (decide (v4 < v3)) (
  cond ((decide (0 ≤ v4)) && (decide (v4 < (v1.length : Int)))) (
   cond ((decide (0 ≤ v4)) && (decide (v4 < (v2.length : Int)))) (
    cond (!((decide ((rd dT2 v1 (Int.toNat v4)).1 = (rd dT2 v2 (Int.toNat v4)).1)) && ((decide ((rd dT2 v1 (Int.toNat v4)).2.1 = (rd dT2 v2 (Int.toNat v4)).2.1)) && ((decide ((rd dT2 v1 (Int.toNat v4)).2.2 = (rd dT2 v2 (Int.toNat v4)).2.2)) && true)))) (
     some (R3.ret ((false, ()), (), ()))) (
     some (R3.next ((v1, v2, v3, (IntKind.wrap .i64 (v4 + 1)), ()), (), ())))) (
    none)) (
   none)) (
  some (R3.out ((), (), ())))
noncomputable def u79_4 (z : X79_4) : Option (R3 X79_4 Y79_4 Z79_4) := t79_4 z.1.1 z.1.2.1 z.1.2.2.1 z.1.2.2.2.1
noncomputable def f79 (v1 v2 : DT1) : Option DT18 :=
 cond (!(decide ((v1.length : Int) = (v2.length : Int)))) (
  some (false, ())) (
  ((iter big u79_4 ((v1, v2, (v1.length : Int), 0, ()), (), ()))).bind fun r => match r with
  | .inl y3 =>
    some (true, ())
  | .inr z4 =>
    some (z4.1.1, ()))
noncomputable def f42 (v1 v2 : DT1) : Option DT18 :=
 ((f79 v1 v2)).bind fun y3 =>
 some (y3.1, ())
noncomputable def f14 (v1 v2 v3 v4 v5 v6 v7 v8 v9 v10 v11 : Int) (v12 : Bool) (v13 : Int) (v14 : DT1) (v15 : DT4) (v16 : DT1) (v17 v18 v19 v20 v21 v22 v23 v24 v25 v26 v27 : Int) (v28 : Bool) (v29 : Int) (v30 : DT1) (v31 : DT4) (v32 : DT1) : Option DT18 :=
 cond (((decide (v1 = v17)) && ((decide (v2 = v18)) && true)) && (((decide (v3 = v19)) && ((decide (v4 = v20)) && true)) && ((decide (v5 = v21)) && ((decide (v6 = v22)) && ((decide (v7 = v23)) && ((decide (v8 = v24)) && true)))))) (
  cond ((decide (v9 = v25)) && ((decide (v10 = v26)) && ((decide (v11 = v27)) && ((v12 == v28) && true)))) (
   cond (decide (v13 = v29)) (
    ((f26 v14 v30)).bind fun y33 =>
    cond y33.1 (
     ((f25 v15 v31)).bind fun y34 =>
     cond y34.1 (
      ((f42 v16 v32)).bind fun y35 =>
      some (y35.1, ())) (
      some (false, ()))) (
     some (false, ()))) (
    some (false, ()))) (
   some (false, ()))) (
  some (false, ()))
noncomputable def f16 (v1 v2 v3 v4 v5 v6 v7 v8 v9 v10 v11 : Int) (v12 : Bool) : Option (DT19 × Bool × Unit) :=
 ((f15 v1 v2 v3 v4 v5 v6 v7 v8 v9 v10 v11 v12 0 [] [] [])).bind fun y13 =>
 cond (!y13.1) (
  some ((((0, 0), (0, 0), 0, 0, 0, 0), (0, 0, 0, false), 0, [], [], []), false, ())) (
  some ((((v1, v2), (v3, v4), v5, v6, v7, v8), (v9, v10, v11, v12), 0, [], [], []), true, ()))
noncomputable def f27  : Option ((DT26 × DT26 × Int × Int × Int × Int) × Unit) :=
 some (((167772160, 31), (184549376, 32), 1000, 1099, 20, 10), ())
abbrev X68_134_2_0 : Type := (DT0 × Unit × Int × Int × Unit) × (DT28 × DT15 × DT29 × Unit) × DT0 × Unit
abbrev Y68_134_2_0 : Type := (Unit) × (DT28 × DT15 × DT29 × Unit) × DT0 × Unit
abbrev Z68_134_2_0 : Type := DT15 × (DT28 × DT15 × DT29 × Unit) × DT0 × Unit
noncomputable def t68_134_2_0 (v1 : DT0) (v2 v3 v4 : Int) (v5 : DT0) (v6 v7 : Int) (v8 : DT0) : Option (R3 X68_134_2_0 Y68_134_2_0 Z68_134_2_0) :=
 cond (decide (v3 < v2)) (
  cond ((decide (0 ≤ v3)) && (decide (v3 < (v1.length : Int)))) (
   cond (decide ((rd dT0 v1 (Int.toNat v3)).1 = v6)) (
    some (R3.ret ((v3, ()), ((v4, v5, ()), (v6, ()), (v7, (), ()), ()), v8, ()))) (
    some (R3.next ((v1, (), v2, (IntKind.wrap .i64 (v3 + 1)), ()), ((v4, v5, ()), (v6, ()), (v7, (), ()), ()), v8, ())))) (
   none)) (
  some (R3.out ((), ((v4, v5, ()), (v6, ()), (v7, (), ()), ()), v8, ())))
noncomputable def u68_134_2_0 (z : X68_134_2_0) : Option (R3 X68_134_2_0 Y68_134_2_0 Z68_134_2_0) := t68_134_2_0 z.1.1 z.1.2.2.1 z.1.2.2.2.1 z.2.1.1.1 z.2.1.1.2.1 z.2.1.2.1.1 z.2.1.2.2.1.1 z.2.2.1
abbrev X68_108_3_0 : Type := (Unit × DT0 × Int × Int × Unit) × (DT28 × DT15 × DT29 × DT0 × DT22 × Unit) × DT0 × DT0 × DT0 × DT0 × DT0 × DT0 × DT0 × DT0 × Unit
abbrev Y68_108_3_0 : Type := (Unit × Unit) × (DT28 × DT15 × DT29 × DT0 × DT22 × Unit) × DT0 × DT0 × DT0 × DT0 × DT0 × DT0 × DT0 × DT0 × Unit
abbrev Z68_108_3_0 : Type := Unit × (Unit × Unit × Unit × Unit × Unit) × Unit
noncomputable def t68_108_3_0 (v1 : DT0) (v2 v3 v4 : Int) (v5 : DT0) (v6 v7 : Int) (v8 : DT0) (v9 : Int) (v10 v11 v12 v13 v14 v15 v16 v17 : DT0) : Option (R3 X68_108_3_0 Y68_108_3_0 Z68_108_3_0) :=
 cond (decide (v3 < v2)) (
  cond ((decide (0 ≤ v3)) && (decide (v3 < (v1.length : Int)))) (
   ((f135 (rd dT0 v1 (Int.toNat v3)).2)).bind fun y18 =>
   cond (decide (y18.1 = 0)) (
    cond ((decide (((v10.length + 1) * 16) ≤ 140737488355328)) && (decide ((v10.length + 1) ≤ 9223372036854775807))) (
     some (R3.next (((), v1, v2, (IntKind.wrap .i64 (v3 + 1)), ()), ((v4, v5, ()), (v6, ()), (v7, (), ()), v8, (v9, (), (), (), (), (), (), (), (), ()), ()), (v10 ++ [((rd dT0 v1 (Int.toNat v3)).1, (rd dT0 v1 (Int.toNat v3)).2)]), v11, v12, v13, v14, v15, v16, v17, ()))) (
     none)) (
    cond (decide (y18.1 = 1)) (
     cond ((decide (((v11.length + 1) * 16) ≤ 140737488355328)) && (decide ((v11.length + 1) ≤ 9223372036854775807))) (
      some (R3.next (((), v1, v2, (IntKind.wrap .i64 (v3 + 1)), ()), ((v4, v5, ()), (v6, ()), (v7, (), ()), v8, (v9, (), (), (), (), (), (), (), (), ()), ()), v10, (v11 ++ [((rd dT0 v1 (Int.toNat v3)).1, (rd dT0 v1 (Int.toNat v3)).2)]), v12, v13, v14, v15, v16, v17, ()))) (
      none)) (
     cond (decide (y18.1 = 2)) (
      cond ((decide (((v12.length + 1) * 16) ≤ 140737488355328)) && (decide ((v12.length + 1) ≤ 9223372036854775807))) (
       some (R3.next (((), v1, v2, (IntKind.wrap .i64 (v3 + 1)), ()), ((v4, v5, ()), (v6, ()), (v7, (), ()), v8, (v9, (), (), (), (), (), (), (), (), ()), ()), v10, v11, (v12 ++ [((rd dT0 v1 (Int.toNat v3)).1, (rd dT0 v1 (Int.toNat v3)).2)]), v13, v14, v15, v16, v17, ()))) (
       none)) (
      cond (decide (y18.1 = 3)) (
       cond ((decide (((v13.length + 1) * 16) ≤ 140737488355328)) && (decide ((v13.length + 1) ≤ 9223372036854775807))) (
        some (R3.next (((), v1, v2, (IntKind.wrap .i64 (v3 + 1)), ()), ((v4, v5, ()), (v6, ()), (v7, (), ()), v8, (v9, (), (), (), (), (), (), (), (), ()), ()), v10, v11, v12, (v13 ++ [((rd dT0 v1 (Int.toNat v3)).1, (rd dT0 v1 (Int.toNat v3)).2)]), v14, v15, v16, v17, ()))) (
        none)) (
       cond (decide (y18.1 = 4)) (
        cond ((decide (((v14.length + 1) * 16) ≤ 140737488355328)) && (decide ((v14.length + 1) ≤ 9223372036854775807))) (
         some (R3.next (((), v1, v2, (IntKind.wrap .i64 (v3 + 1)), ()), ((v4, v5, ()), (v6, ()), (v7, (), ()), v8, (v9, (), (), (), (), (), (), (), (), ()), ()), v10, v11, v12, v13, (v14 ++ [((rd dT0 v1 (Int.toNat v3)).1, (rd dT0 v1 (Int.toNat v3)).2)]), v15, v16, v17, ()))) (
         none)) (
        cond (decide (y18.1 = 5)) (
         cond ((decide (((v15.length + 1) * 16) ≤ 140737488355328)) && (decide ((v15.length + 1) ≤ 9223372036854775807))) (
          some (R3.next (((), v1, v2, (IntKind.wrap .i64 (v3 + 1)), ()), ((v4, v5, ()), (v6, ()), (v7, (), ()), v8, (v9, (), (), (), (), (), (), (), (), ()), ()), v10, v11, v12, v13, v14, (v15 ++ [((rd dT0 v1 (Int.toNat v3)).1, (rd dT0 v1 (Int.toNat v3)).2)]), v16, v17, ()))) (
          none)) (
         cond (decide (y18.1 = 6)) (
          cond ((decide (((v16.length + 1) * 16) ≤ 140737488355328)) && (decide ((v16.length + 1) ≤ 9223372036854775807))) (
           some (R3.next (((), v1, v2, (IntKind.wrap .i64 (v3 + 1)), ()), ((v4, v5, ()), (v6, ()), (v7, (), ()), v8, (v9, (), (), (), (), (), (), (), (), ()), ()), v10, v11, v12, v13, v14, v15, (v16 ++ [((rd dT0 v1 (Int.toNat v3)).1, (rd dT0 v1 (Int.toNat v3)).2)]), v17, ()))) (
           none)) (
          cond (decide (y18.1 = 7)) (
           cond ((decide (((v17.length + 1) * 16) ≤ 140737488355328)) && (decide ((v17.length + 1) ≤ 9223372036854775807))) (
            some (R3.next (((), v1, v2, (IntKind.wrap .i64 (v3 + 1)), ()), ((v4, v5, ()), (v6, ()), (v7, (), ()), v8, (v9, (), (), (), (), (), (), (), (), ()), ()), v10, v11, v12, v13, v14, v15, v16, (v17 ++ [((rd dT0 v1 (Int.toNat v3)).1, (rd dT0 v1 (Int.toNat v3)).2)]), ()))) (
            none)) (
           none))))))))) (
   none)) (
  some (R3.out (((), ()), ((v4, v5, ()), (v6, ()), (v7, (), ()), v8, (v9, (), (), (), (), (), (), (), (), ()), ()), v10, v11, v12, v13, v14, v15, v16, v17, ())))
noncomputable def u68_108_3_0 (z : X68_108_3_0) : Option (R3 X68_108_3_0 Y68_108_3_0 Z68_108_3_0) := t68_108_3_0 z.1.2.1 z.1.2.2.1 z.1.2.2.2.1 z.2.1.1.1 z.2.1.1.2.1 z.2.1.2.1.1 z.2.1.2.2.1.1 z.2.1.2.2.2.1 z.2.1.2.2.2.2.1.1 z.2.2.1 z.2.2.2.1 z.2.2.2.2.1 z.2.2.2.2.2.1 z.2.2.2.2.2.2.1 z.2.2.2.2.2.2.2.1 z.2.2.2.2.2.2.2.2.1 z.2.2.2.2.2.2.2.2.2.1
abbrev X68_111_7_0 : Type := DT8 × DT3 × DT0 × DT0 × DT0 × Unit
abbrev Y68_111_7_0 : Type := DT10 × DT3 × DT0 × DT0 × DT0 × Unit
abbrev Z68_111_7_0 : Type := Unit × DT11 × Unit
noncomputable def t68_111_7_0 (v1 v2 v3 : Int) (v4 : DT0) (v5 v6 : Int) (v7 : DT0) (v8 : Int) (v9 v10 v11 v12 v13 v14 v15 v16 : DT0) (v17 v18 : Int) (v19 : DT0) (v20 : Int) (v21 v22 v23 : DT0) : Option (R3 X68_111_7_0 Y68_111_7_0 Z68_111_7_0) :=
 cond (decide (v2 < v1)) (
  cond ((decide (0 ≤ v2)) && (decide (v2 < (v9.length : Int)))) (
   cond (decide ((Int.toNat v2) < v9.length)) (
    ((f136 (rd dT0 v9 (Int.toNat v2)).1 (rd dT0 v9 (Int.toNat v2)).2)).bind fun y24 =>
    cond y24.1 (
     cond ((decide (((v21.length + 1) * 16) ≤ 140737488355328)) && (decide ((v21.length + 1) ≤ 9223372036854775807))) (
      some (R3.next (((), (), (), (), (), (), v1, (IntKind.wrap .i64 (v2 + 1)), ()), ((v3, v4, ()), (v5, ()), (v6, (), ()), v7, (v8, (), (), (), (), (), (), (), (), ()), v9, v10, v11, v12, v13, v14, v15, v16, (v17, v18, ()), v19, (v20, (), ()), ()), (v21 ++ [((rd dT0 v9 (Int.toNat v2)).1, (rd dT0 v9 (Int.toNat v2)).2)]), v22, v23, ()))) (
      none)) (
     cond ((decide (((v22.length + 1) * 16) ≤ 140737488355328)) && (decide ((v22.length + 1) ≤ 9223372036854775807))) (
      some (R3.next (((), (), (), (), (), (), v1, (IntKind.wrap .i64 (v2 + 1)), ()), ((v3, v4, ()), (v5, ()), (v6, (), ()), v7, (v8, (), (), (), (), (), (), (), (), ()), v9, v10, v11, v12, v13, v14, v15, v16, (v17, v18, ()), v19, (v20, (), ()), ()), v21, (v22 ++ [((rd dT0 v9 (Int.toNat v2)).1, (rd dT0 v9 (Int.toNat v2)).2)]), v23, ()))) (
      none))) (
    none)) (
   none)) (
  some (R3.out (((), (), (), (), (), ()), ((v3, v4, ()), (v5, ()), (v6, (), ()), v7, (v8, (), (), (), (), (), (), (), (), ()), v9, v10, v11, v12, v13, v14, v15, v16, (v17, v18, ()), v19, (v20, (), ()), ()), v21, v22, v23, ())))
noncomputable def u68_111_7_0 (z : X68_111_7_0) : Option (R3 X68_111_7_0 Y68_111_7_0 Z68_111_7_0) := t68_111_7_0 z.1.2.2.2.2.2.2.1 z.1.2.2.2.2.2.2.2.1 z.2.1.1.1 z.2.1.1.2.1 z.2.1.2.1.1 z.2.1.2.2.1.1 z.2.1.2.2.2.1 z.2.1.2.2.2.2.1.1 z.2.1.2.2.2.2.2.1 z.2.1.2.2.2.2.2.2.1 z.2.1.2.2.2.2.2.2.2.1 z.2.1.2.2.2.2.2.2.2.2.1 z.2.1.2.2.2.2.2.2.2.2.2.1 z.2.1.2.2.2.2.2.2.2.2.2.2.1 z.2.1.2.2.2.2.2.2.2.2.2.2.2.1 z.2.1.2.2.2.2.2.2.2.2.2.2.2.2.1 z.2.1.2.2.2.2.2.2.2.2.2.2.2.2.2.1.1 z.2.1.2.2.2.2.2.2.2.2.2.2.2.2.2.1.2.1 z.2.1.2.2.2.2.2.2.2.2.2.2.2.2.2.2.1 z.2.1.2.2.2.2.2.2.2.2.2.2.2.2.2.2.2.1.1 z.2.2.1 z.2.2.2.1 z.2.2.2.2.1
abbrev X68_111_7_1 : Type := DT8 × DT3 × DT0 × DT0 × DT0 × DT0 × Unit
abbrev Y68_111_7_1 : Type := DT10 × DT3 × DT0 × DT0 × DT0 × DT0 × Unit
abbrev Z68_111_7_1 : Type := Unit × DT11 × Unit
noncomputable def t68_111_7_1 (v1 v2 v3 : Int) (v4 : DT0) (v5 v6 : Int) (v7 : DT0) (v8 : Int) (v9 v10 v11 v12 v13 v14 v15 v16 : DT0) (v17 v18 : Int) (v19 : DT0) (v20 : Int) (v21 v22 v23 v24 : DT0) : Option (R3 X68_111_7_1 Y68_111_7_1 Z68_111_7_1) :=
 cond (decide (v2 < v1)) (
  cond ((decide (0 ≤ v2)) && (decide (v2 < (v10.length : Int)))) (
   cond (decide ((Int.toNat v2) < v10.length)) (
    ((f136 (rd dT0 v10 (Int.toNat v2)).1 (rd dT0 v10 (Int.toNat v2)).2)).bind fun y25 =>
    cond y25.1 (
     cond ((decide (((v21.length + 1) * 16) ≤ 140737488355328)) && (decide ((v21.length + 1) ≤ 9223372036854775807))) (
      some (R3.next (((), (), (), (), (), (), v1, (IntKind.wrap .i64 (v2 + 1)), ()), ((v3, v4, ()), (v5, ()), (v6, (), ()), v7, (v8, (), (), (), (), (), (), (), (), ()), v9, v10, v11, v12, v13, v14, v15, v16, (v17, v18, ()), v19, (v20, (), ()), ()), (v21 ++ [((rd dT0 v10 (Int.toNat v2)).1, (rd dT0 v10 (Int.toNat v2)).2)]), v22, v23, v24, ()))) (
      none)) (
     cond ((decide (((v22.length + 1) * 16) ≤ 140737488355328)) && (decide ((v22.length + 1) ≤ 9223372036854775807))) (
      some (R3.next (((), (), (), (), (), (), v1, (IntKind.wrap .i64 (v2 + 1)), ()), ((v3, v4, ()), (v5, ()), (v6, (), ()), v7, (v8, (), (), (), (), (), (), (), (), ()), v9, v10, v11, v12, v13, v14, v15, v16, (v17, v18, ()), v19, (v20, (), ()), ()), v21, (v22 ++ [((rd dT0 v10 (Int.toNat v2)).1, (rd dT0 v10 (Int.toNat v2)).2)]), v23, v24, ()))) (
      none))) (
    none)) (
   none)) (
  some (R3.out (((), (), (), (), (), ()), ((v3, v4, ()), (v5, ()), (v6, (), ()), v7, (v8, (), (), (), (), (), (), (), (), ()), v9, v10, v11, v12, v13, v14, v15, v16, (v17, v18, ()), v19, (v20, (), ()), ()), v21, v22, v23, v24, ())))
noncomputable def u68_111_7_1 (z : X68_111_7_1) : Option (R3 X68_111_7_1 Y68_111_7_1 Z68_111_7_1) := t68_111_7_1 z.1.2.2.2.2.2.2.1 z.1.2.2.2.2.2.2.2.1 z.2.1.1.1 z.2.1.1.2.1 z.2.1.2.1.1 z.2.1.2.2.1.1 z.2.1.2.2.2.1 z.2.1.2.2.2.2.1.1 z.2.1.2.2.2.2.2.1 z.2.1.2.2.2.2.2.2.1 z.2.1.2.2.2.2.2.2.2.1 z.2.1.2.2.2.2.2.2.2.2.1 z.2.1.2.2.2.2.2.2.2.2.2.1 z.2.1.2.2.2.2.2.2.2.2.2.2.1 z.2.1.2.2.2.2.2.2.2.2.2.2.2.1 z.2.1.2.2.2.2.2.2.2.2.2.2.2.2.1 z.2.1.2.2.2.2.2.2.2.2.2.2.2.2.2.1.1 z.2.1.2.2.2.2.2.2.2.2.2.2.2.2.2.1.2.1 z.2.1.2.2.2.2.2.2.2.2.2.2.2.2.2.2.1 z.2.1.2.2.2.2.2.2.2.2.2.2.2.2.2.2.2.1.1 z.2.2.1 z.2.2.2.1 z.2.2.2.2.1 z.2.2.2.2.2.1
abbrev X68_111_7_2 : Type := DT8 × DT3 × DT0 × DT0 × DT0 × DT0 × DT0 × Unit
abbrev Y68_111_7_2 : Type := DT10 × DT3 × DT0 × DT0 × DT0 × DT0 × DT0 × Unit
abbrev Z68_111_7_2 : Type := Unit × DT11 × Unit
noncomputable def t68_111_7_2 (v1 v2 v3 : Int) (v4 : DT0) (v5 v6 : Int) (v7 : DT0) (v8 : Int) (v9 v10 v11 v12 v13 v14 v15 v16 : DT0) (v17 v18 : Int) (v19 : DT0) (v20 : Int) (v21 v22 v23 v24 v25 : DT0) : Option (R3 X68_111_7_2 Y68_111_7_2 Z68_111_7_2) :=
 cond (decide (v2 < v1)) (
  cond ((decide (0 ≤ v2)) && (decide (v2 < (v11.length : Int)))) (
   cond (decide ((Int.toNat v2) < v11.length)) (
    ((f136 (rd dT0 v11 (Int.toNat v2)).1 (rd dT0 v11 (Int.toNat v2)).2)).bind fun y26 =>
    cond y26.1 (
     cond ((decide (((v21.length + 1) * 16) ≤ 140737488355328)) && (decide ((v21.length + 1) ≤ 9223372036854775807))) (
      some (R3.next (((), (), (), (), (), (), v1, (IntKind.wrap .i64 (v2 + 1)), ()), ((v3, v4, ()), (v5, ()), (v6, (), ()), v7, (v8, (), (), (), (), (), (), (), (), ()), v9, v10, v11, v12, v13, v14, v15, v16, (v17, v18, ()), v19, (v20, (), ()), ()), (v21 ++ [((rd dT0 v11 (Int.toNat v2)).1, (rd dT0 v11 (Int.toNat v2)).2)]), v22, v23, v24, v25, ()))) (
      none)) (
     cond ((decide (((v22.length + 1) * 16) ≤ 140737488355328)) && (decide ((v22.length + 1) ≤ 9223372036854775807))) (
      some (R3.next (((), (), (), (), (), (), v1, (IntKind.wrap .i64 (v2 + 1)), ()), ((v3, v4, ()), (v5, ()), (v6, (), ()), v7, (v8, (), (), (), (), (), (), (), (), ()), v9, v10, v11, v12, v13, v14, v15, v16, (v17, v18, ()), v19, (v20, (), ()), ()), v21, (v22 ++ [((rd dT0 v11 (Int.toNat v2)).1, (rd dT0 v11 (Int.toNat v2)).2)]), v23, v24, v25, ()))) (
      none))) (
    none)) (
   none)) (
  some (R3.out (((), (), (), (), (), ()), ((v3, v4, ()), (v5, ()), (v6, (), ()), v7, (v8, (), (), (), (), (), (), (), (), ()), v9, v10, v11, v12, v13, v14, v15, v16, (v17, v18, ()), v19, (v20, (), ()), ()), v21, v22, v23, v24, v25, ())))
noncomputable def u68_111_7_2 (z : X68_111_7_2) : Option (R3 X68_111_7_2 Y68_111_7_2 Z68_111_7_2) := t68_111_7_2 z.1.2.2.2.2.2.2.1 z.1.2.2.2.2.2.2.2.1 z.2.1.1.1 z.2.1.1.2.1 z.2.1.2.1.1 z.2.1.2.2.1.1 z.2.1.2.2.2.1 z.2.1.2.2.2.2.1.1 z.2.1.2.2.2.2.2.1 z.2.1.2.2.2.2.2.2.1 z.2.1.2.2.2.2.2.2.2.1 z.2.1.2.2.2.2.2.2.2.2.1 z.2.1.2.2.2.2.2.2.2.2.2.1 z.2.1.2.2.2.2.2.2.2.2.2.2.1 z.2.1.2.2.2.2.2.2.2.2.2.2.2.1 z.2.1.2.2.2.2.2.2.2.2.2.2.2.2.1 z.2.1.2.2.2.2.2.2.2.2.2.2.2.2.2.1.1 z.2.1.2.2.2.2.2.2.2.2.2.2.2.2.2.1.2.1 z.2.1.2.2.2.2.2.2.2.2.2.2.2.2.2.2.1 z.2.1.2.2.2.2.2.2.2.2.2.2.2.2.2.2.2.1.1 z.2.2.1 z.2.2.2.1 z.2.2.2.2.1 z.2.2.2.2.2.1 z.2.2.2.2.2.2.1
abbrev X68_111_7_3 : Type := DT8 × DT3 × DT0 × DT0 × DT0 × DT0 × DT0 × DT0 × Unit
abbrev Y68_111_7_3 : Type := DT10 × DT3 × DT0 × DT0 × DT0 × DT0 × DT0 × DT0 × Unit
abbrev Z68_111_7_3 : Type := Unit × DT11 × Unit
noncomputable def t68_111_7_3 (v1 v2 v3 : Int) (v4 : DT0) (v5 v6 : Int) (v7 : DT0) (v8 : Int) (v9 v10 v11 v12 v13 v14 v15 v16 : DT0) (v17 v18 : Int) (v19 : DT0) (v20 : Int) (v21 v22 v23 v24 v25 v26 : DT0) : Option (R3 X68_111_7_3 Y68_111_7_3 Z68_111_7_3) :=
 cond (decide (v2 < v1)) (
  cond ((decide (0 ≤ v2)) && (decide (v2 < (v12.length : Int)))) (
   cond (decide ((Int.toNat v2) < v12.length)) (
    ((f136 (rd dT0 v12 (Int.toNat v2)).1 (rd dT0 v12 (Int.toNat v2)).2)).bind fun y27 =>
    cond y27.1 (
     cond ((decide (((v21.length + 1) * 16) ≤ 140737488355328)) && (decide ((v21.length + 1) ≤ 9223372036854775807))) (
      some (R3.next (((), (), (), (), (), (), v1, (IntKind.wrap .i64 (v2 + 1)), ()), ((v3, v4, ()), (v5, ()), (v6, (), ()), v7, (v8, (), (), (), (), (), (), (), (), ()), v9, v10, v11, v12, v13, v14, v15, v16, (v17, v18, ()), v19, (v20, (), ()), ()), (v21 ++ [((rd dT0 v12 (Int.toNat v2)).1, (rd dT0 v12 (Int.toNat v2)).2)]), v22, v23, v24, v25, v26, ()))) (
      none)) (
     cond ((decide (((v22.length + 1) * 16) ≤ 140737488355328)) && (decide ((v22.length + 1) ≤ 9223372036854775807))) (
      some (R3.next (((), (), (), (), (), (), v1, (IntKind.wrap .i64 (v2 + 1)), ()), ((v3, v4, ()), (v5, ()), (v6, (), ()), v7, (v8, (), (), (), (), (), (), (), (), ()), v9, v10, v11, v12, v13, v14, v15, v16, (v17, v18, ()), v19, (v20, (), ()), ()), v21, (v22 ++ [((rd dT0 v12 (Int.toNat v2)).1, (rd dT0 v12 (Int.toNat v2)).2)]), v23, v24, v25, v26, ()))) (
      none))) (
    none)) (
   none)) (
  some (R3.out (((), (), (), (), (), ()), ((v3, v4, ()), (v5, ()), (v6, (), ()), v7, (v8, (), (), (), (), (), (), (), (), ()), v9, v10, v11, v12, v13, v14, v15, v16, (v17, v18, ()), v19, (v20, (), ()), ()), v21, v22, v23, v24, v25, v26, ())))
noncomputable def u68_111_7_3 (z : X68_111_7_3) : Option (R3 X68_111_7_3 Y68_111_7_3 Z68_111_7_3) := t68_111_7_3 z.1.2.2.2.2.2.2.1 z.1.2.2.2.2.2.2.2.1 z.2.1.1.1 z.2.1.1.2.1 z.2.1.2.1.1 z.2.1.2.2.1.1 z.2.1.2.2.2.1 z.2.1.2.2.2.2.1.1 z.2.1.2.2.2.2.2.1 z.2.1.2.2.2.2.2.2.1 z.2.1.2.2.2.2.2.2.2.1 z.2.1.2.2.2.2.2.2.2.2.1 z.2.1.2.2.2.2.2.2.2.2.2.1 z.2.1.2.2.2.2.2.2.2.2.2.2.1 z.2.1.2.2.2.2.2.2.2.2.2.2.2.1 z.2.1.2.2.2.2.2.2.2.2.2.2.2.2.1 z.2.1.2.2.2.2.2.2.2.2.2.2.2.2.2.1.1 z.2.1.2.2.2.2.2.2.2.2.2.2.2.2.2.1.2.1 z.2.1.2.2.2.2.2.2.2.2.2.2.2.2.2.2.1 z.2.1.2.2.2.2.2.2.2.2.2.2.2.2.2.2.2.1.1 z.2.2.1 z.2.2.2.1 z.2.2.2.2.1 z.2.2.2.2.2.1 z.2.2.2.2.2.2.1 z.2.2.2.2.2.2.2.1
abbrev X68_111_7_4 : Type := DT8 × DT3 × DT0 × DT0 × DT0 × DT0 × DT0 × DT0 × DT0 × Unit
abbrev Y68_111_7_4 : Type := DT10 × DT3 × DT0 × DT0 × DT0 × DT0 × DT0 × DT0 × DT0 × Unit
abbrev Z68_111_7_4 : Type := Unit × DT11 × Unit
noncomputable def t68_111_7_4 (v1 v2 v3 : Int) (v4 : DT0) (v5 v6 : Int) (v7 : DT0) (v8 : Int) (v9 v10 v11 v12 v13 v14 v15 v16 : DT0) (v17 v18 : Int) (v19 : DT0) (v20 : Int) (v21 v22 v23 v24 v25 v26 v27 : DT0) : Option (R3 X68_111_7_4 Y68_111_7_4 Z68_111_7_4) :=
 cond (decide (v2 < v1)) (
  cond ((decide (0 ≤ v2)) && (decide (v2 < (v13.length : Int)))) (
   cond (decide ((Int.toNat v2) < v13.length)) (
    ((f136 (rd dT0 v13 (Int.toNat v2)).1 (rd dT0 v13 (Int.toNat v2)).2)).bind fun y28 =>
    cond y28.1 (
     cond ((decide (((v21.length + 1) * 16) ≤ 140737488355328)) && (decide ((v21.length + 1) ≤ 9223372036854775807))) (
      some (R3.next (((), (), (), (), (), (), v1, (IntKind.wrap .i64 (v2 + 1)), ()), ((v3, v4, ()), (v5, ()), (v6, (), ()), v7, (v8, (), (), (), (), (), (), (), (), ()), v9, v10, v11, v12, v13, v14, v15, v16, (v17, v18, ()), v19, (v20, (), ()), ()), (v21 ++ [((rd dT0 v13 (Int.toNat v2)).1, (rd dT0 v13 (Int.toNat v2)).2)]), v22, v23, v24, v25, v26, v27, ()))) (
      none)) (
     cond ((decide (((v22.length + 1) * 16) ≤ 140737488355328)) && (decide ((v22.length + 1) ≤ 9223372036854775807))) (
      some (R3.next (((), (), (), (), (), (), v1, (IntKind.wrap .i64 (v2 + 1)), ()), ((v3, v4, ()), (v5, ()), (v6, (), ()), v7, (v8, (), (), (), (), (), (), (), (), ()), v9, v10, v11, v12, v13, v14, v15, v16, (v17, v18, ()), v19, (v20, (), ()), ()), v21, (v22 ++ [((rd dT0 v13 (Int.toNat v2)).1, (rd dT0 v13 (Int.toNat v2)).2)]), v23, v24, v25, v26, v27, ()))) (
      none))) (
    none)) (
   none)) (
  some (R3.out (((), (), (), (), (), ()), ((v3, v4, ()), (v5, ()), (v6, (), ()), v7, (v8, (), (), (), (), (), (), (), (), ()), v9, v10, v11, v12, v13, v14, v15, v16, (v17, v18, ()), v19, (v20, (), ()), ()), v21, v22, v23, v24, v25, v26, v27, ())))
noncomputable def u68_111_7_4 (z : X68_111_7_4) : Option (R3 X68_111_7_4 Y68_111_7_4 Z68_111_7_4) := t68_111_7_4 z.1.2.2.2.2.2.2.1 z.1.2.2.2.2.2.2.2.1 z.2.1.1.1 z.2.1.1.2.1 z.2.1.2.1.1 z.2.1.2.2.1.1 z.2.1.2.2.2.1 z.2.1.2.2.2.2.1.1 z.2.1.2.2.2.2.2.1 z.2.1.2.2.2.2.2.2.1 z.2.1.2.2.2.2.2.2.2.1 z.2.1.2.2.2.2.2.2.2.2.1 z.2.1.2.2.2.2.2.2.2.2.2.1 z.2.1.2.2.2.2.2.2.2.2.2.2.1 z.2.1.2.2.2.2.2.2.2.2.2.2.2.1 z.2.1.2.2.2.2.2.2.2.2.2.2.2.2.1 z.2.1.2.2.2.2.2.2.2.2.2.2.2.2.2.1.1 z.2.1.2.2.2.2.2.2.2.2.2.2.2.2.2.1.2.1 z.2.1.2.2.2.2.2.2.2.2.2.2.2.2.2.2.1 z.2.1.2.2.2.2.2.2.2.2.2.2.2.2.2.2.2.1.1 z.2.2.1 z.2.2.2.1 z.2.2.2.2.1 z.2.2.2.2.2.1 z.2.2.2.2.2.2.1 z.2.2.2.2.2.2.2.1 z.2.2.2.2.2.2.2.2.1
abbrev X68_111_7_5 : Type := DT8 × DT3 × DT0 × DT0 × DT0 × DT0 × DT0 × DT0 × DT0 × DT0 × Unit
abbrev Y68_111_7_5 : Type := DT10 × DT3 × DT0 × DT0 × DT0 × DT0 × DT0 × DT0 × DT0 × DT0 × Unit
abbrev Z68_111_7_5 : Type := Unit × DT11 × Unit
noncomputable def t68_111_7_5 (v1 v2 v3 : Int) (v4 : DT0) (v5 v6 : Int) (v7 : DT0) (v8 : Int) (v9 v10 v11 v12 v13 v14 v15 v16 : DT0) (v17 v18 : Int) (v19 : DT0) (v20 : Int) (v21 v22 v23 v24 v25 v26 v27 v28 : DT0) : Option (R3 X68_111_7_5 Y68_111_7_5 Z68_111_7_5) :=
 cond (decide (v2 < v1)) (
  cond ((decide (0 ≤ v2)) && (decide (v2 < (v14.length : Int)))) (
   cond (decide ((Int.toNat v2) < v14.length)) (
    ((f136 (rd dT0 v14 (Int.toNat v2)).1 (rd dT0 v14 (Int.toNat v2)).2)).bind fun y29 =>
    cond y29.1 (
     cond ((decide (((v21.length + 1) * 16) ≤ 140737488355328)) && (decide ((v21.length + 1) ≤ 9223372036854775807))) (
      some (R3.next (((), (), (), (), (), (), v1, (IntKind.wrap .i64 (v2 + 1)), ()), ((v3, v4, ()), (v5, ()), (v6, (), ()), v7, (v8, (), (), (), (), (), (), (), (), ()), v9, v10, v11, v12, v13, v14, v15, v16, (v17, v18, ()), v19, (v20, (), ()), ()), (v21 ++ [((rd dT0 v14 (Int.toNat v2)).1, (rd dT0 v14 (Int.toNat v2)).2)]), v22, v23, v24, v25, v26, v27, v28, ()))) (
      none)) (
     cond ((decide (((v22.length + 1) * 16) ≤ 140737488355328)) && (decide ((v22.length + 1) ≤ 9223372036854775807))) (
      some (R3.next (((), (), (), (), (), (), v1, (IntKind.wrap .i64 (v2 + 1)), ()), ((v3, v4, ()), (v5, ()), (v6, (), ()), v7, (v8, (), (), (), (), (), (), (), (), ()), v9, v10, v11, v12, v13, v14, v15, v16, (v17, v18, ()), v19, (v20, (), ()), ()), v21, (v22 ++ [((rd dT0 v14 (Int.toNat v2)).1, (rd dT0 v14 (Int.toNat v2)).2)]), v23, v24, v25, v26, v27, v28, ()))) (
      none))) (
    none)) (
   none)) (
  some (R3.out (((), (), (), (), (), ()), ((v3, v4, ()), (v5, ()), (v6, (), ()), v7, (v8, (), (), (), (), (), (), (), (), ()), v9, v10, v11, v12, v13, v14, v15, v16, (v17, v18, ()), v19, (v20, (), ()), ()), v21, v22, v23, v24, v25, v26, v27, v28, ())))
noncomputable def u68_111_7_5 (z : X68_111_7_5) : Option (R3 X68_111_7_5 Y68_111_7_5 Z68_111_7_5) := t68_111_7_5 z.1.2.2.2.2.2.2.1 z.1.2.2.2.2.2.2.2.1 z.2.1.1.1 z.2.1.1.2.1 z.2.1.2.1.1 z.2.1.2.2.1.1 z.2.1.2.2.2.1 z.2.1.2.2.2.2.1.1 z.2.1.2.2.2.2.2.1 z.2.1.2.2.2.2.2.2.1 z.2.1.2.2.2.2.2.2.2.1 z.2.1.2.2.2.2.2.2.2.2.1 z.2.1.2.2.2.2.2.2.2.2.2.1 z.2.1.2.2.2.2.2.2.2.2.2.2.1 z.2.1.2.2.2.2.2.2.2.2.2.2.2.1 z.2.1.2.2.2.2.2.2.2.2.2.2.2.2.1 z.2.1.2.2.2.2.2.2.2.2.2.2.2.2.2.1.1 z.2.1.2.2.2.2.2.2.2.2.2.2.2.2.2.1.2.1 z.2.1.2.2.2.2.2.2.2.2.2.2.2.2.2.2.1 z.2.1.2.2.2.2.2.2.2.2.2.2.2.2.2.2.2.1.1 z.2.2.1 z.2.2.2.1 z.2.2.2.2.1 z.2.2.2.2.2.1 z.2.2.2.2.2.2.1 z.2.2.2.2.2.2.2.1 z.2.2.2.2.2.2.2.2.1 z.2.2.2.2.2.2.2.2.2.1
abbrev X68_111_7_6 : Type := DT8 × DT3 × DT0 × DT0 × DT0 × DT0 × DT0 × DT0 × DT0 × DT0 × DT0 × Unit
abbrev Y68_111_7_6 : Type := DT10 × DT3 × DT0 × DT0 × DT0 × DT0 × DT0 × DT0 × DT0 × DT0 × DT0 × Unit
abbrev Z68_111_7_6 : Type := Unit × DT11 × Unit
noncomputable def t68_111_7_6 (v1 v2 v3 : Int) (v4 : DT0) (v5 v6 : Int) (v7 : DT0) (v8 : Int) (v9 v10 v11 v12 v13 v14 v15 v16 : DT0) (v17 v18 : Int) (v19 : DT0) (v20 : Int) (v21 v22 v23 v24 v25 v26 v27 v28 v29 : DT0) : Option (R3 X68_111_7_6 Y68_111_7_6 Z68_111_7_6) :=
 cond (decide (v2 < v1)) (
  cond ((decide (0 ≤ v2)) && (decide (v2 < (v15.length : Int)))) (
   cond (decide ((Int.toNat v2) < v15.length)) (
    ((f136 (rd dT0 v15 (Int.toNat v2)).1 (rd dT0 v15 (Int.toNat v2)).2)).bind fun y30 =>
    cond y30.1 (
     cond ((decide (((v21.length + 1) * 16) ≤ 140737488355328)) && (decide ((v21.length + 1) ≤ 9223372036854775807))) (
      some (R3.next (((), (), (), (), (), (), v1, (IntKind.wrap .i64 (v2 + 1)), ()), ((v3, v4, ()), (v5, ()), (v6, (), ()), v7, (v8, (), (), (), (), (), (), (), (), ()), v9, v10, v11, v12, v13, v14, v15, v16, (v17, v18, ()), v19, (v20, (), ()), ()), (v21 ++ [((rd dT0 v15 (Int.toNat v2)).1, (rd dT0 v15 (Int.toNat v2)).2)]), v22, v23, v24, v25, v26, v27, v28, v29, ()))) (
      none)) (
     cond ((decide (((v22.length + 1) * 16) ≤ 140737488355328)) && (decide ((v22.length + 1) ≤ 9223372036854775807))) (
      some (R3.next (((), (), (), (), (), (), v1, (IntKind.wrap .i64 (v2 + 1)), ()), ((v3, v4, ()), (v5, ()), (v6, (), ()), v7, (v8, (), (), (), (), (), (), (), (), ()), v9, v10, v11, v12, v13, v14, v15, v16, (v17, v18, ()), v19, (v20, (), ()), ()), v21, (v22 ++ [((rd dT0 v15 (Int.toNat v2)).1, (rd dT0 v15 (Int.toNat v2)).2)]), v23, v24, v25, v26, v27, v28, v29, ()))) (
      none))) (
    none)) (
   none)) (
  some (R3.out (((), (), (), (), (), ()), ((v3, v4, ()), (v5, ()), (v6, (), ()), v7, (v8, (), (), (), (), (), (), (), (), ()), v9, v10, v11, v12, v13, v14, v15, v16, (v17, v18, ()), v19, (v20, (), ()), ()), v21, v22, v23, v24, v25, v26, v27, v28, v29, ())))
noncomputable def u68_111_7_6 (z : X68_111_7_6) : Option (R3 X68_111_7_6 Y68_111_7_6 Z68_111_7_6) := t68_111_7_6 z.1.2.2.2.2.2.2.1 z.1.2.2.2.2.2.2.2.1 z.2.1.1.1 z.2.1.1.2.1 z.2.1.2.1.1 z.2.1.2.2.1.1 z.2.1.2.2.2.1 z.2.1.2.2.2.2.1.1 z.2.1.2.2.2.2.2.1 z.2.1.2.2.2.2.2.2.1 z.2.1.2.2.2.2.2.2.2.1 z.2.1.2.2.2.2.2.2.2.2.1 z.2.1.2.2.2.2.2.2.2.2.2.1 z.2.1.2.2.2.2.2.2.2.2.2.2.1 z.2.1.2.2.2.2.2.2.2.2.2.2.2.1 z.2.1.2.2.2.2.2.2.2.2.2.2.2.2.1 z.2.1.2.2.2.2.2.2.2.2.2.2.2.2.2.1.1 z.2.1.2.2.2.2.2.2.2.2.2.2.2.2.2.1.2.1 z.2.1.2.2.2.2.2.2.2.2.2.2.2.2.2.2.1 z.2.1.2.2.2.2.2.2.2.2.2.2.2.2.2.2.2.1.1 z.2.2.1 z.2.2.2.1 z.2.2.2.2.1 z.2.2.2.2.2.1 z.2.2.2.2.2.2.1 z.2.2.2.2.2.2.2.1 z.2.2.2.2.2.2.2.2.1 z.2.2.2.2.2.2.2.2.2.1 z.2.2.2.2.2.2.2.2.2.2.1
abbrev X68_111_7_7 : Type := DT8 × DT3 × DT0 × DT0 × DT0 × DT0 × DT0 × DT0 × DT0 × DT0 × DT0 × DT0 × Unit
abbrev Y68_111_7_7 : Type := DT10 × DT3 × DT0 × DT0 × DT0 × DT0 × DT0 × DT0 × DT0 × DT0 × DT0 × DT0 × Unit
abbrev Z68_111_7_7 : Type := Unit × DT11 × Unit
noncomputable def t68_111_7_7 (v1 v2 v3 : Int) (v4 : DT0) (v5 v6 : Int) (v7 : DT0) (v8 : Int) (v9 v10 v11 v12 v13 v14 v15 v16 : DT0) (v17 v18 : Int) (v19 : DT0) (v20 : Int) (v21 v22 v23 v24 v25 v26 v27 v28 v29 v30 : DT0) : Option (R3 X68_111_7_7 Y68_111_7_7 Z68_111_7_7) :=
 cond (decide (v2 < v1)) (
  cond ((decide (0 ≤ v2)) && (decide (v2 < (v16.length : Int)))) (
   cond (decide ((Int.toNat v2) < v16.length)) (
    ((f136 (rd dT0 v16 (Int.toNat v2)).1 (rd dT0 v16 (Int.toNat v2)).2)).bind fun y31 =>
    cond y31.1 (
     cond ((decide (((v21.length + 1) * 16) ≤ 140737488355328)) && (decide ((v21.length + 1) ≤ 9223372036854775807))) (
      some (R3.next (((), (), (), (), (), (), v1, (IntKind.wrap .i64 (v2 + 1)), ()), ((v3, v4, ()), (v5, ()), (v6, (), ()), v7, (v8, (), (), (), (), (), (), (), (), ()), v9, v10, v11, v12, v13, v14, v15, v16, (v17, v18, ()), v19, (v20, (), ()), ()), (v21 ++ [((rd dT0 v16 (Int.toNat v2)).1, (rd dT0 v16 (Int.toNat v2)).2)]), v22, v23, v24, v25, v26, v27, v28, v29, v30, ()))) (
      none)) (
     cond ((decide (((v22.length + 1) * 16) ≤ 140737488355328)) && (decide ((v22.length + 1) ≤ 9223372036854775807))) (
      some (R3.next (((), (), (), (), (), (), v1, (IntKind.wrap .i64 (v2 + 1)), ()), ((v3, v4, ()), (v5, ()), (v6, (), ()), v7, (v8, (), (), (), (), (), (), (), (), ()), v9, v10, v11, v12, v13, v14, v15, v16, (v17, v18, ()), v19, (v20, (), ()), ()), v21, (v22 ++ [((rd dT0 v16 (Int.toNat v2)).1, (rd dT0 v16 (Int.toNat v2)).2)]), v23, v24, v25, v26, v27, v28, v29, v30, ()))) (
      none))) (
    none)) (
   none)) (
  some (R3.out (((), (), (), (), (), ()), ((v3, v4, ()), (v5, ()), (v6, (), ()), v7, (v8, (), (), (), (), (), (), (), (), ()), v9, v10, v11, v12, v13, v14, v15, v16, (v17, v18, ()), v19, (v20, (), ()), ()), v21, v22, v23, v24, v25, v26, v27, v28, v29, v30, ())))
noncomputable def u68_111_7_7 (z : X68_111_7_7) : Option (R3 X68_111_7_7 Y68_111_7_7 Z68_111_7_7) := t68_111_7_7 z.1.2.2.2.2.2.2.1 z.1.2.2.2.2.2.2.2.1 z.2.1.1.1 z.2.1.1.2.1 z.2.1.2.1.1 z.2.1.2.2.1.1 z.2.1.2.2.2.1 z.2.1.2.2.2.2.1.1 z.2.1.2.2.2.2.2.1 z.2.1.2.2.2.2.2.2.1 z.2.1.2.2.2.2.2.2.2.1 z.2.1.2.2.2.2.2.2.2.2.1 z.2.1.2.2.2.2.2.2.2.2.2.1 z.2.1.2.2.2.2.2.2.2.2.2.2.1 z.2.1.2.2.2.2.2.2.2.2.2.2.2.1 z.2.1.2.2.2.2.2.2.2.2.2.2.2.2.1 z.2.1.2.2.2.2.2.2.2.2.2.2.2.2.2.1.1 z.2.1.2.2.2.2.2.2.2.2.2.2.2.2.2.1.2.1 z.2.1.2.2.2.2.2.2.2.2.2.2.2.2.2.2.1 z.2.1.2.2.2.2.2.2.2.2.2.2.2.2.2.2.2.1.1 z.2.2.1 z.2.2.2.1 z.2.2.2.2.1 z.2.2.2.2.2.1 z.2.2.2.2.2.2.1 z.2.2.2.2.2.2.2.1 z.2.2.2.2.2.2.2.2.1 z.2.2.2.2.2.2.2.2.2.1 z.2.2.2.2.2.2.2.2.2.2.1 z.2.2.2.2.2.2.2.2.2.2.2.1
noncomputable def g68 (y13 : Y68_108_3_0) (v4 : Int) (q0 : List DT26) (q1 : List DT26) (q2 : List DT26) (q3 : List DT26) (q4 : List DT26) (q5 : List DT26) (q6 : List DT26) (q7 : List DT26) : Option ((Int × DT0) × Int × Unit) :=
((iter big u68_111_7_0 (((), (), (), (), (), (), (q0.length : Int), 0, ()), ((y13.2.1.1.1, y13.2.1.1.2.1, ()), (y13.2.1.2.1.1, ()), (y13.2.1.2.2.1.1, (), ()), y13.2.1.2.2.2.1, (y13.2.1.2.2.2.2.1.1, (), (), (), (), (), (), (), (), ()), q0, q1, q2, q3, q4, q5, q6, q7, (y13.2.1.2.1.1, v4, ()), [(y13.2.1.2.1.1, v4)], (0, (), ()), ()), [], [], [], ()))).bind fun r => match r with
            | .inl y16 =>
              ((iter big u68_111_7_1 (((), (), (), (), (), (), (y16.2.1.2.2.2.2.2.2.1.length : Int), 0, ()), ((y16.2.1.1.1, y16.2.1.1.2.1, ()), (y16.2.1.2.1.1, ()), (y16.2.1.2.2.1.1, (), ()), y16.2.1.2.2.2.1, (y16.2.1.2.2.2.2.1.1, (), (), (), (), (), (), (), (), ()), y16.2.1.2.2.2.2.2.1, y16.2.1.2.2.2.2.2.2.1, y16.2.1.2.2.2.2.2.2.2.1, y16.2.1.2.2.2.2.2.2.2.2.1, y16.2.1.2.2.2.2.2.2.2.2.2.1, y16.2.1.2.2.2.2.2.2.2.2.2.2.1, y16.2.1.2.2.2.2.2.2.2.2.2.2.2.1, y16.2.1.2.2.2.2.2.2.2.2.2.2.2.2.1, (y16.2.1.2.2.2.2.2.2.2.2.2.2.2.2.2.1.1, y16.2.1.2.2.2.2.2.2.2.2.2.2.2.2.2.1.2.1, ()), y16.2.1.2.2.2.2.2.2.2.2.2.2.2.2.2.2.1, (y16.2.1.2.2.2.2.2.2.2.2.2.2.2.2.2.2.2.1.1, (), ()), ()), y16.2.2.1, [], y16.2.2.2.1, y16.2.2.2.2.1, ()))).bind fun r => match r with
              | .inl y18 =>
                ((iter big u68_111_7_2 (((), (), (), (), (), (), (y18.2.1.2.2.2.2.2.2.2.1.length : Int), 0, ()), ((y18.2.1.1.1, y18.2.1.1.2.1, ()), (y18.2.1.2.1.1, ()), (y18.2.1.2.2.1.1, (), ()), y18.2.1.2.2.2.1, (y18.2.1.2.2.2.2.1.1, (), (), (), (), (), (), (), (), ()), y18.2.1.2.2.2.2.2.1, y18.2.1.2.2.2.2.2.2.1, y18.2.1.2.2.2.2.2.2.2.1, y18.2.1.2.2.2.2.2.2.2.2.1, y18.2.1.2.2.2.2.2.2.2.2.2.1, y18.2.1.2.2.2.2.2.2.2.2.2.2.1, y18.2.1.2.2.2.2.2.2.2.2.2.2.2.1, y18.2.1.2.2.2.2.2.2.2.2.2.2.2.2.1, (y18.2.1.2.2.2.2.2.2.2.2.2.2.2.2.2.1.1, y18.2.1.2.2.2.2.2.2.2.2.2.2.2.2.2.1.2.1, ()), y18.2.1.2.2.2.2.2.2.2.2.2.2.2.2.2.2.1, (y18.2.1.2.2.2.2.2.2.2.2.2.2.2.2.2.2.2.1.1, (), ()), ()), y18.2.2.1, [], y18.2.2.2.2.1, y18.2.2.2.1, y18.2.2.2.2.2.1, ()))).bind fun r => match r with
                | .inl y20 =>
                  ((iter big u68_111_7_3 (((), (), (), (), (), (), (y20.2.1.2.2.2.2.2.2.2.2.1.length : Int), 0, ()), ((y20.2.1.1.1, y20.2.1.1.2.1, ()), (y20.2.1.2.1.1, ()), (y20.2.1.2.2.1.1, (), ()), y20.2.1.2.2.2.1, (y20.2.1.2.2.2.2.1.1, (), (), (), (), (), (), (), (), ()), y20.2.1.2.2.2.2.2.1, y20.2.1.2.2.2.2.2.2.1, y20.2.1.2.2.2.2.2.2.2.1, y20.2.1.2.2.2.2.2.2.2.2.1, y20.2.1.2.2.2.2.2.2.2.2.2.1, y20.2.1.2.2.2.2.2.2.2.2.2.2.1, y20.2.1.2.2.2.2.2.2.2.2.2.2.2.1, y20.2.1.2.2.2.2.2.2.2.2.2.2.2.2.1, (y20.2.1.2.2.2.2.2.2.2.2.2.2.2.2.2.1.1, y20.2.1.2.2.2.2.2.2.2.2.2.2.2.2.2.1.2.1, ()), y20.2.1.2.2.2.2.2.2.2.2.2.2.2.2.2.2.1, (y20.2.1.2.2.2.2.2.2.2.2.2.2.2.2.2.2.2.1.1, (), ()), ()), y20.2.2.1, [], y20.2.2.2.2.1, y20.2.2.2.2.2.1, y20.2.2.2.1, y20.2.2.2.2.2.2.1, ()))).bind fun r => match r with
                  | .inl y22 =>
                    ((iter big u68_111_7_4 (((), (), (), (), (), (), (y22.2.1.2.2.2.2.2.2.2.2.2.1.length : Int), 0, ()), ((y22.2.1.1.1, y22.2.1.1.2.1, ()), (y22.2.1.2.1.1, ()), (y22.2.1.2.2.1.1, (), ()), y22.2.1.2.2.2.1, (y22.2.1.2.2.2.2.1.1, (), (), (), (), (), (), (), (), ()), y22.2.1.2.2.2.2.2.1, y22.2.1.2.2.2.2.2.2.1, y22.2.1.2.2.2.2.2.2.2.1, y22.2.1.2.2.2.2.2.2.2.2.1, y22.2.1.2.2.2.2.2.2.2.2.2.1, y22.2.1.2.2.2.2.2.2.2.2.2.2.1, y22.2.1.2.2.2.2.2.2.2.2.2.2.2.1, y22.2.1.2.2.2.2.2.2.2.2.2.2.2.2.1, (y22.2.1.2.2.2.2.2.2.2.2.2.2.2.2.2.1.1, y22.2.1.2.2.2.2.2.2.2.2.2.2.2.2.2.1.2.1, ()), y22.2.1.2.2.2.2.2.2.2.2.2.2.2.2.2.2.1, (y22.2.1.2.2.2.2.2.2.2.2.2.2.2.2.2.2.2.1.1, (), ()), ()), y22.2.2.1, [], y22.2.2.2.2.1, y22.2.2.2.2.2.1, y22.2.2.2.2.2.2.1, y22.2.2.2.1, y22.2.2.2.2.2.2.2.1, ()))).bind fun r => match r with
                    | .inl y24 =>
                      ((iter big u68_111_7_5 (((), (), (), (), (), (), (y24.2.1.2.2.2.2.2.2.2.2.2.2.1.length : Int), 0, ()), ((y24.2.1.1.1, y24.2.1.1.2.1, ()), (y24.2.1.2.1.1, ()), (y24.2.1.2.2.1.1, (), ()), y24.2.1.2.2.2.1, (y24.2.1.2.2.2.2.1.1, (), (), (), (), (), (), (), (), ()), y24.2.1.2.2.2.2.2.1, y24.2.1.2.2.2.2.2.2.1, y24.2.1.2.2.2.2.2.2.2.1, y24.2.1.2.2.2.2.2.2.2.2.1, y24.2.1.2.2.2.2.2.2.2.2.2.1, y24.2.1.2.2.2.2.2.2.2.2.2.2.1, y24.2.1.2.2.2.2.2.2.2.2.2.2.2.1, y24.2.1.2.2.2.2.2.2.2.2.2.2.2.2.1, (y24.2.1.2.2.2.2.2.2.2.2.2.2.2.2.2.1.1, y24.2.1.2.2.2.2.2.2.2.2.2.2.2.2.2.1.2.1, ()), y24.2.1.2.2.2.2.2.2.2.2.2.2.2.2.2.2.1, (y24.2.1.2.2.2.2.2.2.2.2.2.2.2.2.2.2.2.1.1, (), ()), ()), y24.2.2.1, [], y24.2.2.2.2.1, y24.2.2.2.2.2.1, y24.2.2.2.2.2.2.1, y24.2.2.2.2.2.2.2.1, y24.2.2.2.1, y24.2.2.2.2.2.2.2.2.1, ()))).bind fun r => match r with
                      | .inl y26 =>
                        ((iter big u68_111_7_6 (((), (), (), (), (), (), (y26.2.1.2.2.2.2.2.2.2.2.2.2.2.1.length : Int), 0, ()), ((y26.2.1.1.1, y26.2.1.1.2.1, ()), (y26.2.1.2.1.1, ()), (y26.2.1.2.2.1.1, (), ()), y26.2.1.2.2.2.1, (y26.2.1.2.2.2.2.1.1, (), (), (), (), (), (), (), (), ()), y26.2.1.2.2.2.2.2.1, y26.2.1.2.2.2.2.2.2.1, y26.2.1.2.2.2.2.2.2.2.1, y26.2.1.2.2.2.2.2.2.2.2.1, y26.2.1.2.2.2.2.2.2.2.2.2.1, y26.2.1.2.2.2.2.2.2.2.2.2.2.1, y26.2.1.2.2.2.2.2.2.2.2.2.2.2.1, y26.2.1.2.2.2.2.2.2.2.2.2.2.2.2.1, (y26.2.1.2.2.2.2.2.2.2.2.2.2.2.2.2.1.1, y26.2.1.2.2.2.2.2.2.2.2.2.2.2.2.2.1.2.1, ()), y26.2.1.2.2.2.2.2.2.2.2.2.2.2.2.2.2.1, (y26.2.1.2.2.2.2.2.2.2.2.2.2.2.2.2.2.2.1.1, (), ()), ()), y26.2.2.1, [], y26.2.2.2.2.1, y26.2.2.2.2.2.1, y26.2.2.2.2.2.2.1, y26.2.2.2.2.2.2.2.1, y26.2.2.2.2.2.2.2.2.1, y26.2.2.2.1, y26.2.2.2.2.2.2.2.2.2.1, ()))).bind fun r => match r with
                        | .inl y28 =>
                          ((iter big u68_111_7_7 (((), (), (), (), (), (), (y28.2.1.2.2.2.2.2.2.2.2.2.2.2.2.1.length : Int), 0, ()), ((y28.2.1.1.1, y28.2.1.1.2.1, ()), (y28.2.1.2.1.1, ()), (y28.2.1.2.2.1.1, (), ()), y28.2.1.2.2.2.1, (y28.2.1.2.2.2.2.1.1, (), (), (), (), (), (), (), (), ()), y28.2.1.2.2.2.2.2.1, y28.2.1.2.2.2.2.2.2.1, y28.2.1.2.2.2.2.2.2.2.1, y28.2.1.2.2.2.2.2.2.2.2.1, y28.2.1.2.2.2.2.2.2.2.2.2.1, y28.2.1.2.2.2.2.2.2.2.2.2.2.1, y28.2.1.2.2.2.2.2.2.2.2.2.2.2.1, y28.2.1.2.2.2.2.2.2.2.2.2.2.2.2.1, (y28.2.1.2.2.2.2.2.2.2.2.2.2.2.2.2.1.1, y28.2.1.2.2.2.2.2.2.2.2.2.2.2.2.2.1.2.1, ()), y28.2.1.2.2.2.2.2.2.2.2.2.2.2.2.2.2.1, (y28.2.1.2.2.2.2.2.2.2.2.2.2.2.2.2.2.2.1.1, (), ()), ()), y28.2.2.1, [], y28.2.2.2.2.1, y28.2.2.2.2.2.1, y28.2.2.2.2.2.2.1, y28.2.2.2.2.2.2.2.1, y28.2.2.2.2.2.2.2.2.1, y28.2.2.2.2.2.2.2.2.2.1, y28.2.2.2.1, y28.2.2.2.2.2.2.2.2.2.2.1, ()))).bind fun r => match r with
                          | .inl y30 =>
                            ((fSortT y30.2.2.1)).bind fun y32 =>
                            cond ((Nat.beq y32.length y30.2.2.1.length) && true) (
                             cond (decide (y30.2.1.2.2.2.2.1.1 = y13.2.1.2.2.2.2.1.1)) (
                              some ((y13.2.1.2.2.2.2.1.1, y32), 0, ())) (
                              none)) (
                             none)
                          | .inr z31 =>
                            none
                        | .inr z29 =>
                          none
                      | .inr z27 =>
                        none
                    | .inr z25 =>
                      none
                  | .inr z23 =>
                    none
                | .inr z21 =>
                  none
              | .inr z19 =>
                none
            | .inr z17 =>
              none
noncomputable def f68 (v1 : Int) (v2 : DT0) (v3 v4 : Int) : Option ((Int × DT0) × Int × Unit) :=
 ((f104 v1 v2)).bind fun y5 =>
 cond (!y5.1) (
  ((f106 v1 v2)).bind fun y6 =>
  some ((y6.1.1, y6.1.2), 1, ())) (
  cond (decide (v3 < 0)) (
   ((f106 v1 v2)).bind fun y7 =>
   some ((y7.1.1, y7.1.2), 1, ())) (
   cond (decide (v4 ≤ v1)) (
    ((f106 v1 v2)).bind fun y8 =>
    some ((y8.1.1, y8.1.2), 10, ())) (
    cond (decide (1073741824 < v4)) (
     ((f106 v1 v2)).bind fun y9 =>
     some ((y9.1.1, y9.1.2), 10, ())) (
     ((iter big u68_134_2_0 ((v2, (), (v2.length : Int), 0, ()), ((v1, v2, ()), (v3, ()), (0, (), ()), ()), [], ()))).bind fun r => match r with
     | .inl y10 =>
       cond (decide ((y10.2.1.1.2.1.length : Int) = 64)) (
        ((f106 y10.2.1.1.1 y10.2.1.1.2.1)).bind fun y12 =>
        some ((y12.1.1, y12.1.2), 9, ())) (
        ((iter big u68_108_3_0 (((), y10.2.1.1.2.1, (y10.2.1.1.2.1.length : Int), 0, ()), ((y10.2.1.1.1, y10.2.1.1.2.1, ()), (y10.2.1.2.1.1, ()), (y10.2.1.2.2.1.1, (), ()), y10.2.2.1, (y10.2.1.1.1, (), (), (), (), (), (), (), (), ()), ()), [], [], [], [], [], [], [], [], ()))).bind fun r => match r with
        | .inl y13 =>
          ((f135 v4)).bind fun y15 =>
          cond (decide (y15.1 = 0)) (
           cond ((decide (((y13.2.2.1.length + 1) * 16) ≤ 140737488355328)) && (decide ((y13.2.2.1.length + 1) ≤ 9223372036854775807))) (
            g68 y13 v4 (y13.2.2.1 ++ [(y13.2.1.2.1.1, v4)]) (y13.2.2.2.1) (y13.2.2.2.2.1) (y13.2.2.2.2.2.1) (y13.2.2.2.2.2.2.1) (y13.2.2.2.2.2.2.2.1) (y13.2.2.2.2.2.2.2.2.1) (y13.2.2.2.2.2.2.2.2.2.1)) (
            none)) (
           cond (decide (y15.1 = 1)) (
            cond ((decide (((y13.2.2.2.1.length + 1) * 16) ≤ 140737488355328)) && (decide ((y13.2.2.2.1.length + 1) ≤ 9223372036854775807))) (
             g68 y13 v4 (y13.2.2.1) (y13.2.2.2.1 ++ [(y13.2.1.2.1.1, v4)]) (y13.2.2.2.2.1) (y13.2.2.2.2.2.1) (y13.2.2.2.2.2.2.1) (y13.2.2.2.2.2.2.2.1) (y13.2.2.2.2.2.2.2.2.1) (y13.2.2.2.2.2.2.2.2.2.1)) (
             none)) (
            cond (decide (y15.1 = 2)) (
             cond ((decide (((y13.2.2.2.2.1.length + 1) * 16) ≤ 140737488355328)) && (decide ((y13.2.2.2.2.1.length + 1) ≤ 9223372036854775807))) (
              g68 y13 v4 (y13.2.2.1) (y13.2.2.2.1) (y13.2.2.2.2.1 ++ [(y13.2.1.2.1.1, v4)]) (y13.2.2.2.2.2.1) (y13.2.2.2.2.2.2.1) (y13.2.2.2.2.2.2.2.1) (y13.2.2.2.2.2.2.2.2.1) (y13.2.2.2.2.2.2.2.2.2.1)) (
              none)) (
             cond (decide (y15.1 = 3)) (
              cond ((decide (((y13.2.2.2.2.2.1.length + 1) * 16) ≤ 140737488355328)) && (decide ((y13.2.2.2.2.2.1.length + 1) ≤ 9223372036854775807))) (
               g68 y13 v4 (y13.2.2.1) (y13.2.2.2.1) (y13.2.2.2.2.1) (y13.2.2.2.2.2.1 ++ [(y13.2.1.2.1.1, v4)]) (y13.2.2.2.2.2.2.1) (y13.2.2.2.2.2.2.2.1) (y13.2.2.2.2.2.2.2.2.1) (y13.2.2.2.2.2.2.2.2.2.1)) (
               none)) (
              cond (decide (y15.1 = 4)) (
               cond ((decide (((y13.2.2.2.2.2.2.1.length + 1) * 16) ≤ 140737488355328)) && (decide ((y13.2.2.2.2.2.2.1.length + 1) ≤ 9223372036854775807))) (
                g68 y13 v4 (y13.2.2.1) (y13.2.2.2.1) (y13.2.2.2.2.1) (y13.2.2.2.2.2.1) (y13.2.2.2.2.2.2.1 ++ [(y13.2.1.2.1.1, v4)]) (y13.2.2.2.2.2.2.2.1) (y13.2.2.2.2.2.2.2.2.1) (y13.2.2.2.2.2.2.2.2.2.1)) (
                none)) (
               cond (decide (y15.1 = 5)) (
                cond ((decide (((y13.2.2.2.2.2.2.2.1.length + 1) * 16) ≤ 140737488355328)) && (decide ((y13.2.2.2.2.2.2.2.1.length + 1) ≤ 9223372036854775807))) (
                 g68 y13 v4 (y13.2.2.1) (y13.2.2.2.1) (y13.2.2.2.2.1) (y13.2.2.2.2.2.1) (y13.2.2.2.2.2.2.1) (y13.2.2.2.2.2.2.2.1 ++ [(y13.2.1.2.1.1, v4)]) (y13.2.2.2.2.2.2.2.2.1) (y13.2.2.2.2.2.2.2.2.2.1)) (
                 none)) (
                cond (decide (y15.1 = 6)) (
                 cond ((decide (((y13.2.2.2.2.2.2.2.2.1.length + 1) * 16) ≤ 140737488355328)) && (decide ((y13.2.2.2.2.2.2.2.2.1.length + 1) ≤ 9223372036854775807))) (
                  g68 y13 v4 (y13.2.2.1) (y13.2.2.2.1) (y13.2.2.2.2.1) (y13.2.2.2.2.2.1) (y13.2.2.2.2.2.2.1) (y13.2.2.2.2.2.2.2.1) (y13.2.2.2.2.2.2.2.2.1 ++ [(y13.2.1.2.1.1, v4)]) (y13.2.2.2.2.2.2.2.2.2.1)) (
                  none)) (
                 cond (decide (y15.1 = 7)) (
                  cond ((decide (((y13.2.2.2.2.2.2.2.2.2.1.length + 1) * 16) ≤ 140737488355328)) && (decide ((y13.2.2.2.2.2.2.2.2.2.1.length + 1) ≤ 9223372036854775807))) (
                   g68 y13 v4 (y13.2.2.1) (y13.2.2.2.1) (y13.2.2.2.2.1) (y13.2.2.2.2.2.1) (y13.2.2.2.2.2.2.1) (y13.2.2.2.2.2.2.2.1) (y13.2.2.2.2.2.2.2.2.1) (y13.2.2.2.2.2.2.2.2.2.1 ++ [(y13.2.1.2.1.1, v4)])) (
                   none)) (
                  none))))))))
        | .inr z14 =>
          none)
     | .inr z11 =>
       cond (decide (0 ≤ z11.1.1)) (
        ((f106 z11.2.1.1.1 z11.2.1.1.2.1)).bind fun y152 =>
        some ((y152.1.1, y152.1.2), 11, ())) (
        cond (decide ((z11.2.1.1.2.1.length : Int) = 64)) (
         ((f106 z11.2.1.1.1 z11.2.1.1.2.1)).bind fun y153 =>
         some ((y153.1.1, y153.1.2), 9, ())) (
         none))))))
abbrev X69_108_3_0 : Type := (Unit × DT0 × Int × Int × Unit) × (DT28 × DT29 × DT22 × Unit) × DT0 × DT0 × DT0 × DT0 × DT0 × DT0 × DT0 × DT0 × DT0 × Unit
abbrev Y69_108_3_0 : Type := (Unit × Unit) × (DT28 × DT29 × DT22 × Unit) × DT0 × DT0 × DT0 × DT0 × DT0 × DT0 × DT0 × DT0 × DT0 × Unit
abbrev Z69_108_3_0 : Type := Unit × (Unit × Unit × Unit) × Unit
noncomputable def t69_108_3_0 (v1 : DT0) (v2 v3 v4 : Int) (v5 : DT0) (v6 v7 : Int) (v8 v9 v10 v11 v12 v13 v14 v15 v16 : DT0) : Option (R3 X69_108_3_0 Y69_108_3_0 Z69_108_3_0) :=
 cond (decide (v3 < v2)) (
  cond ((decide (0 ≤ v3)) && (decide (v3 < (v1.length : Int)))) (
   ((f135 (rd dT0 v1 (Int.toNat v3)).2)).bind fun y17 =>
   cond (decide (y17.1 = 0)) (
    cond ((decide (((v9.length + 1) * 16) ≤ 140737488355328)) && (decide ((v9.length + 1) ≤ 9223372036854775807))) (
     some (R3.next (((), v1, v2, (IntKind.wrap .i64 (v3 + 1)), ()), ((v4, v5, ()), (v6, (), ()), (v7, (), (), (), (), (), (), (), (), ()), ()), v8, (v9 ++ [((rd dT0 v1 (Int.toNat v3)).1, (rd dT0 v1 (Int.toNat v3)).2)]), v10, v11, v12, v13, v14, v15, v16, ()))) (
     none)) (
    cond (decide (y17.1 = 1)) (
     cond ((decide (((v10.length + 1) * 16) ≤ 140737488355328)) && (decide ((v10.length + 1) ≤ 9223372036854775807))) (
      some (R3.next (((), v1, v2, (IntKind.wrap .i64 (v3 + 1)), ()), ((v4, v5, ()), (v6, (), ()), (v7, (), (), (), (), (), (), (), (), ()), ()), v8, v9, (v10 ++ [((rd dT0 v1 (Int.toNat v3)).1, (rd dT0 v1 (Int.toNat v3)).2)]), v11, v12, v13, v14, v15, v16, ()))) (
      none)) (
     cond (decide (y17.1 = 2)) (
      cond ((decide (((v11.length + 1) * 16) ≤ 140737488355328)) && (decide ((v11.length + 1) ≤ 9223372036854775807))) (
       some (R3.next (((), v1, v2, (IntKind.wrap .i64 (v3 + 1)), ()), ((v4, v5, ()), (v6, (), ()), (v7, (), (), (), (), (), (), (), (), ()), ()), v8, v9, v10, (v11 ++ [((rd dT0 v1 (Int.toNat v3)).1, (rd dT0 v1 (Int.toNat v3)).2)]), v12, v13, v14, v15, v16, ()))) (
       none)) (
      cond (decide (y17.1 = 3)) (
       cond ((decide (((v12.length + 1) * 16) ≤ 140737488355328)) && (decide ((v12.length + 1) ≤ 9223372036854775807))) (
        some (R3.next (((), v1, v2, (IntKind.wrap .i64 (v3 + 1)), ()), ((v4, v5, ()), (v6, (), ()), (v7, (), (), (), (), (), (), (), (), ()), ()), v8, v9, v10, v11, (v12 ++ [((rd dT0 v1 (Int.toNat v3)).1, (rd dT0 v1 (Int.toNat v3)).2)]), v13, v14, v15, v16, ()))) (
        none)) (
       cond (decide (y17.1 = 4)) (
        cond ((decide (((v13.length + 1) * 16) ≤ 140737488355328)) && (decide ((v13.length + 1) ≤ 9223372036854775807))) (
         some (R3.next (((), v1, v2, (IntKind.wrap .i64 (v3 + 1)), ()), ((v4, v5, ()), (v6, (), ()), (v7, (), (), (), (), (), (), (), (), ()), ()), v8, v9, v10, v11, v12, (v13 ++ [((rd dT0 v1 (Int.toNat v3)).1, (rd dT0 v1 (Int.toNat v3)).2)]), v14, v15, v16, ()))) (
         none)) (
        cond (decide (y17.1 = 5)) (
         cond ((decide (((v14.length + 1) * 16) ≤ 140737488355328)) && (decide ((v14.length + 1) ≤ 9223372036854775807))) (
          some (R3.next (((), v1, v2, (IntKind.wrap .i64 (v3 + 1)), ()), ((v4, v5, ()), (v6, (), ()), (v7, (), (), (), (), (), (), (), (), ()), ()), v8, v9, v10, v11, v12, v13, (v14 ++ [((rd dT0 v1 (Int.toNat v3)).1, (rd dT0 v1 (Int.toNat v3)).2)]), v15, v16, ()))) (
          none)) (
         cond (decide (y17.1 = 6)) (
          cond ((decide (((v15.length + 1) * 16) ≤ 140737488355328)) && (decide ((v15.length + 1) ≤ 9223372036854775807))) (
           some (R3.next (((), v1, v2, (IntKind.wrap .i64 (v3 + 1)), ()), ((v4, v5, ()), (v6, (), ()), (v7, (), (), (), (), (), (), (), (), ()), ()), v8, v9, v10, v11, v12, v13, v14, (v15 ++ [((rd dT0 v1 (Int.toNat v3)).1, (rd dT0 v1 (Int.toNat v3)).2)]), v16, ()))) (
           none)) (
          cond (decide (y17.1 = 7)) (
           cond ((decide (((v16.length + 1) * 16) ≤ 140737488355328)) && (decide ((v16.length + 1) ≤ 9223372036854775807))) (
            some (R3.next (((), v1, v2, (IntKind.wrap .i64 (v3 + 1)), ()), ((v4, v5, ()), (v6, (), ()), (v7, (), (), (), (), (), (), (), (), ()), ()), v8, v9, v10, v11, v12, v13, v14, v15, (v16 ++ [((rd dT0 v1 (Int.toNat v3)).1, (rd dT0 v1 (Int.toNat v3)).2)]), ()))) (
            none)) (
           none))))))))) (
   none)) (
  some (R3.out (((), ()), ((v4, v5, ()), (v6, (), ()), (v7, (), (), (), (), (), (), (), (), ()), ()), v8, v9, v10, v11, v12, v13, v14, v15, v16, ())))
noncomputable def u69_108_3_0 (z : X69_108_3_0) : Option (R3 X69_108_3_0 Y69_108_3_0 Z69_108_3_0) := t69_108_3_0 z.1.2.1 z.1.2.2.1 z.1.2.2.2.1 z.2.1.1.1 z.2.1.1.2.1 z.2.1.2.1.1 z.2.1.2.2.1.1 z.2.2.1 z.2.2.2.1 z.2.2.2.2.1 z.2.2.2.2.2.1 z.2.2.2.2.2.2.1 z.2.2.2.2.2.2.2.1 z.2.2.2.2.2.2.2.2.1 z.2.2.2.2.2.2.2.2.2.1 z.2.2.2.2.2.2.2.2.2.2.1
abbrev X69_111_7_0 : Type := DT8 × DT5 × DT0 × DT0 × Unit
abbrev Y69_111_7_0 : Type := DT10 × DT5 × DT0 × DT0 × Unit
abbrev Z69_111_7_0 : Type := Unit × DT13 × Unit
noncomputable def t69_111_7_0 (v1 v2 v3 : Int) (v4 : DT0) (v5 v6 : Int) (v7 v8 v9 v10 v11 v12 v13 v14 v15 v16 v17 : DT0) : Option (R3 X69_111_7_0 Y69_111_7_0 Z69_111_7_0) :=
 cond (decide (v2 < v1)) (
  cond ((decide (0 ≤ v2)) && (decide (v2 < (v8.length : Int)))) (
   cond (decide ((Int.toNat v2) < v8.length)) (
    cond (decide ((rd dT0 v8 (Int.toNat v2)).2 ≤ v6)) (
     cond ((decide (((v16.length + 1) * 16) ≤ 140737488355328)) && (decide ((v16.length + 1) ≤ 9223372036854775807))) (
      some (R3.next (((), (), (), (), (), (), v1, (IntKind.wrap .i64 (v2 + 1)), ()), ((v3, v4, ()), (v5, (), ()), (v6, (), (), (), (), (), (), (), (), ()), v7, v8, v9, v10, v11, v12, v13, v14, v15, ()), (v16 ++ [((rd dT0 v8 (Int.toNat v2)).1, (rd dT0 v8 (Int.toNat v2)).2)]), v17, ()))) (
      none)) (
     cond ((decide (((v17.length + 1) * 16) ≤ 140737488355328)) && (decide ((v17.length + 1) ≤ 9223372036854775807))) (
      some (R3.next (((), (), (), (), (), (), v1, (IntKind.wrap .i64 (v2 + 1)), ()), ((v3, v4, ()), (v5, (), ()), (v6, (), (), (), (), (), (), (), (), ()), v7, v8, v9, v10, v11, v12, v13, v14, v15, ()), v16, (v17 ++ [((rd dT0 v8 (Int.toNat v2)).1, (rd dT0 v8 (Int.toNat v2)).2)]), ()))) (
      none))) (
    none)) (
   none)) (
  some (R3.out (((), (), (), (), (), ()), ((v3, v4, ()), (v5, (), ()), (v6, (), (), (), (), (), (), (), (), ()), v7, v8, v9, v10, v11, v12, v13, v14, v15, ()), v16, v17, ())))
noncomputable def u69_111_7_0 (z : X69_111_7_0) : Option (R3 X69_111_7_0 Y69_111_7_0 Z69_111_7_0) := t69_111_7_0 z.1.2.2.2.2.2.2.1 z.1.2.2.2.2.2.2.2.1 z.2.1.1.1 z.2.1.1.2.1 z.2.1.2.1.1 z.2.1.2.2.1.1 z.2.1.2.2.2.1 z.2.1.2.2.2.2.1 z.2.1.2.2.2.2.2.1 z.2.1.2.2.2.2.2.2.1 z.2.1.2.2.2.2.2.2.2.1 z.2.1.2.2.2.2.2.2.2.2.1 z.2.1.2.2.2.2.2.2.2.2.2.1 z.2.1.2.2.2.2.2.2.2.2.2.2.1 z.2.1.2.2.2.2.2.2.2.2.2.2.2.1 z.2.2.1 z.2.2.2.1
abbrev X69_111_7_1 : Type := DT8 × DT5 × DT0 × DT0 × DT0 × Unit
abbrev Y69_111_7_1 : Type := DT10 × DT5 × DT0 × DT0 × DT0 × Unit
abbrev Z69_111_7_1 : Type := Unit × DT13 × Unit
noncomputable def t69_111_7_1 (v1 v2 v3 : Int) (v4 : DT0) (v5 v6 : Int) (v7 v8 v9 v10 v11 v12 v13 v14 v15 v16 v17 v18 : DT0) : Option (R3 X69_111_7_1 Y69_111_7_1 Z69_111_7_1) :=
 cond (decide (v2 < v1)) (
  cond ((decide (0 ≤ v2)) && (decide (v2 < (v9.length : Int)))) (
   cond (decide ((Int.toNat v2) < v9.length)) (
    cond (decide ((rd dT0 v9 (Int.toNat v2)).2 ≤ v6)) (
     cond ((decide (((v16.length + 1) * 16) ≤ 140737488355328)) && (decide ((v16.length + 1) ≤ 9223372036854775807))) (
      some (R3.next (((), (), (), (), (), (), v1, (IntKind.wrap .i64 (v2 + 1)), ()), ((v3, v4, ()), (v5, (), ()), (v6, (), (), (), (), (), (), (), (), ()), v7, v8, v9, v10, v11, v12, v13, v14, v15, ()), (v16 ++ [((rd dT0 v9 (Int.toNat v2)).1, (rd dT0 v9 (Int.toNat v2)).2)]), v17, v18, ()))) (
      none)) (
     cond ((decide (((v17.length + 1) * 16) ≤ 140737488355328)) && (decide ((v17.length + 1) ≤ 9223372036854775807))) (
      some (R3.next (((), (), (), (), (), (), v1, (IntKind.wrap .i64 (v2 + 1)), ()), ((v3, v4, ()), (v5, (), ()), (v6, (), (), (), (), (), (), (), (), ()), v7, v8, v9, v10, v11, v12, v13, v14, v15, ()), v16, (v17 ++ [((rd dT0 v9 (Int.toNat v2)).1, (rd dT0 v9 (Int.toNat v2)).2)]), v18, ()))) (
      none))) (
    none)) (
   none)) (
  some (R3.out (((), (), (), (), (), ()), ((v3, v4, ()), (v5, (), ()), (v6, (), (), (), (), (), (), (), (), ()), v7, v8, v9, v10, v11, v12, v13, v14, v15, ()), v16, v17, v18, ())))
noncomputable def u69_111_7_1 (z : X69_111_7_1) : Option (R3 X69_111_7_1 Y69_111_7_1 Z69_111_7_1) := t69_111_7_1 z.1.2.2.2.2.2.2.1 z.1.2.2.2.2.2.2.2.1 z.2.1.1.1 z.2.1.1.2.1 z.2.1.2.1.1 z.2.1.2.2.1.1 z.2.1.2.2.2.1 z.2.1.2.2.2.2.1 z.2.1.2.2.2.2.2.1 z.2.1.2.2.2.2.2.2.1 z.2.1.2.2.2.2.2.2.2.1 z.2.1.2.2.2.2.2.2.2.2.1 z.2.1.2.2.2.2.2.2.2.2.2.1 z.2.1.2.2.2.2.2.2.2.2.2.2.1 z.2.1.2.2.2.2.2.2.2.2.2.2.2.1 z.2.2.1 z.2.2.2.1 z.2.2.2.2.1
abbrev X69_111_7_2 : Type := DT8 × DT5 × DT0 × DT0 × DT0 × DT0 × Unit
abbrev Y69_111_7_2 : Type := DT10 × DT5 × DT0 × DT0 × DT0 × DT0 × Unit
abbrev Z69_111_7_2 : Type := Unit × DT13 × Unit
noncomputable def t69_111_7_2 (v1 v2 v3 : Int) (v4 : DT0) (v5 v6 : Int) (v7 v8 v9 v10 v11 v12 v13 v14 v15 v16 v17 v18 v19 : DT0) : Option (R3 X69_111_7_2 Y69_111_7_2 Z69_111_7_2) :=
 cond (decide (v2 < v1)) (
  cond ((decide (0 ≤ v2)) && (decide (v2 < (v10.length : Int)))) (
   cond (decide ((Int.toNat v2) < v10.length)) (
    cond (decide ((rd dT0 v10 (Int.toNat v2)).2 ≤ v6)) (
     cond ((decide (((v16.length + 1) * 16) ≤ 140737488355328)) && (decide ((v16.length + 1) ≤ 9223372036854775807))) (
      some (R3.next (((), (), (), (), (), (), v1, (IntKind.wrap .i64 (v2 + 1)), ()), ((v3, v4, ()), (v5, (), ()), (v6, (), (), (), (), (), (), (), (), ()), v7, v8, v9, v10, v11, v12, v13, v14, v15, ()), (v16 ++ [((rd dT0 v10 (Int.toNat v2)).1, (rd dT0 v10 (Int.toNat v2)).2)]), v17, v18, v19, ()))) (
      none)) (
     cond ((decide (((v17.length + 1) * 16) ≤ 140737488355328)) && (decide ((v17.length + 1) ≤ 9223372036854775807))) (
      some (R3.next (((), (), (), (), (), (), v1, (IntKind.wrap .i64 (v2 + 1)), ()), ((v3, v4, ()), (v5, (), ()), (v6, (), (), (), (), (), (), (), (), ()), v7, v8, v9, v10, v11, v12, v13, v14, v15, ()), v16, (v17 ++ [((rd dT0 v10 (Int.toNat v2)).1, (rd dT0 v10 (Int.toNat v2)).2)]), v18, v19, ()))) (
      none))) (
    none)) (
   none)) (
  some (R3.out (((), (), (), (), (), ()), ((v3, v4, ()), (v5, (), ()), (v6, (), (), (), (), (), (), (), (), ()), v7, v8, v9, v10, v11, v12, v13, v14, v15, ()), v16, v17, v18, v19, ())))
noncomputable def u69_111_7_2 (z : X69_111_7_2) : Option (R3 X69_111_7_2 Y69_111_7_2 Z69_111_7_2) := t69_111_7_2 z.1.2.2.2.2.2.2.1 z.1.2.2.2.2.2.2.2.1 z.2.1.1.1 z.2.1.1.2.1 z.2.1.2.1.1 z.2.1.2.2.1.1 z.2.1.2.2.2.1 z.2.1.2.2.2.2.1 z.2.1.2.2.2.2.2.1 z.2.1.2.2.2.2.2.2.1 z.2.1.2.2.2.2.2.2.2.1 z.2.1.2.2.2.2.2.2.2.2.1 z.2.1.2.2.2.2.2.2.2.2.2.1 z.2.1.2.2.2.2.2.2.2.2.2.2.1 z.2.1.2.2.2.2.2.2.2.2.2.2.2.1 z.2.2.1 z.2.2.2.1 z.2.2.2.2.1 z.2.2.2.2.2.1
abbrev X69_111_7_3 : Type := DT8 × DT5 × DT0 × DT0 × DT0 × DT0 × DT0 × Unit
abbrev Y69_111_7_3 : Type := DT10 × DT5 × DT0 × DT0 × DT0 × DT0 × DT0 × Unit
abbrev Z69_111_7_3 : Type := Unit × DT13 × Unit
noncomputable def t69_111_7_3 (v1 v2 v3 : Int) (v4 : DT0) (v5 v6 : Int) (v7 v8 v9 v10 v11 v12 v13 v14 v15 v16 v17 v18 v19 v20 : DT0) : Option (R3 X69_111_7_3 Y69_111_7_3 Z69_111_7_3) :=
 cond (decide (v2 < v1)) (
  cond ((decide (0 ≤ v2)) && (decide (v2 < (v11.length : Int)))) (
   cond (decide ((Int.toNat v2) < v11.length)) (
    cond (decide ((rd dT0 v11 (Int.toNat v2)).2 ≤ v6)) (
     cond ((decide (((v16.length + 1) * 16) ≤ 140737488355328)) && (decide ((v16.length + 1) ≤ 9223372036854775807))) (
      some (R3.next (((), (), (), (), (), (), v1, (IntKind.wrap .i64 (v2 + 1)), ()), ((v3, v4, ()), (v5, (), ()), (v6, (), (), (), (), (), (), (), (), ()), v7, v8, v9, v10, v11, v12, v13, v14, v15, ()), (v16 ++ [((rd dT0 v11 (Int.toNat v2)).1, (rd dT0 v11 (Int.toNat v2)).2)]), v17, v18, v19, v20, ()))) (
      none)) (
     cond ((decide (((v17.length + 1) * 16) ≤ 140737488355328)) && (decide ((v17.length + 1) ≤ 9223372036854775807))) (
      some (R3.next (((), (), (), (), (), (), v1, (IntKind.wrap .i64 (v2 + 1)), ()), ((v3, v4, ()), (v5, (), ()), (v6, (), (), (), (), (), (), (), (), ()), v7, v8, v9, v10, v11, v12, v13, v14, v15, ()), v16, (v17 ++ [((rd dT0 v11 (Int.toNat v2)).1, (rd dT0 v11 (Int.toNat v2)).2)]), v18, v19, v20, ()))) (
      none))) (
    none)) (
   none)) (
  some (R3.out (((), (), (), (), (), ()), ((v3, v4, ()), (v5, (), ()), (v6, (), (), (), (), (), (), (), (), ()), v7, v8, v9, v10, v11, v12, v13, v14, v15, ()), v16, v17, v18, v19, v20, ())))
noncomputable def u69_111_7_3 (z : X69_111_7_3) : Option (R3 X69_111_7_3 Y69_111_7_3 Z69_111_7_3) := t69_111_7_3 z.1.2.2.2.2.2.2.1 z.1.2.2.2.2.2.2.2.1 z.2.1.1.1 z.2.1.1.2.1 z.2.1.2.1.1 z.2.1.2.2.1.1 z.2.1.2.2.2.1 z.2.1.2.2.2.2.1 z.2.1.2.2.2.2.2.1 z.2.1.2.2.2.2.2.2.1 z.2.1.2.2.2.2.2.2.2.1 z.2.1.2.2.2.2.2.2.2.2.1 z.2.1.2.2.2.2.2.2.2.2.2.1 z.2.1.2.2.2.2.2.2.2.2.2.2.1 z.2.1.2.2.2.2.2.2.2.2.2.2.2.1 z.2.2.1 z.2.2.2.1 z.2.2.2.2.1 z.2.2.2.2.2.1 z.2.2.2.2.2.2.1
abbrev X69_111_7_4 : Type := DT8 × DT5 × DT0 × DT0 × DT0 × DT0 × DT0 × DT0 × Unit
abbrev Y69_111_7_4 : Type := DT10 × DT5 × DT0 × DT0 × DT0 × DT0 × DT0 × DT0 × Unit
abbrev Z69_111_7_4 : Type := Unit × DT13 × Unit
noncomputable def t69_111_7_4 (v1 v2 v3 : Int) (v4 : DT0) (v5 v6 : Int) (v7 v8 v9 v10 v11 v12 v13 v14 v15 v16 v17 v18 v19 v20 v21 : DT0) : Option (R3 X69_111_7_4 Y69_111_7_4 Z69_111_7_4) :=
 cond (decide (v2 < v1)) (
  cond ((decide (0 ≤ v2)) && (decide (v2 < (v12.length : Int)))) (
   cond (decide ((Int.toNat v2) < v12.length)) (
    cond (decide ((rd dT0 v12 (Int.toNat v2)).2 ≤ v6)) (
     cond ((decide (((v16.length + 1) * 16) ≤ 140737488355328)) && (decide ((v16.length + 1) ≤ 9223372036854775807))) (
      some (R3.next (((), (), (), (), (), (), v1, (IntKind.wrap .i64 (v2 + 1)), ()), ((v3, v4, ()), (v5, (), ()), (v6, (), (), (), (), (), (), (), (), ()), v7, v8, v9, v10, v11, v12, v13, v14, v15, ()), (v16 ++ [((rd dT0 v12 (Int.toNat v2)).1, (rd dT0 v12 (Int.toNat v2)).2)]), v17, v18, v19, v20, v21, ()))) (
      none)) (
     cond ((decide (((v17.length + 1) * 16) ≤ 140737488355328)) && (decide ((v17.length + 1) ≤ 9223372036854775807))) (
      some (R3.next (((), (), (), (), (), (), v1, (IntKind.wrap .i64 (v2 + 1)), ()), ((v3, v4, ()), (v5, (), ()), (v6, (), (), (), (), (), (), (), (), ()), v7, v8, v9, v10, v11, v12, v13, v14, v15, ()), v16, (v17 ++ [((rd dT0 v12 (Int.toNat v2)).1, (rd dT0 v12 (Int.toNat v2)).2)]), v18, v19, v20, v21, ()))) (
      none))) (
    none)) (
   none)) (
  some (R3.out (((), (), (), (), (), ()), ((v3, v4, ()), (v5, (), ()), (v6, (), (), (), (), (), (), (), (), ()), v7, v8, v9, v10, v11, v12, v13, v14, v15, ()), v16, v17, v18, v19, v20, v21, ())))
noncomputable def u69_111_7_4 (z : X69_111_7_4) : Option (R3 X69_111_7_4 Y69_111_7_4 Z69_111_7_4) := t69_111_7_4 z.1.2.2.2.2.2.2.1 z.1.2.2.2.2.2.2.2.1 z.2.1.1.1 z.2.1.1.2.1 z.2.1.2.1.1 z.2.1.2.2.1.1 z.2.1.2.2.2.1 z.2.1.2.2.2.2.1 z.2.1.2.2.2.2.2.1 z.2.1.2.2.2.2.2.2.1 z.2.1.2.2.2.2.2.2.2.1 z.2.1.2.2.2.2.2.2.2.2.1 z.2.1.2.2.2.2.2.2.2.2.2.1 z.2.1.2.2.2.2.2.2.2.2.2.2.1 z.2.1.2.2.2.2.2.2.2.2.2.2.2.1 z.2.2.1 z.2.2.2.1 z.2.2.2.2.1 z.2.2.2.2.2.1 z.2.2.2.2.2.2.1 z.2.2.2.2.2.2.2.1
abbrev X69_111_7_5 : Type := DT8 × DT5 × DT0 × DT0 × DT0 × DT0 × DT0 × DT0 × DT0 × Unit
abbrev Y69_111_7_5 : Type := DT10 × DT5 × DT0 × DT0 × DT0 × DT0 × DT0 × DT0 × DT0 × Unit
abbrev Z69_111_7_5 : Type := Unit × DT13 × Unit
noncomputable def t69_111_7_5 (v1 v2 v3 : Int) (v4 : DT0) (v5 v6 : Int) (v7 v8 v9 v10 v11 v12 v13 v14 v15 v16 v17 v18 v19 v20 v21 v22 : DT0) : Option (R3 X69_111_7_5 Y69_111_7_5 Z69_111_7_5) :=
 cond (decide (v2 < v1)) (
  cond ((decide (0 ≤ v2)) && (decide (v2 < (v13.length : Int)))) (
   cond (decide ((Int.toNat v2) < v13.length)) (
    cond (decide ((rd dT0 v13 (Int.toNat v2)).2 ≤ v6)) (
     cond ((decide (((v16.length + 1) * 16) ≤ 140737488355328)) && (decide ((v16.length + 1) ≤ 9223372036854775807))) (
      some (R3.next (((), (), (), (), (), (), v1, (IntKind.wrap .i64 (v2 + 1)), ()), ((v3, v4, ()), (v5, (), ()), (v6, (), (), (), (), (), (), (), (), ()), v7, v8, v9, v10, v11, v12, v13, v14, v15, ()), (v16 ++ [((rd dT0 v13 (Int.toNat v2)).1, (rd dT0 v13 (Int.toNat v2)).2)]), v17, v18, v19, v20, v21, v22, ()))) (
      none)) (
     cond ((decide (((v17.length + 1) * 16) ≤ 140737488355328)) && (decide ((v17.length + 1) ≤ 9223372036854775807))) (
      some (R3.next (((), (), (), (), (), (), v1, (IntKind.wrap .i64 (v2 + 1)), ()), ((v3, v4, ()), (v5, (), ()), (v6, (), (), (), (), (), (), (), (), ()), v7, v8, v9, v10, v11, v12, v13, v14, v15, ()), v16, (v17 ++ [((rd dT0 v13 (Int.toNat v2)).1, (rd dT0 v13 (Int.toNat v2)).2)]), v18, v19, v20, v21, v22, ()))) (
      none))) (
    none)) (
   none)) (
  some (R3.out (((), (), (), (), (), ()), ((v3, v4, ()), (v5, (), ()), (v6, (), (), (), (), (), (), (), (), ()), v7, v8, v9, v10, v11, v12, v13, v14, v15, ()), v16, v17, v18, v19, v20, v21, v22, ())))
noncomputable def u69_111_7_5 (z : X69_111_7_5) : Option (R3 X69_111_7_5 Y69_111_7_5 Z69_111_7_5) := t69_111_7_5 z.1.2.2.2.2.2.2.1 z.1.2.2.2.2.2.2.2.1 z.2.1.1.1 z.2.1.1.2.1 z.2.1.2.1.1 z.2.1.2.2.1.1 z.2.1.2.2.2.1 z.2.1.2.2.2.2.1 z.2.1.2.2.2.2.2.1 z.2.1.2.2.2.2.2.2.1 z.2.1.2.2.2.2.2.2.2.1 z.2.1.2.2.2.2.2.2.2.2.1 z.2.1.2.2.2.2.2.2.2.2.2.1 z.2.1.2.2.2.2.2.2.2.2.2.2.1 z.2.1.2.2.2.2.2.2.2.2.2.2.2.1 z.2.2.1 z.2.2.2.1 z.2.2.2.2.1 z.2.2.2.2.2.1 z.2.2.2.2.2.2.1 z.2.2.2.2.2.2.2.1 z.2.2.2.2.2.2.2.2.1
abbrev X69_111_7_6 : Type := DT8 × DT5 × DT0 × DT0 × DT0 × DT0 × DT0 × DT0 × DT0 × DT0 × Unit
abbrev Y69_111_7_6 : Type := DT10 × DT5 × DT0 × DT0 × DT0 × DT0 × DT0 × DT0 × DT0 × DT0 × Unit
abbrev Z69_111_7_6 : Type := Unit × DT13 × Unit
noncomputable def t69_111_7_6 (v1 v2 v3 : Int) (v4 : DT0) (v5 v6 : Int) (v7 v8 v9 v10 v11 v12 v13 v14 v15 v16 v17 v18 v19 v20 v21 v22 v23 : DT0) : Option (R3 X69_111_7_6 Y69_111_7_6 Z69_111_7_6) :=
 cond (decide (v2 < v1)) (
  cond ((decide (0 ≤ v2)) && (decide (v2 < (v14.length : Int)))) (
   cond (decide ((Int.toNat v2) < v14.length)) (
    cond (decide ((rd dT0 v14 (Int.toNat v2)).2 ≤ v6)) (
     cond ((decide (((v16.length + 1) * 16) ≤ 140737488355328)) && (decide ((v16.length + 1) ≤ 9223372036854775807))) (
      some (R3.next (((), (), (), (), (), (), v1, (IntKind.wrap .i64 (v2 + 1)), ()), ((v3, v4, ()), (v5, (), ()), (v6, (), (), (), (), (), (), (), (), ()), v7, v8, v9, v10, v11, v12, v13, v14, v15, ()), (v16 ++ [((rd dT0 v14 (Int.toNat v2)).1, (rd dT0 v14 (Int.toNat v2)).2)]), v17, v18, v19, v20, v21, v22, v23, ()))) (
      none)) (
     cond ((decide (((v17.length + 1) * 16) ≤ 140737488355328)) && (decide ((v17.length + 1) ≤ 9223372036854775807))) (
      some (R3.next (((), (), (), (), (), (), v1, (IntKind.wrap .i64 (v2 + 1)), ()), ((v3, v4, ()), (v5, (), ()), (v6, (), (), (), (), (), (), (), (), ()), v7, v8, v9, v10, v11, v12, v13, v14, v15, ()), v16, (v17 ++ [((rd dT0 v14 (Int.toNat v2)).1, (rd dT0 v14 (Int.toNat v2)).2)]), v18, v19, v20, v21, v22, v23, ()))) (
      none))) (
    none)) (
   none)) (
  some (R3.out (((), (), (), (), (), ()), ((v3, v4, ()), (v5, (), ()), (v6, (), (), (), (), (), (), (), (), ()), v7, v8, v9, v10, v11, v12, v13, v14, v15, ()), v16, v17, v18, v19, v20, v21, v22, v23, ())))
noncomputable def u69_111_7_6 (z : X69_111_7_6) : Option (R3 X69_111_7_6 Y69_111_7_6 Z69_111_7_6) := t69_111_7_6 z.1.2.2.2.2.2.2.1 z.1.2.2.2.2.2.2.2.1 z.2.1.1.1 z.2.1.1.2.1 z.2.1.2.1.1 z.2.1.2.2.1.1 z.2.1.2.2.2.1 z.2.1.2.2.2.2.1 z.2.1.2.2.2.2.2.1 z.2.1.2.2.2.2.2.2.1 z.2.1.2.2.2.2.2.2.2.1 z.2.1.2.2.2.2.2.2.2.2.1 z.2.1.2.2.2.2.2.2.2.2.2.1 z.2.1.2.2.2.2.2.2.2.2.2.2.1 z.2.1.2.2.2.2.2.2.2.2.2.2.2.1 z.2.2.1 z.2.2.2.1 z.2.2.2.2.1 z.2.2.2.2.2.1 z.2.2.2.2.2.2.1 z.2.2.2.2.2.2.2.1 z.2.2.2.2.2.2.2.2.1 z.2.2.2.2.2.2.2.2.2.1
abbrev X69_111_7_7 : Type := DT8 × DT5 × DT0 × DT0 × DT0 × DT0 × DT0 × DT0 × DT0 × DT0 × DT0 × Unit
abbrev Y69_111_7_7 : Type := DT10 × DT5 × DT0 × DT0 × DT0 × DT0 × DT0 × DT0 × DT0 × DT0 × DT0 × Unit
abbrev Z69_111_7_7 : Type := Unit × DT13 × Unit
noncomputable def t69_111_7_7 (v1 v2 v3 : Int) (v4 : DT0) (v5 v6 : Int) (v7 v8 v9 v10 v11 v12 v13 v14 v15 v16 v17 v18 v19 v20 v21 v22 v23 v24 : DT0) : Option (R3 X69_111_7_7 Y69_111_7_7 Z69_111_7_7) :=
 cond (decide (v2 < v1)) (
  cond ((decide (0 ≤ v2)) && (decide (v2 < (v15.length : Int)))) (
   cond (decide ((Int.toNat v2) < v15.length)) (
    cond (decide ((rd dT0 v15 (Int.toNat v2)).2 ≤ v6)) (
     cond ((decide (((v16.length + 1) * 16) ≤ 140737488355328)) && (decide ((v16.length + 1) ≤ 9223372036854775807))) (
      some (R3.next (((), (), (), (), (), (), v1, (IntKind.wrap .i64 (v2 + 1)), ()), ((v3, v4, ()), (v5, (), ()), (v6, (), (), (), (), (), (), (), (), ()), v7, v8, v9, v10, v11, v12, v13, v14, v15, ()), (v16 ++ [((rd dT0 v15 (Int.toNat v2)).1, (rd dT0 v15 (Int.toNat v2)).2)]), v17, v18, v19, v20, v21, v22, v23, v24, ()))) (
      none)) (
     cond ((decide (((v17.length + 1) * 16) ≤ 140737488355328)) && (decide ((v17.length + 1) ≤ 9223372036854775807))) (
      some (R3.next (((), (), (), (), (), (), v1, (IntKind.wrap .i64 (v2 + 1)), ()), ((v3, v4, ()), (v5, (), ()), (v6, (), (), (), (), (), (), (), (), ()), v7, v8, v9, v10, v11, v12, v13, v14, v15, ()), v16, (v17 ++ [((rd dT0 v15 (Int.toNat v2)).1, (rd dT0 v15 (Int.toNat v2)).2)]), v18, v19, v20, v21, v22, v23, v24, ()))) (
      none))) (
    none)) (
   none)) (
  some (R3.out (((), (), (), (), (), ()), ((v3, v4, ()), (v5, (), ()), (v6, (), (), (), (), (), (), (), (), ()), v7, v8, v9, v10, v11, v12, v13, v14, v15, ()), v16, v17, v18, v19, v20, v21, v22, v23, v24, ())))
noncomputable def u69_111_7_7 (z : X69_111_7_7) : Option (R3 X69_111_7_7 Y69_111_7_7 Z69_111_7_7) := t69_111_7_7 z.1.2.2.2.2.2.2.1 z.1.2.2.2.2.2.2.2.1 z.2.1.1.1 z.2.1.1.2.1 z.2.1.2.1.1 z.2.1.2.2.1.1 z.2.1.2.2.2.1 z.2.1.2.2.2.2.1 z.2.1.2.2.2.2.2.1 z.2.1.2.2.2.2.2.2.1 z.2.1.2.2.2.2.2.2.2.1 z.2.1.2.2.2.2.2.2.2.2.1 z.2.1.2.2.2.2.2.2.2.2.2.1 z.2.1.2.2.2.2.2.2.2.2.2.2.1 z.2.1.2.2.2.2.2.2.2.2.2.2.2.1 z.2.2.1 z.2.2.2.1 z.2.2.2.2.1 z.2.2.2.2.2.1 z.2.2.2.2.2.2.1 z.2.2.2.2.2.2.2.1 z.2.2.2.2.2.2.2.2.1 z.2.2.2.2.2.2.2.2.2.1 z.2.2.2.2.2.2.2.2.2.2.1
abbrev X69_111_7_8 : Type := DT8 × DT2 × DT0 × DT0 × DT0 × Unit
abbrev Y69_111_7_8 : Type := DT10 × DT2 × DT0 × DT0 × DT0 × Unit
abbrev Z69_111_7_8 : Type := Unit × DT9 × Unit
noncomputable def t69_111_7_8 (v1 v2 v3 : Int) (v4 : DT0) (v5 v6 : Int) (v7 v8 v9 v10 v11 v12 v13 v14 v15 v16 v17 v18 v19 v20 v21 v22 v23 v24 : DT0) (v25 : Int) (v26 v27 v28 : DT0) : Option (R3 X69_111_7_8 Y69_111_7_8 Z69_111_7_8) :=
 cond (decide (v2 < v1)) (
  cond ((decide (0 ≤ v2)) && (decide (v2 < (v18.length : Int)))) (
   cond (decide ((Int.toNat v2) < v18.length)) (
    ((f136 (rd dT0 v18 (Int.toNat v2)).1 (rd dT0 v18 (Int.toNat v2)).2)).bind fun y29 =>
    cond y29.1 (
     cond ((decide (((v26.length + 1) * 16) ≤ 140737488355328)) && (decide ((v26.length + 1) ≤ 9223372036854775807))) (
      some (R3.next (((), (), (), (), (), (), v1, (IntKind.wrap .i64 (v2 + 1)), ()), ((v3, v4, ()), (v5, (), ()), (v6, (), (), (), (), (), (), (), (), ()), v7, v8, v9, v10, v11, v12, v13, v14, v15, v16, v17, v18, v19, v20, v21, v22, v23, v24, (v25, (), ()), ()), (v26 ++ [((rd dT0 v18 (Int.toNat v2)).1, (rd dT0 v18 (Int.toNat v2)).2)]), v27, v28, ()))) (
      none)) (
     cond ((decide (((v27.length + 1) * 16) ≤ 140737488355328)) && (decide ((v27.length + 1) ≤ 9223372036854775807))) (
      some (R3.next (((), (), (), (), (), (), v1, (IntKind.wrap .i64 (v2 + 1)), ()), ((v3, v4, ()), (v5, (), ()), (v6, (), (), (), (), (), (), (), (), ()), v7, v8, v9, v10, v11, v12, v13, v14, v15, v16, v17, v18, v19, v20, v21, v22, v23, v24, (v25, (), ()), ()), v26, (v27 ++ [((rd dT0 v18 (Int.toNat v2)).1, (rd dT0 v18 (Int.toNat v2)).2)]), v28, ()))) (
      none))) (
    none)) (
   none)) (
  some (R3.out (((), (), (), (), (), ()), ((v3, v4, ()), (v5, (), ()), (v6, (), (), (), (), (), (), (), (), ()), v7, v8, v9, v10, v11, v12, v13, v14, v15, v16, v17, v18, v19, v20, v21, v22, v23, v24, (v25, (), ()), ()), v26, v27, v28, ())))
noncomputable def u69_111_7_8 (z : X69_111_7_8) : Option (R3 X69_111_7_8 Y69_111_7_8 Z69_111_7_8) := t69_111_7_8 z.1.2.2.2.2.2.2.1 z.1.2.2.2.2.2.2.2.1 z.2.1.1.1 z.2.1.1.2.1 z.2.1.2.1.1 z.2.1.2.2.1.1 z.2.1.2.2.2.1 z.2.1.2.2.2.2.1 z.2.1.2.2.2.2.2.1 z.2.1.2.2.2.2.2.2.1 z.2.1.2.2.2.2.2.2.2.1 z.2.1.2.2.2.2.2.2.2.2.1 z.2.1.2.2.2.2.2.2.2.2.2.1 z.2.1.2.2.2.2.2.2.2.2.2.2.1 z.2.1.2.2.2.2.2.2.2.2.2.2.2.1 z.2.1.2.2.2.2.2.2.2.2.2.2.2.2.1 z.2.1.2.2.2.2.2.2.2.2.2.2.2.2.2.1 z.2.1.2.2.2.2.2.2.2.2.2.2.2.2.2.2.1 z.2.1.2.2.2.2.2.2.2.2.2.2.2.2.2.2.2.1 z.2.1.2.2.2.2.2.2.2.2.2.2.2.2.2.2.2.2.1 z.2.1.2.2.2.2.2.2.2.2.2.2.2.2.2.2.2.2.2.1 z.2.1.2.2.2.2.2.2.2.2.2.2.2.2.2.2.2.2.2.2.1 z.2.1.2.2.2.2.2.2.2.2.2.2.2.2.2.2.2.2.2.2.2.1 z.2.1.2.2.2.2.2.2.2.2.2.2.2.2.2.2.2.2.2.2.2.2.1 z.2.1.2.2.2.2.2.2.2.2.2.2.2.2.2.2.2.2.2.2.2.2.2.1.1 z.2.2.1 z.2.2.2.1 z.2.2.2.2.1
abbrev X69_111_7_9 : Type := DT8 × DT2 × DT0 × DT0 × DT0 × DT0 × Unit
abbrev Y69_111_7_9 : Type := DT10 × DT2 × DT0 × DT0 × DT0 × DT0 × Unit
abbrev Z69_111_7_9 : Type := Unit × DT9 × Unit
noncomputable def t69_111_7_9 (v1 v2 v3 : Int) (v4 : DT0) (v5 v6 : Int) (v7 v8 v9 v10 v11 v12 v13 v14 v15 v16 v17 v18 v19 v20 v21 v22 v23 v24 : DT0) (v25 : Int) (v26 v27 v28 v29 : DT0) : Option (R3 X69_111_7_9 Y69_111_7_9 Z69_111_7_9) :=
 cond (decide (v2 < v1)) (
  cond ((decide (0 ≤ v2)) && (decide (v2 < (v19.length : Int)))) (
   cond (decide ((Int.toNat v2) < v19.length)) (
    ((f136 (rd dT0 v19 (Int.toNat v2)).1 (rd dT0 v19 (Int.toNat v2)).2)).bind fun y30 =>
    cond y30.1 (
     cond ((decide (((v26.length + 1) * 16) ≤ 140737488355328)) && (decide ((v26.length + 1) ≤ 9223372036854775807))) (
      some (R3.next (((), (), (), (), (), (), v1, (IntKind.wrap .i64 (v2 + 1)), ()), ((v3, v4, ()), (v5, (), ()), (v6, (), (), (), (), (), (), (), (), ()), v7, v8, v9, v10, v11, v12, v13, v14, v15, v16, v17, v18, v19, v20, v21, v22, v23, v24, (v25, (), ()), ()), (v26 ++ [((rd dT0 v19 (Int.toNat v2)).1, (rd dT0 v19 (Int.toNat v2)).2)]), v27, v28, v29, ()))) (
      none)) (
     cond ((decide (((v27.length + 1) * 16) ≤ 140737488355328)) && (decide ((v27.length + 1) ≤ 9223372036854775807))) (
      some (R3.next (((), (), (), (), (), (), v1, (IntKind.wrap .i64 (v2 + 1)), ()), ((v3, v4, ()), (v5, (), ()), (v6, (), (), (), (), (), (), (), (), ()), v7, v8, v9, v10, v11, v12, v13, v14, v15, v16, v17, v18, v19, v20, v21, v22, v23, v24, (v25, (), ()), ()), v26, (v27 ++ [((rd dT0 v19 (Int.toNat v2)).1, (rd dT0 v19 (Int.toNat v2)).2)]), v28, v29, ()))) (
      none))) (
    none)) (
   none)) (
  some (R3.out (((), (), (), (), (), ()), ((v3, v4, ()), (v5, (), ()), (v6, (), (), (), (), (), (), (), (), ()), v7, v8, v9, v10, v11, v12, v13, v14, v15, v16, v17, v18, v19, v20, v21, v22, v23, v24, (v25, (), ()), ()), v26, v27, v28, v29, ())))
noncomputable def u69_111_7_9 (z : X69_111_7_9) : Option (R3 X69_111_7_9 Y69_111_7_9 Z69_111_7_9) := t69_111_7_9 z.1.2.2.2.2.2.2.1 z.1.2.2.2.2.2.2.2.1 z.2.1.1.1 z.2.1.1.2.1 z.2.1.2.1.1 z.2.1.2.2.1.1 z.2.1.2.2.2.1 z.2.1.2.2.2.2.1 z.2.1.2.2.2.2.2.1 z.2.1.2.2.2.2.2.2.1 z.2.1.2.2.2.2.2.2.2.1 z.2.1.2.2.2.2.2.2.2.2.1 z.2.1.2.2.2.2.2.2.2.2.2.1 z.2.1.2.2.2.2.2.2.2.2.2.2.1 z.2.1.2.2.2.2.2.2.2.2.2.2.2.1 z.2.1.2.2.2.2.2.2.2.2.2.2.2.2.1 z.2.1.2.2.2.2.2.2.2.2.2.2.2.2.2.1 z.2.1.2.2.2.2.2.2.2.2.2.2.2.2.2.2.1 z.2.1.2.2.2.2.2.2.2.2.2.2.2.2.2.2.2.1 z.2.1.2.2.2.2.2.2.2.2.2.2.2.2.2.2.2.2.1 z.2.1.2.2.2.2.2.2.2.2.2.2.2.2.2.2.2.2.2.1 z.2.1.2.2.2.2.2.2.2.2.2.2.2.2.2.2.2.2.2.2.1 z.2.1.2.2.2.2.2.2.2.2.2.2.2.2.2.2.2.2.2.2.2.1 z.2.1.2.2.2.2.2.2.2.2.2.2.2.2.2.2.2.2.2.2.2.2.1 z.2.1.2.2.2.2.2.2.2.2.2.2.2.2.2.2.2.2.2.2.2.2.2.1.1 z.2.2.1 z.2.2.2.1 z.2.2.2.2.1 z.2.2.2.2.2.1
abbrev X69_111_7_10 : Type := DT8 × DT2 × DT0 × DT0 × DT0 × DT0 × DT0 × Unit
abbrev Y69_111_7_10 : Type := DT10 × DT2 × DT0 × DT0 × DT0 × DT0 × DT0 × Unit
abbrev Z69_111_7_10 : Type := Unit × DT9 × Unit
noncomputable def t69_111_7_10 (v1 v2 v3 : Int) (v4 : DT0) (v5 v6 : Int) (v7 v8 v9 v10 v11 v12 v13 v14 v15 v16 v17 v18 v19 v20 v21 v22 v23 v24 : DT0) (v25 : Int) (v26 v27 v28 v29 v30 : DT0) : Option (R3 X69_111_7_10 Y69_111_7_10 Z69_111_7_10) :=
 cond (decide (v2 < v1)) (
  cond ((decide (0 ≤ v2)) && (decide (v2 < (v20.length : Int)))) (
   cond (decide ((Int.toNat v2) < v20.length)) (
    ((f136 (rd dT0 v20 (Int.toNat v2)).1 (rd dT0 v20 (Int.toNat v2)).2)).bind fun y31 =>
    cond y31.1 (
     cond ((decide (((v26.length + 1) * 16) ≤ 140737488355328)) && (decide ((v26.length + 1) ≤ 9223372036854775807))) (
      some (R3.next (((), (), (), (), (), (), v1, (IntKind.wrap .i64 (v2 + 1)), ()), ((v3, v4, ()), (v5, (), ()), (v6, (), (), (), (), (), (), (), (), ()), v7, v8, v9, v10, v11, v12, v13, v14, v15, v16, v17, v18, v19, v20, v21, v22, v23, v24, (v25, (), ()), ()), (v26 ++ [((rd dT0 v20 (Int.toNat v2)).1, (rd dT0 v20 (Int.toNat v2)).2)]), v27, v28, v29, v30, ()))) (
      none)) (
     cond ((decide (((v27.length + 1) * 16) ≤ 140737488355328)) && (decide ((v27.length + 1) ≤ 9223372036854775807))) (
      some (R3.next (((), (), (), (), (), (), v1, (IntKind.wrap .i64 (v2 + 1)), ()), ((v3, v4, ()), (v5, (), ()), (v6, (), (), (), (), (), (), (), (), ()), v7, v8, v9, v10, v11, v12, v13, v14, v15, v16, v17, v18, v19, v20, v21, v22, v23, v24, (v25, (), ()), ()), v26, (v27 ++ [((rd dT0 v20 (Int.toNat v2)).1, (rd dT0 v20 (Int.toNat v2)).2)]), v28, v29, v30, ()))) (
      none))) (
    none)) (
   none)) (
  some (R3.out (((), (), (), (), (), ()), ((v3, v4, ()), (v5, (), ()), (v6, (), (), (), (), (), (), (), (), ()), v7, v8, v9, v10, v11, v12, v13, v14, v15, v16, v17, v18, v19, v20, v21, v22, v23, v24, (v25, (), ()), ()), v26, v27, v28, v29, v30, ())))
noncomputable def u69_111_7_10 (z : X69_111_7_10) : Option (R3 X69_111_7_10 Y69_111_7_10 Z69_111_7_10) := t69_111_7_10 z.1.2.2.2.2.2.2.1 z.1.2.2.2.2.2.2.2.1 z.2.1.1.1 z.2.1.1.2.1 z.2.1.2.1.1 z.2.1.2.2.1.1 z.2.1.2.2.2.1 z.2.1.2.2.2.2.1 z.2.1.2.2.2.2.2.1 z.2.1.2.2.2.2.2.2.1 z.2.1.2.2.2.2.2.2.2.1 z.2.1.2.2.2.2.2.2.2.2.1 z.2.1.2.2.2.2.2.2.2.2.2.1 z.2.1.2.2.2.2.2.2.2.2.2.2.1 z.2.1.2.2.2.2.2.2.2.2.2.2.2.1 z.2.1.2.2.2.2.2.2.2.2.2.2.2.2.1 z.2.1.2.2.2.2.2.2.2.2.2.2.2.2.2.1 z.2.1.2.2.2.2.2.2.2.2.2.2.2.2.2.2.1 z.2.1.2.2.2.2.2.2.2.2.2.2.2.2.2.2.2.1 z.2.1.2.2.2.2.2.2.2.2.2.2.2.2.2.2.2.2.1 z.2.1.2.2.2.2.2.2.2.2.2.2.2.2.2.2.2.2.2.1 z.2.1.2.2.2.2.2.2.2.2.2.2.2.2.2.2.2.2.2.2.1 z.2.1.2.2.2.2.2.2.2.2.2.2.2.2.2.2.2.2.2.2.2.1 z.2.1.2.2.2.2.2.2.2.2.2.2.2.2.2.2.2.2.2.2.2.2.1 z.2.1.2.2.2.2.2.2.2.2.2.2.2.2.2.2.2.2.2.2.2.2.2.1.1 z.2.2.1 z.2.2.2.1 z.2.2.2.2.1 z.2.2.2.2.2.1 z.2.2.2.2.2.2.1
abbrev X69_111_7_11 : Type := DT8 × DT2 × DT0 × DT0 × DT0 × DT0 × DT0 × DT0 × Unit
abbrev Y69_111_7_11 : Type := DT10 × DT2 × DT0 × DT0 × DT0 × DT0 × DT0 × DT0 × Unit
abbrev Z69_111_7_11 : Type := Unit × DT9 × Unit
noncomputable def t69_111_7_11 (v1 v2 v3 : Int) (v4 : DT0) (v5 v6 : Int) (v7 v8 v9 v10 v11 v12 v13 v14 v15 v16 v17 v18 v19 v20 v21 v22 v23 v24 : DT0) (v25 : Int) (v26 v27 v28 v29 v30 v31 : DT0) : Option (R3 X69_111_7_11 Y69_111_7_11 Z69_111_7_11) :=
 cond (decide (v2 < v1)) (
  cond ((decide (0 ≤ v2)) && (decide (v2 < (v21.length : Int)))) (
   cond (decide ((Int.toNat v2) < v21.length)) (
    ((f136 (rd dT0 v21 (Int.toNat v2)).1 (rd dT0 v21 (Int.toNat v2)).2)).bind fun y32 =>
    cond y32.1 (
     cond ((decide (((v26.length + 1) * 16) ≤ 140737488355328)) && (decide ((v26.length + 1) ≤ 9223372036854775807))) (
      some (R3.next (((), (), (), (), (), (), v1, (IntKind.wrap .i64 (v2 + 1)), ()), ((v3, v4, ()), (v5, (), ()), (v6, (), (), (), (), (), (), (), (), ()), v7, v8, v9, v10, v11, v12, v13, v14, v15, v16, v17, v18, v19, v20, v21, v22, v23, v24, (v25, (), ()), ()), (v26 ++ [((rd dT0 v21 (Int.toNat v2)).1, (rd dT0 v21 (Int.toNat v2)).2)]), v27, v28, v29, v30, v31, ()))) (
      none)) (
     cond ((decide (((v27.length + 1) * 16) ≤ 140737488355328)) && (decide ((v27.length + 1) ≤ 9223372036854775807))) (
      some (R3.next (((), (), (), (), (), (), v1, (IntKind.wrap .i64 (v2 + 1)), ()), ((v3, v4, ()), (v5, (), ()), (v6, (), (), (), (), (), (), (), (), ()), v7, v8, v9, v10, v11, v12, v13, v14, v15, v16, v17, v18, v19, v20, v21, v22, v23, v24, (v25, (), ()), ()), v26, (v27 ++ [((rd dT0 v21 (Int.toNat v2)).1, (rd dT0 v21 (Int.toNat v2)).2)]), v28, v29, v30, v31, ()))) (
      none))) (
    none)) (
   none)) (
  some (R3.out (((), (), (), (), (), ()), ((v3, v4, ()), (v5, (), ()), (v6, (), (), (), (), (), (), (), (), ()), v7, v8, v9, v10, v11, v12, v13, v14, v15, v16, v17, v18, v19, v20, v21, v22, v23, v24, (v25, (), ()), ()), v26, v27, v28, v29, v30, v31, ())))
noncomputable def u69_111_7_11 (z : X69_111_7_11) : Option (R3 X69_111_7_11 Y69_111_7_11 Z69_111_7_11) := t69_111_7_11 z.1.2.2.2.2.2.2.1 z.1.2.2.2.2.2.2.2.1 z.2.1.1.1 z.2.1.1.2.1 z.2.1.2.1.1 z.2.1.2.2.1.1 z.2.1.2.2.2.1 z.2.1.2.2.2.2.1 z.2.1.2.2.2.2.2.1 z.2.1.2.2.2.2.2.2.1 z.2.1.2.2.2.2.2.2.2.1 z.2.1.2.2.2.2.2.2.2.2.1 z.2.1.2.2.2.2.2.2.2.2.2.1 z.2.1.2.2.2.2.2.2.2.2.2.2.1 z.2.1.2.2.2.2.2.2.2.2.2.2.2.1 z.2.1.2.2.2.2.2.2.2.2.2.2.2.2.1 z.2.1.2.2.2.2.2.2.2.2.2.2.2.2.2.1 z.2.1.2.2.2.2.2.2.2.2.2.2.2.2.2.2.1 z.2.1.2.2.2.2.2.2.2.2.2.2.2.2.2.2.2.1 z.2.1.2.2.2.2.2.2.2.2.2.2.2.2.2.2.2.2.1 z.2.1.2.2.2.2.2.2.2.2.2.2.2.2.2.2.2.2.2.1 z.2.1.2.2.2.2.2.2.2.2.2.2.2.2.2.2.2.2.2.2.1 z.2.1.2.2.2.2.2.2.2.2.2.2.2.2.2.2.2.2.2.2.2.1 z.2.1.2.2.2.2.2.2.2.2.2.2.2.2.2.2.2.2.2.2.2.2.1 z.2.1.2.2.2.2.2.2.2.2.2.2.2.2.2.2.2.2.2.2.2.2.2.1.1 z.2.2.1 z.2.2.2.1 z.2.2.2.2.1 z.2.2.2.2.2.1 z.2.2.2.2.2.2.1 z.2.2.2.2.2.2.2.1
abbrev X69_111_7_12 : Type := DT8 × DT2 × DT0 × DT0 × DT0 × DT0 × DT0 × DT0 × DT0 × Unit
abbrev Y69_111_7_12 : Type := DT10 × DT2 × DT0 × DT0 × DT0 × DT0 × DT0 × DT0 × DT0 × Unit
abbrev Z69_111_7_12 : Type := Unit × DT9 × Unit
noncomputable def t69_111_7_12 (v1 v2 v3 : Int) (v4 : DT0) (v5 v6 : Int) (v7 v8 v9 v10 v11 v12 v13 v14 v15 v16 v17 v18 v19 v20 v21 v22 v23 v24 : DT0) (v25 : Int) (v26 v27 v28 v29 v30 v31 v32 : DT0) : Option (R3 X69_111_7_12 Y69_111_7_12 Z69_111_7_12) :=
 cond (decide (v2 < v1)) (
  cond ((decide (0 ≤ v2)) && (decide (v2 < (v22.length : Int)))) (
   cond (decide ((Int.toNat v2) < v22.length)) (
    ((f136 (rd dT0 v22 (Int.toNat v2)).1 (rd dT0 v22 (Int.toNat v2)).2)).bind fun y33 =>
    cond y33.1 (
     cond ((decide (((v26.length + 1) * 16) ≤ 140737488355328)) && (decide ((v26.length + 1) ≤ 9223372036854775807))) (
      some (R3.next (((), (), (), (), (), (), v1, (IntKind.wrap .i64 (v2 + 1)), ()), ((v3, v4, ()), (v5, (), ()), (v6, (), (), (), (), (), (), (), (), ()), v7, v8, v9, v10, v11, v12, v13, v14, v15, v16, v17, v18, v19, v20, v21, v22, v23, v24, (v25, (), ()), ()), (v26 ++ [((rd dT0 v22 (Int.toNat v2)).1, (rd dT0 v22 (Int.toNat v2)).2)]), v27, v28, v29, v30, v31, v32, ()))) (
      none)) (
     cond ((decide (((v27.length + 1) * 16) ≤ 140737488355328)) && (decide ((v27.length + 1) ≤ 9223372036854775807))) (
      some (R3.next (((), (), (), (), (), (), v1, (IntKind.wrap .i64 (v2 + 1)), ()), ((v3, v4, ()), (v5, (), ()), (v6, (), (), (), (), (), (), (), (), ()), v7, v8, v9, v10, v11, v12, v13, v14, v15, v16, v17, v18, v19, v20, v21, v22, v23, v24, (v25, (), ()), ()), v26, (v27 ++ [((rd dT0 v22 (Int.toNat v2)).1, (rd dT0 v22 (Int.toNat v2)).2)]), v28, v29, v30, v31, v32, ()))) (
      none))) (
    none)) (
   none)) (
  some (R3.out (((), (), (), (), (), ()), ((v3, v4, ()), (v5, (), ()), (v6, (), (), (), (), (), (), (), (), ()), v7, v8, v9, v10, v11, v12, v13, v14, v15, v16, v17, v18, v19, v20, v21, v22, v23, v24, (v25, (), ()), ()), v26, v27, v28, v29, v30, v31, v32, ())))
noncomputable def u69_111_7_12 (z : X69_111_7_12) : Option (R3 X69_111_7_12 Y69_111_7_12 Z69_111_7_12) := t69_111_7_12 z.1.2.2.2.2.2.2.1 z.1.2.2.2.2.2.2.2.1 z.2.1.1.1 z.2.1.1.2.1 z.2.1.2.1.1 z.2.1.2.2.1.1 z.2.1.2.2.2.1 z.2.1.2.2.2.2.1 z.2.1.2.2.2.2.2.1 z.2.1.2.2.2.2.2.2.1 z.2.1.2.2.2.2.2.2.2.1 z.2.1.2.2.2.2.2.2.2.2.1 z.2.1.2.2.2.2.2.2.2.2.2.1 z.2.1.2.2.2.2.2.2.2.2.2.2.1 z.2.1.2.2.2.2.2.2.2.2.2.2.2.1 z.2.1.2.2.2.2.2.2.2.2.2.2.2.2.1 z.2.1.2.2.2.2.2.2.2.2.2.2.2.2.2.1 z.2.1.2.2.2.2.2.2.2.2.2.2.2.2.2.2.1 z.2.1.2.2.2.2.2.2.2.2.2.2.2.2.2.2.2.1 z.2.1.2.2.2.2.2.2.2.2.2.2.2.2.2.2.2.2.1 z.2.1.2.2.2.2.2.2.2.2.2.2.2.2.2.2.2.2.2.1 z.2.1.2.2.2.2.2.2.2.2.2.2.2.2.2.2.2.2.2.2.1 z.2.1.2.2.2.2.2.2.2.2.2.2.2.2.2.2.2.2.2.2.2.1 z.2.1.2.2.2.2.2.2.2.2.2.2.2.2.2.2.2.2.2.2.2.2.1 z.2.1.2.2.2.2.2.2.2.2.2.2.2.2.2.2.2.2.2.2.2.2.2.1.1 z.2.2.1 z.2.2.2.1 z.2.2.2.2.1 z.2.2.2.2.2.1 z.2.2.2.2.2.2.1 z.2.2.2.2.2.2.2.1 z.2.2.2.2.2.2.2.2.1
abbrev X69_111_7_13 : Type := DT8 × DT2 × DT0 × DT0 × DT0 × DT0 × DT0 × DT0 × DT0 × DT0 × Unit
abbrev Y69_111_7_13 : Type := DT10 × DT2 × DT0 × DT0 × DT0 × DT0 × DT0 × DT0 × DT0 × DT0 × Unit
abbrev Z69_111_7_13 : Type := Unit × DT9 × Unit
noncomputable def t69_111_7_13 (v1 v2 v3 : Int) (v4 : DT0) (v5 v6 : Int) (v7 v8 v9 v10 v11 v12 v13 v14 v15 v16 v17 v18 v19 v20 v21 v22 v23 v24 : DT0) (v25 : Int) (v26 v27 v28 v29 v30 v31 v32 v33 : DT0) : Option (R3 X69_111_7_13 Y69_111_7_13 Z69_111_7_13) :=
 cond (decide (v2 < v1)) (
  cond ((decide (0 ≤ v2)) && (decide (v2 < (v23.length : Int)))) (
   cond (decide ((Int.toNat v2) < v23.length)) (
    ((f136 (rd dT0 v23 (Int.toNat v2)).1 (rd dT0 v23 (Int.toNat v2)).2)).bind fun y34 =>
    cond y34.1 (
     cond ((decide (((v26.length + 1) * 16) ≤ 140737488355328)) && (decide ((v26.length + 1) ≤ 9223372036854775807))) (
      some (R3.next (((), (), (), (), (), (), v1, (IntKind.wrap .i64 (v2 + 1)), ()), ((v3, v4, ()), (v5, (), ()), (v6, (), (), (), (), (), (), (), (), ()), v7, v8, v9, v10, v11, v12, v13, v14, v15, v16, v17, v18, v19, v20, v21, v22, v23, v24, (v25, (), ()), ()), (v26 ++ [((rd dT0 v23 (Int.toNat v2)).1, (rd dT0 v23 (Int.toNat v2)).2)]), v27, v28, v29, v30, v31, v32, v33, ()))) (
      none)) (
     cond ((decide (((v27.length + 1) * 16) ≤ 140737488355328)) && (decide ((v27.length + 1) ≤ 9223372036854775807))) (
      some (R3.next (((), (), (), (), (), (), v1, (IntKind.wrap .i64 (v2 + 1)), ()), ((v3, v4, ()), (v5, (), ()), (v6, (), (), (), (), (), (), (), (), ()), v7, v8, v9, v10, v11, v12, v13, v14, v15, v16, v17, v18, v19, v20, v21, v22, v23, v24, (v25, (), ()), ()), v26, (v27 ++ [((rd dT0 v23 (Int.toNat v2)).1, (rd dT0 v23 (Int.toNat v2)).2)]), v28, v29, v30, v31, v32, v33, ()))) (
      none))) (
    none)) (
   none)) (
  some (R3.out (((), (), (), (), (), ()), ((v3, v4, ()), (v5, (), ()), (v6, (), (), (), (), (), (), (), (), ()), v7, v8, v9, v10, v11, v12, v13, v14, v15, v16, v17, v18, v19, v20, v21, v22, v23, v24, (v25, (), ()), ()), v26, v27, v28, v29, v30, v31, v32, v33, ())))
noncomputable def u69_111_7_13 (z : X69_111_7_13) : Option (R3 X69_111_7_13 Y69_111_7_13 Z69_111_7_13) := t69_111_7_13 z.1.2.2.2.2.2.2.1 z.1.2.2.2.2.2.2.2.1 z.2.1.1.1 z.2.1.1.2.1 z.2.1.2.1.1 z.2.1.2.2.1.1 z.2.1.2.2.2.1 z.2.1.2.2.2.2.1 z.2.1.2.2.2.2.2.1 z.2.1.2.2.2.2.2.2.1 z.2.1.2.2.2.2.2.2.2.1 z.2.1.2.2.2.2.2.2.2.2.1 z.2.1.2.2.2.2.2.2.2.2.2.1 z.2.1.2.2.2.2.2.2.2.2.2.2.1 z.2.1.2.2.2.2.2.2.2.2.2.2.2.1 z.2.1.2.2.2.2.2.2.2.2.2.2.2.2.1 z.2.1.2.2.2.2.2.2.2.2.2.2.2.2.2.1 z.2.1.2.2.2.2.2.2.2.2.2.2.2.2.2.2.1 z.2.1.2.2.2.2.2.2.2.2.2.2.2.2.2.2.2.1 z.2.1.2.2.2.2.2.2.2.2.2.2.2.2.2.2.2.2.1 z.2.1.2.2.2.2.2.2.2.2.2.2.2.2.2.2.2.2.2.1 z.2.1.2.2.2.2.2.2.2.2.2.2.2.2.2.2.2.2.2.2.1 z.2.1.2.2.2.2.2.2.2.2.2.2.2.2.2.2.2.2.2.2.2.1 z.2.1.2.2.2.2.2.2.2.2.2.2.2.2.2.2.2.2.2.2.2.2.1 z.2.1.2.2.2.2.2.2.2.2.2.2.2.2.2.2.2.2.2.2.2.2.2.1.1 z.2.2.1 z.2.2.2.1 z.2.2.2.2.1 z.2.2.2.2.2.1 z.2.2.2.2.2.2.1 z.2.2.2.2.2.2.2.1 z.2.2.2.2.2.2.2.2.1 z.2.2.2.2.2.2.2.2.2.1
abbrev X69_111_7_14 : Type := DT8 × DT2 × DT0 × DT0 × DT0 × DT0 × DT0 × DT0 × DT0 × DT0 × DT0 × Unit
abbrev Y69_111_7_14 : Type := DT10 × DT2 × DT0 × DT0 × DT0 × DT0 × DT0 × DT0 × DT0 × DT0 × DT0 × Unit
abbrev Z69_111_7_14 : Type := Unit × DT9 × Unit
noncomputable def t69_111_7_14 (v1 v2 v3 : Int) (v4 : DT0) (v5 v6 : Int) (v7 v8 v9 v10 v11 v12 v13 v14 v15 v16 v17 v18 v19 v20 v21 v22 v23 v24 : DT0) (v25 : Int) (v26 v27 v28 v29 v30 v31 v32 v33 v34 : DT0) : Option (R3 X69_111_7_14 Y69_111_7_14 Z69_111_7_14) :=
 cond (decide (v2 < v1)) (
  cond ((decide (0 ≤ v2)) && (decide (v2 < (v24.length : Int)))) (
   cond (decide ((Int.toNat v2) < v24.length)) (
    ((f136 (rd dT0 v24 (Int.toNat v2)).1 (rd dT0 v24 (Int.toNat v2)).2)).bind fun y35 =>
    cond y35.1 (
     cond ((decide (((v26.length + 1) * 16) ≤ 140737488355328)) && (decide ((v26.length + 1) ≤ 9223372036854775807))) (
      some (R3.next (((), (), (), (), (), (), v1, (IntKind.wrap .i64 (v2 + 1)), ()), ((v3, v4, ()), (v5, (), ()), (v6, (), (), (), (), (), (), (), (), ()), v7, v8, v9, v10, v11, v12, v13, v14, v15, v16, v17, v18, v19, v20, v21, v22, v23, v24, (v25, (), ()), ()), (v26 ++ [((rd dT0 v24 (Int.toNat v2)).1, (rd dT0 v24 (Int.toNat v2)).2)]), v27, v28, v29, v30, v31, v32, v33, v34, ()))) (
      none)) (
     cond ((decide (((v27.length + 1) * 16) ≤ 140737488355328)) && (decide ((v27.length + 1) ≤ 9223372036854775807))) (
      some (R3.next (((), (), (), (), (), (), v1, (IntKind.wrap .i64 (v2 + 1)), ()), ((v3, v4, ()), (v5, (), ()), (v6, (), (), (), (), (), (), (), (), ()), v7, v8, v9, v10, v11, v12, v13, v14, v15, v16, v17, v18, v19, v20, v21, v22, v23, v24, (v25, (), ()), ()), v26, (v27 ++ [((rd dT0 v24 (Int.toNat v2)).1, (rd dT0 v24 (Int.toNat v2)).2)]), v28, v29, v30, v31, v32, v33, v34, ()))) (
      none))) (
    none)) (
   none)) (
  some (R3.out (((), (), (), (), (), ()), ((v3, v4, ()), (v5, (), ()), (v6, (), (), (), (), (), (), (), (), ()), v7, v8, v9, v10, v11, v12, v13, v14, v15, v16, v17, v18, v19, v20, v21, v22, v23, v24, (v25, (), ()), ()), v26, v27, v28, v29, v30, v31, v32, v33, v34, ())))
noncomputable def u69_111_7_14 (z : X69_111_7_14) : Option (R3 X69_111_7_14 Y69_111_7_14 Z69_111_7_14) := t69_111_7_14 z.1.2.2.2.2.2.2.1 z.1.2.2.2.2.2.2.2.1 z.2.1.1.1 z.2.1.1.2.1 z.2.1.2.1.1 z.2.1.2.2.1.1 z.2.1.2.2.2.1 z.2.1.2.2.2.2.1 z.2.1.2.2.2.2.2.1 z.2.1.2.2.2.2.2.2.1 z.2.1.2.2.2.2.2.2.2.1 z.2.1.2.2.2.2.2.2.2.2.1 z.2.1.2.2.2.2.2.2.2.2.2.1 z.2.1.2.2.2.2.2.2.2.2.2.2.1 z.2.1.2.2.2.2.2.2.2.2.2.2.2.1 z.2.1.2.2.2.2.2.2.2.2.2.2.2.2.1 z.2.1.2.2.2.2.2.2.2.2.2.2.2.2.2.1 z.2.1.2.2.2.2.2.2.2.2.2.2.2.2.2.2.1 z.2.1.2.2.2.2.2.2.2.2.2.2.2.2.2.2.2.1 z.2.1.2.2.2.2.2.2.2.2.2.2.2.2.2.2.2.2.1 z.2.1.2.2.2.2.2.2.2.2.2.2.2.2.2.2.2.2.2.1 z.2.1.2.2.2.2.2.2.2.2.2.2.2.2.2.2.2.2.2.2.1 z.2.1.2.2.2.2.2.2.2.2.2.2.2.2.2.2.2.2.2.2.2.1 z.2.1.2.2.2.2.2.2.2.2.2.2.2.2.2.2.2.2.2.2.2.2.1 z.2.1.2.2.2.2.2.2.2.2.2.2.2.2.2.2.2.2.2.2.2.2.2.1.1 z.2.2.1 z.2.2.2.1 z.2.2.2.2.1 z.2.2.2.2.2.1 z.2.2.2.2.2.2.1 z.2.2.2.2.2.2.2.1 z.2.2.2.2.2.2.2.2.1 z.2.2.2.2.2.2.2.2.2.1 z.2.2.2.2.2.2.2.2.2.2.1
abbrev X69_111_7_15 : Type := DT8 × DT2 × DT0 × DT0 × DT0 × DT0 × DT0 × DT0 × DT0 × DT0 × DT0 × DT0 × Unit
abbrev Y69_111_7_15 : Type := DT10 × DT2 × DT0 × DT0 × DT0 × DT0 × DT0 × DT0 × DT0 × DT0 × DT0 × DT0 × Unit
abbrev Z69_111_7_15 : Type := Unit × DT9 × Unit
noncomputable def t69_111_7_15 (v1 v2 v3 : Int) (v4 : DT0) (v5 v6 : Int) (v7 v8 v9 v10 v11 v12 v13 v14 v15 v16 v17 v18 v19 v20 v21 v22 v23 v24 : DT0) (v25 : Int) (v26 v27 v28 v29 v30 v31 v32 v33 v34 v35 : DT0) : Option (R3 X69_111_7_15 Y69_111_7_15 Z69_111_7_15) :=
 cond (decide (v2 < v1)) (
  cond ((decide (0 ≤ v2)) && (decide (v2 < (v17.length : Int)))) (
   cond (decide ((Int.toNat v2) < v17.length)) (
    ((f136 (rd dT0 v17 (Int.toNat v2)).1 (rd dT0 v17 (Int.toNat v2)).2)).bind fun y36 =>
    cond y36.1 (
     cond ((decide (((v26.length + 1) * 16) ≤ 140737488355328)) && (decide ((v26.length + 1) ≤ 9223372036854775807))) (
      some (R3.next (((), (), (), (), (), (), v1, (IntKind.wrap .i64 (v2 + 1)), ()), ((v3, v4, ()), (v5, (), ()), (v6, (), (), (), (), (), (), (), (), ()), v7, v8, v9, v10, v11, v12, v13, v14, v15, v16, v17, v18, v19, v20, v21, v22, v23, v24, (v25, (), ()), ()), (v26 ++ [((rd dT0 v17 (Int.toNat v2)).1, (rd dT0 v17 (Int.toNat v2)).2)]), v27, v28, v29, v30, v31, v32, v33, v34, v35, ()))) (
      none)) (
     cond ((decide (((v27.length + 1) * 16) ≤ 140737488355328)) && (decide ((v27.length + 1) ≤ 9223372036854775807))) (
      some (R3.next (((), (), (), (), (), (), v1, (IntKind.wrap .i64 (v2 + 1)), ()), ((v3, v4, ()), (v5, (), ()), (v6, (), (), (), (), (), (), (), (), ()), v7, v8, v9, v10, v11, v12, v13, v14, v15, v16, v17, v18, v19, v20, v21, v22, v23, v24, (v25, (), ()), ()), v26, (v27 ++ [((rd dT0 v17 (Int.toNat v2)).1, (rd dT0 v17 (Int.toNat v2)).2)]), v28, v29, v30, v31, v32, v33, v34, v35, ()))) (
      none))) (
    none)) (
   none)) (
  some (R3.out (((), (), (), (), (), ()), ((v3, v4, ()), (v5, (), ()), (v6, (), (), (), (), (), (), (), (), ()), v7, v8, v9, v10, v11, v12, v13, v14, v15, v16, v17, v18, v19, v20, v21, v22, v23, v24, (v25, (), ()), ()), v26, v27, v28, v29, v30, v31, v32, v33, v34, v35, ())))
noncomputable def u69_111_7_15 (z : X69_111_7_15) : Option (R3 X69_111_7_15 Y69_111_7_15 Z69_111_7_15) := t69_111_7_15 z.1.2.2.2.2.2.2.1 z.1.2.2.2.2.2.2.2.1 z.2.1.1.1 z.2.1.1.2.1 z.2.1.2.1.1 z.2.1.2.2.1.1 z.2.1.2.2.2.1 z.2.1.2.2.2.2.1 z.2.1.2.2.2.2.2.1 z.2.1.2.2.2.2.2.2.1 z.2.1.2.2.2.2.2.2.2.1 z.2.1.2.2.2.2.2.2.2.2.1 z.2.1.2.2.2.2.2.2.2.2.2.1 z.2.1.2.2.2.2.2.2.2.2.2.2.1 z.2.1.2.2.2.2.2.2.2.2.2.2.2.1 z.2.1.2.2.2.2.2.2.2.2.2.2.2.2.1 z.2.1.2.2.2.2.2.2.2.2.2.2.2.2.2.1 z.2.1.2.2.2.2.2.2.2.2.2.2.2.2.2.2.1 z.2.1.2.2.2.2.2.2.2.2.2.2.2.2.2.2.2.1 z.2.1.2.2.2.2.2.2.2.2.2.2.2.2.2.2.2.2.1 z.2.1.2.2.2.2.2.2.2.2.2.2.2.2.2.2.2.2.2.1 z.2.1.2.2.2.2.2.2.2.2.2.2.2.2.2.2.2.2.2.2.1 z.2.1.2.2.2.2.2.2.2.2.2.2.2.2.2.2.2.2.2.2.2.1 z.2.1.2.2.2.2.2.2.2.2.2.2.2.2.2.2.2.2.2.2.2.2.1 z.2.1.2.2.2.2.2.2.2.2.2.2.2.2.2.2.2.2.2.2.2.2.2.1.1 z.2.2.1 z.2.2.2.1 z.2.2.2.2.1 z.2.2.2.2.2.1 z.2.2.2.2.2.2.1 z.2.2.2.2.2.2.2.1 z.2.2.2.2.2.2.2.2.1 z.2.2.2.2.2.2.2.2.2.1 z.2.2.2.2.2.2.2.2.2.2.1 z.2.2.2.2.2.2.2.2.2.2.2.1
noncomputable def f69 (v1 : Int) (v2 : DT0) (v3 : Int) : Option ((Int × DT0) × DT0 × Int × Unit) :=
 ((f104 v1 v2)).bind fun y4 =>
 cond (!y4.1) (
  ((f106 v1 v2)).bind fun y5 =>
  some ((y5.1.1, y5.1.2), [], 1, ())) (
  cond (decide (v3 < v1)) (
   ((f106 v1 v2)).bind fun y6 =>
   some ((y6.1.1, y6.1.2), [], 10, ())) (
   cond (decide (1073741824 < v3)) (
    ((f106 v1 v2)).bind fun y7 =>
    some ((y7.1.1, y7.1.2), [], 10, ())) (
    ((iter big u69_108_3_0 (((), v2, (v2.length : Int), 0, ()), ((v1, v2, ()), (0, (), ()), (v1, (), (), (), (), (), (), (), (), ()), ()), [], [], [], [], [], [], [], [], [], ()))).bind fun r => match r with
    | .inl y8 =>
      ((iter big u69_111_7_0 (((), (), (), (), (), (), (y8.2.2.2.1.length : Int), 0, ()), ((y8.2.1.1.1, y8.2.1.1.2.1, ()), (y8.2.1.2.1.1, (), ()), (v3, (), (), (), (), (), (), (), (), ()), y8.2.2.1, y8.2.2.2.1, y8.2.2.2.2.1, y8.2.2.2.2.2.1, y8.2.2.2.2.2.2.1, y8.2.2.2.2.2.2.2.1, y8.2.2.2.2.2.2.2.2.1, y8.2.2.2.2.2.2.2.2.2.1, y8.2.2.2.2.2.2.2.2.2.2.1, ()), [], [], ()))).bind fun r => match r with
      | .inl y10 =>
        ((iter big u69_111_7_1 (((), (), (), (), (), (), (y10.2.1.2.2.2.2.2.1.length : Int), 0, ()), ((y10.2.1.1.1, y10.2.1.1.2.1, ()), (y10.2.1.2.1.1, (), ()), (y10.2.1.2.2.1.1, (), (), (), (), (), (), (), (), ()), y10.2.1.2.2.2.1, y10.2.1.2.2.2.2.1, y10.2.1.2.2.2.2.2.1, y10.2.1.2.2.2.2.2.2.1, y10.2.1.2.2.2.2.2.2.2.1, y10.2.1.2.2.2.2.2.2.2.2.1, y10.2.1.2.2.2.2.2.2.2.2.2.1, y10.2.1.2.2.2.2.2.2.2.2.2.2.1, y10.2.1.2.2.2.2.2.2.2.2.2.2.2.1, ()), y10.2.2.1, [], y10.2.2.2.1, ()))).bind fun r => match r with
        | .inl y12 =>
          ((iter big u69_111_7_2 (((), (), (), (), (), (), (y12.2.1.2.2.2.2.2.2.1.length : Int), 0, ()), ((y12.2.1.1.1, y12.2.1.1.2.1, ()), (y12.2.1.2.1.1, (), ()), (y12.2.1.2.2.1.1, (), (), (), (), (), (), (), (), ()), y12.2.1.2.2.2.1, y12.2.1.2.2.2.2.1, y12.2.1.2.2.2.2.2.1, y12.2.1.2.2.2.2.2.2.1, y12.2.1.2.2.2.2.2.2.2.1, y12.2.1.2.2.2.2.2.2.2.2.1, y12.2.1.2.2.2.2.2.2.2.2.2.1, y12.2.1.2.2.2.2.2.2.2.2.2.2.1, y12.2.1.2.2.2.2.2.2.2.2.2.2.2.1, ()), y12.2.2.1, [], y12.2.2.2.2.1, y12.2.2.2.1, ()))).bind fun r => match r with
          | .inl y14 =>
            ((iter big u69_111_7_3 (((), (), (), (), (), (), (y14.2.1.2.2.2.2.2.2.2.1.length : Int), 0, ()), ((y14.2.1.1.1, y14.2.1.1.2.1, ()), (y14.2.1.2.1.1, (), ()), (y14.2.1.2.2.1.1, (), (), (), (), (), (), (), (), ()), y14.2.1.2.2.2.1, y14.2.1.2.2.2.2.1, y14.2.1.2.2.2.2.2.1, y14.2.1.2.2.2.2.2.2.1, y14.2.1.2.2.2.2.2.2.2.1, y14.2.1.2.2.2.2.2.2.2.2.1, y14.2.1.2.2.2.2.2.2.2.2.2.1, y14.2.1.2.2.2.2.2.2.2.2.2.2.1, y14.2.1.2.2.2.2.2.2.2.2.2.2.2.1, ()), y14.2.2.1, [], y14.2.2.2.2.1, y14.2.2.2.2.2.1, y14.2.2.2.1, ()))).bind fun r => match r with
            | .inl y16 =>
              ((iter big u69_111_7_4 (((), (), (), (), (), (), (y16.2.1.2.2.2.2.2.2.2.2.1.length : Int), 0, ()), ((y16.2.1.1.1, y16.2.1.1.2.1, ()), (y16.2.1.2.1.1, (), ()), (y16.2.1.2.2.1.1, (), (), (), (), (), (), (), (), ()), y16.2.1.2.2.2.1, y16.2.1.2.2.2.2.1, y16.2.1.2.2.2.2.2.1, y16.2.1.2.2.2.2.2.2.1, y16.2.1.2.2.2.2.2.2.2.1, y16.2.1.2.2.2.2.2.2.2.2.1, y16.2.1.2.2.2.2.2.2.2.2.2.1, y16.2.1.2.2.2.2.2.2.2.2.2.2.1, y16.2.1.2.2.2.2.2.2.2.2.2.2.2.1, ()), y16.2.2.1, [], y16.2.2.2.2.1, y16.2.2.2.2.2.1, y16.2.2.2.2.2.2.1, y16.2.2.2.1, ()))).bind fun r => match r with
              | .inl y18 =>
                ((iter big u69_111_7_5 (((), (), (), (), (), (), (y18.2.1.2.2.2.2.2.2.2.2.2.1.length : Int), 0, ()), ((y18.2.1.1.1, y18.2.1.1.2.1, ()), (y18.2.1.2.1.1, (), ()), (y18.2.1.2.2.1.1, (), (), (), (), (), (), (), (), ()), y18.2.1.2.2.2.1, y18.2.1.2.2.2.2.1, y18.2.1.2.2.2.2.2.1, y18.2.1.2.2.2.2.2.2.1, y18.2.1.2.2.2.2.2.2.2.1, y18.2.1.2.2.2.2.2.2.2.2.1, y18.2.1.2.2.2.2.2.2.2.2.2.1, y18.2.1.2.2.2.2.2.2.2.2.2.2.1, y18.2.1.2.2.2.2.2.2.2.2.2.2.2.1, ()), y18.2.2.1, [], y18.2.2.2.2.1, y18.2.2.2.2.2.1, y18.2.2.2.2.2.2.1, y18.2.2.2.2.2.2.2.1, y18.2.2.2.1, ()))).bind fun r => match r with
                | .inl y20 =>
                  ((iter big u69_111_7_6 (((), (), (), (), (), (), (y20.2.1.2.2.2.2.2.2.2.2.2.2.1.length : Int), 0, ()), ((y20.2.1.1.1, y20.2.1.1.2.1, ()), (y20.2.1.2.1.1, (), ()), (y20.2.1.2.2.1.1, (), (), (), (), (), (), (), (), ()), y20.2.1.2.2.2.1, y20.2.1.2.2.2.2.1, y20.2.1.2.2.2.2.2.1, y20.2.1.2.2.2.2.2.2.1, y20.2.1.2.2.2.2.2.2.2.1, y20.2.1.2.2.2.2.2.2.2.2.1, y20.2.1.2.2.2.2.2.2.2.2.2.1, y20.2.1.2.2.2.2.2.2.2.2.2.2.1, y20.2.1.2.2.2.2.2.2.2.2.2.2.2.1, ()), y20.2.2.1, [], y20.2.2.2.2.1, y20.2.2.2.2.2.1, y20.2.2.2.2.2.2.1, y20.2.2.2.2.2.2.2.1, y20.2.2.2.2.2.2.2.2.1, y20.2.2.2.1, ()))).bind fun r => match r with
                  | .inl y22 =>
                    ((iter big u69_111_7_7 (((), (), (), (), (), (), (y22.2.1.2.2.2.2.2.2.2.2.2.2.2.1.length : Int), 0, ()), ((y22.2.1.1.1, y22.2.1.1.2.1, ()), (y22.2.1.2.1.1, (), ()), (y22.2.1.2.2.1.1, (), (), (), (), (), (), (), (), ()), y22.2.1.2.2.2.1, y22.2.1.2.2.2.2.1, y22.2.1.2.2.2.2.2.1, y22.2.1.2.2.2.2.2.2.1, y22.2.1.2.2.2.2.2.2.2.1, y22.2.1.2.2.2.2.2.2.2.2.1, y22.2.1.2.2.2.2.2.2.2.2.2.1, y22.2.1.2.2.2.2.2.2.2.2.2.2.1, y22.2.1.2.2.2.2.2.2.2.2.2.2.2.1, ()), y22.2.2.1, [], y22.2.2.2.2.1, y22.2.2.2.2.2.1, y22.2.2.2.2.2.2.1, y22.2.2.2.2.2.2.2.1, y22.2.2.2.2.2.2.2.2.1, y22.2.2.2.2.2.2.2.2.2.1, y22.2.2.2.1, ()))).bind fun r => match r with
                    | .inl y24 =>
                      ((fSortT y24.2.2.1)).bind fun y26 =>
                      cond ((Nat.beq y26.length y24.2.2.1.length) && true) (
                       ((iter big u69_111_7_8 (((), (), (), (), (), (), (y24.2.2.2.2.1.length : Int), 0, ()), ((y24.2.1.1.1, y24.2.1.1.2.1, ()), (y24.2.1.2.1.1, (), ()), (y24.2.1.2.2.1.1, (), (), (), (), (), (), (), (), ()), y24.2.1.2.2.2.1, y24.2.1.2.2.2.2.1, y24.2.1.2.2.2.2.2.1, y24.2.1.2.2.2.2.2.2.1, y24.2.1.2.2.2.2.2.2.2.1, y24.2.1.2.2.2.2.2.2.2.2.1, y24.2.1.2.2.2.2.2.2.2.2.2.1, y24.2.1.2.2.2.2.2.2.2.2.2.2.1, y24.2.1.2.2.2.2.2.2.2.2.2.2.2.1, y26, y24.2.2.2.1, y24.2.2.2.2.1, y24.2.2.2.2.2.1, y24.2.2.2.2.2.2.1, y24.2.2.2.2.2.2.2.1, y24.2.2.2.2.2.2.2.2.1, y24.2.2.2.2.2.2.2.2.2.1, y24.2.2.2.2.2.2.2.2.2.2.1, (0, (), ()), ()), [], [], [], ()))).bind fun r => match r with
                       | .inl y27 =>
                         ((iter big u69_111_7_9 (((), (), (), (), (), (), (y27.2.1.2.2.2.2.2.2.2.2.2.2.2.2.2.2.2.1.length : Int), 0, ()), ((y27.2.1.1.1, y27.2.1.1.2.1, ()), (y27.2.1.2.1.1, (), ()), (y27.2.1.2.2.1.1, (), (), (), (), (), (), (), (), ()), y27.2.1.2.2.2.1, y27.2.1.2.2.2.2.1, y27.2.1.2.2.2.2.2.1, y27.2.1.2.2.2.2.2.2.1, y27.2.1.2.2.2.2.2.2.2.1, y27.2.1.2.2.2.2.2.2.2.2.1, y27.2.1.2.2.2.2.2.2.2.2.2.1, y27.2.1.2.2.2.2.2.2.2.2.2.2.1, y27.2.1.2.2.2.2.2.2.2.2.2.2.2.1, y27.2.1.2.2.2.2.2.2.2.2.2.2.2.2.1, y27.2.1.2.2.2.2.2.2.2.2.2.2.2.2.2.1, y27.2.1.2.2.2.2.2.2.2.2.2.2.2.2.2.2.1, y27.2.1.2.2.2.2.2.2.2.2.2.2.2.2.2.2.2.1, y27.2.1.2.2.2.2.2.2.2.2.2.2.2.2.2.2.2.2.1, y27.2.1.2.2.2.2.2.2.2.2.2.2.2.2.2.2.2.2.2.1, y27.2.1.2.2.2.2.2.2.2.2.2.2.2.2.2.2.2.2.2.2.1, y27.2.1.2.2.2.2.2.2.2.2.2.2.2.2.2.2.2.2.2.2.2.1, y27.2.1.2.2.2.2.2.2.2.2.2.2.2.2.2.2.2.2.2.2.2.2.1, (y27.2.1.2.2.2.2.2.2.2.2.2.2.2.2.2.2.2.2.2.2.2.2.2.1.1, (), ()), ()), y27.2.2.1, [], y27.2.2.2.1, y27.2.2.2.2.1, ()))).bind fun r => match r with
                         | .inl y29 =>
                           ((iter big u69_111_7_10 (((), (), (), (), (), (), (y29.2.1.2.2.2.2.2.2.2.2.2.2.2.2.2.2.2.2.1.length : Int), 0, ()), ((y29.2.1.1.1, y29.2.1.1.2.1, ()), (y29.2.1.2.1.1, (), ()), (y29.2.1.2.2.1.1, (), (), (), (), (), (), (), (), ()), y29.2.1.2.2.2.1, y29.2.1.2.2.2.2.1, y29.2.1.2.2.2.2.2.1, y29.2.1.2.2.2.2.2.2.1, y29.2.1.2.2.2.2.2.2.2.1, y29.2.1.2.2.2.2.2.2.2.2.1, y29.2.1.2.2.2.2.2.2.2.2.2.1, y29.2.1.2.2.2.2.2.2.2.2.2.2.1, y29.2.1.2.2.2.2.2.2.2.2.2.2.2.1, y29.2.1.2.2.2.2.2.2.2.2.2.2.2.2.1, y29.2.1.2.2.2.2.2.2.2.2.2.2.2.2.2.1, y29.2.1.2.2.2.2.2.2.2.2.2.2.2.2.2.2.1, y29.2.1.2.2.2.2.2.2.2.2.2.2.2.2.2.2.2.1, y29.2.1.2.2.2.2.2.2.2.2.2.2.2.2.2.2.2.2.1, y29.2.1.2.2.2.2.2.2.2.2.2.2.2.2.2.2.2.2.2.1, y29.2.1.2.2.2.2.2.2.2.2.2.2.2.2.2.2.2.2.2.2.1, y29.2.1.2.2.2.2.2.2.2.2.2.2.2.2.2.2.2.2.2.2.2.1, y29.2.1.2.2.2.2.2.2.2.2.2.2.2.2.2.2.2.2.2.2.2.2.1, (y29.2.1.2.2.2.2.2.2.2.2.2.2.2.2.2.2.2.2.2.2.2.2.2.1.1, (), ()), ()), y29.2.2.1, [], y29.2.2.2.2.1, y29.2.2.2.1, y29.2.2.2.2.2.1, ()))).bind fun r => match r with
                           | .inl y31 =>
                             ((iter big u69_111_7_11 (((), (), (), (), (), (), (y31.2.1.2.2.2.2.2.2.2.2.2.2.2.2.2.2.2.2.2.1.length : Int), 0, ()), ((y31.2.1.1.1, y31.2.1.1.2.1, ()), (y31.2.1.2.1.1, (), ()), (y31.2.1.2.2.1.1, (), (), (), (), (), (), (), (), ()), y31.2.1.2.2.2.1, y31.2.1.2.2.2.2.1, y31.2.1.2.2.2.2.2.1, y31.2.1.2.2.2.2.2.2.1, y31.2.1.2.2.2.2.2.2.2.1, y31.2.1.2.2.2.2.2.2.2.2.1, y31.2.1.2.2.2.2.2.2.2.2.2.1, y31.2.1.2.2.2.2.2.2.2.2.2.2.1, y31.2.1.2.2.2.2.2.2.2.2.2.2.2.1, y31.2.1.2.2.2.2.2.2.2.2.2.2.2.2.1, y31.2.1.2.2.2.2.2.2.2.2.2.2.2.2.2.1, y31.2.1.2.2.2.2.2.2.2.2.2.2.2.2.2.2.1, y31.2.1.2.2.2.2.2.2.2.2.2.2.2.2.2.2.2.1, y31.2.1.2.2.2.2.2.2.2.2.2.2.2.2.2.2.2.2.1, y31.2.1.2.2.2.2.2.2.2.2.2.2.2.2.2.2.2.2.2.1, y31.2.1.2.2.2.2.2.2.2.2.2.2.2.2.2.2.2.2.2.2.1, y31.2.1.2.2.2.2.2.2.2.2.2.2.2.2.2.2.2.2.2.2.2.1, y31.2.1.2.2.2.2.2.2.2.2.2.2.2.2.2.2.2.2.2.2.2.2.1, (y31.2.1.2.2.2.2.2.2.2.2.2.2.2.2.2.2.2.2.2.2.2.2.2.1.1, (), ()), ()), y31.2.2.1, [], y31.2.2.2.2.1, y31.2.2.2.2.2.1, y31.2.2.2.1, y31.2.2.2.2.2.2.1, ()))).bind fun r => match r with
                             | .inl y33 =>
                               ((iter big u69_111_7_12 (((), (), (), (), (), (), (y33.2.1.2.2.2.2.2.2.2.2.2.2.2.2.2.2.2.2.2.2.1.length : Int), 0, ()), ((y33.2.1.1.1, y33.2.1.1.2.1, ()), (y33.2.1.2.1.1, (), ()), (y33.2.1.2.2.1.1, (), (), (), (), (), (), (), (), ()), y33.2.1.2.2.2.1, y33.2.1.2.2.2.2.1, y33.2.1.2.2.2.2.2.1, y33.2.1.2.2.2.2.2.2.1, y33.2.1.2.2.2.2.2.2.2.1, y33.2.1.2.2.2.2.2.2.2.2.1, y33.2.1.2.2.2.2.2.2.2.2.2.1, y33.2.1.2.2.2.2.2.2.2.2.2.2.1, y33.2.1.2.2.2.2.2.2.2.2.2.2.2.1, y33.2.1.2.2.2.2.2.2.2.2.2.2.2.2.1, y33.2.1.2.2.2.2.2.2.2.2.2.2.2.2.2.1, y33.2.1.2.2.2.2.2.2.2.2.2.2.2.2.2.2.1, y33.2.1.2.2.2.2.2.2.2.2.2.2.2.2.2.2.2.1, y33.2.1.2.2.2.2.2.2.2.2.2.2.2.2.2.2.2.2.1, y33.2.1.2.2.2.2.2.2.2.2.2.2.2.2.2.2.2.2.2.1, y33.2.1.2.2.2.2.2.2.2.2.2.2.2.2.2.2.2.2.2.2.1, y33.2.1.2.2.2.2.2.2.2.2.2.2.2.2.2.2.2.2.2.2.2.1, y33.2.1.2.2.2.2.2.2.2.2.2.2.2.2.2.2.2.2.2.2.2.2.1, (y33.2.1.2.2.2.2.2.2.2.2.2.2.2.2.2.2.2.2.2.2.2.2.2.1.1, (), ()), ()), y33.2.2.1, [], y33.2.2.2.2.1, y33.2.2.2.2.2.1, y33.2.2.2.2.2.2.1, y33.2.2.2.1, y33.2.2.2.2.2.2.2.1, ()))).bind fun r => match r with
                               | .inl y35 =>
                                 ((iter big u69_111_7_13 (((), (), (), (), (), (), (y35.2.1.2.2.2.2.2.2.2.2.2.2.2.2.2.2.2.2.2.2.2.1.length : Int), 0, ()), ((y35.2.1.1.1, y35.2.1.1.2.1, ()), (y35.2.1.2.1.1, (), ()), (y35.2.1.2.2.1.1, (), (), (), (), (), (), (), (), ()), y35.2.1.2.2.2.1, y35.2.1.2.2.2.2.1, y35.2.1.2.2.2.2.2.1, y35.2.1.2.2.2.2.2.2.1, y35.2.1.2.2.2.2.2.2.2.1, y35.2.1.2.2.2.2.2.2.2.2.1, y35.2.1.2.2.2.2.2.2.2.2.2.1, y35.2.1.2.2.2.2.2.2.2.2.2.2.1, y35.2.1.2.2.2.2.2.2.2.2.2.2.2.1, y35.2.1.2.2.2.2.2.2.2.2.2.2.2.2.1, y35.2.1.2.2.2.2.2.2.2.2.2.2.2.2.2.1, y35.2.1.2.2.2.2.2.2.2.2.2.2.2.2.2.2.1, y35.2.1.2.2.2.2.2.2.2.2.2.2.2.2.2.2.2.1, y35.2.1.2.2.2.2.2.2.2.2.2.2.2.2.2.2.2.2.1, y35.2.1.2.2.2.2.2.2.2.2.2.2.2.2.2.2.2.2.2.1, y35.2.1.2.2.2.2.2.2.2.2.2.2.2.2.2.2.2.2.2.2.1, y35.2.1.2.2.2.2.2.2.2.2.2.2.2.2.2.2.2.2.2.2.2.1, y35.2.1.2.2.2.2.2.2.2.2.2.2.2.2.2.2.2.2.2.2.2.2.1, (y35.2.1.2.2.2.2.2.2.2.2.2.2.2.2.2.2.2.2.2.2.2.2.2.1.1, (), ()), ()), y35.2.2.1, [], y35.2.2.2.2.1, y35.2.2.2.2.2.1, y35.2.2.2.2.2.2.1, y35.2.2.2.2.2.2.2.1, y35.2.2.2.1, y35.2.2.2.2.2.2.2.2.1, ()))).bind fun r => match r with
                                 | .inl y37 =>
                                   ((iter big u69_111_7_14 (((), (), (), (), (), (), (y37.2.1.2.2.2.2.2.2.2.2.2.2.2.2.2.2.2.2.2.2.2.2.1.length : Int), 0, ()), ((y37.2.1.1.1, y37.2.1.1.2.1, ()), (y37.2.1.2.1.1, (), ()), (y37.2.1.2.2.1.1, (), (), (), (), (), (), (), (), ()), y37.2.1.2.2.2.1, y37.2.1.2.2.2.2.1, y37.2.1.2.2.2.2.2.1, y37.2.1.2.2.2.2.2.2.1, y37.2.1.2.2.2.2.2.2.2.1, y37.2.1.2.2.2.2.2.2.2.2.1, y37.2.1.2.2.2.2.2.2.2.2.2.1, y37.2.1.2.2.2.2.2.2.2.2.2.2.1, y37.2.1.2.2.2.2.2.2.2.2.2.2.2.1, y37.2.1.2.2.2.2.2.2.2.2.2.2.2.2.1, y37.2.1.2.2.2.2.2.2.2.2.2.2.2.2.2.1, y37.2.1.2.2.2.2.2.2.2.2.2.2.2.2.2.2.1, y37.2.1.2.2.2.2.2.2.2.2.2.2.2.2.2.2.2.1, y37.2.1.2.2.2.2.2.2.2.2.2.2.2.2.2.2.2.2.1, y37.2.1.2.2.2.2.2.2.2.2.2.2.2.2.2.2.2.2.2.1, y37.2.1.2.2.2.2.2.2.2.2.2.2.2.2.2.2.2.2.2.2.1, y37.2.1.2.2.2.2.2.2.2.2.2.2.2.2.2.2.2.2.2.2.2.1, y37.2.1.2.2.2.2.2.2.2.2.2.2.2.2.2.2.2.2.2.2.2.2.1, (y37.2.1.2.2.2.2.2.2.2.2.2.2.2.2.2.2.2.2.2.2.2.2.2.1.1, (), ()), ()), y37.2.2.1, [], y37.2.2.2.2.1, y37.2.2.2.2.2.1, y37.2.2.2.2.2.2.1, y37.2.2.2.2.2.2.2.1, y37.2.2.2.2.2.2.2.2.1, y37.2.2.2.1, y37.2.2.2.2.2.2.2.2.2.1, ()))).bind fun r => match r with
                                   | .inl y39 =>
                                     ((iter big u69_111_7_15 (((), (), (), (), (), (), (y39.2.1.2.2.2.2.2.2.2.2.2.2.2.2.2.1.length : Int), 0, ()), ((y39.2.1.1.1, y39.2.1.1.2.1, ()), (y39.2.1.2.1.1, (), ()), (y39.2.1.2.2.1.1, (), (), (), (), (), (), (), (), ()), y39.2.1.2.2.2.1, y39.2.1.2.2.2.2.1, y39.2.1.2.2.2.2.2.1, y39.2.1.2.2.2.2.2.2.1, y39.2.1.2.2.2.2.2.2.2.1, y39.2.1.2.2.2.2.2.2.2.2.1, y39.2.1.2.2.2.2.2.2.2.2.2.1, y39.2.1.2.2.2.2.2.2.2.2.2.2.1, y39.2.1.2.2.2.2.2.2.2.2.2.2.2.1, y39.2.1.2.2.2.2.2.2.2.2.2.2.2.2.1, y39.2.1.2.2.2.2.2.2.2.2.2.2.2.2.2.1, y39.2.1.2.2.2.2.2.2.2.2.2.2.2.2.2.2.1, y39.2.1.2.2.2.2.2.2.2.2.2.2.2.2.2.2.2.1, y39.2.1.2.2.2.2.2.2.2.2.2.2.2.2.2.2.2.2.1, y39.2.1.2.2.2.2.2.2.2.2.2.2.2.2.2.2.2.2.2.1, y39.2.1.2.2.2.2.2.2.2.2.2.2.2.2.2.2.2.2.2.2.1, y39.2.1.2.2.2.2.2.2.2.2.2.2.2.2.2.2.2.2.2.2.2.1, y39.2.1.2.2.2.2.2.2.2.2.2.2.2.2.2.2.2.2.2.2.2.2.1, (y39.2.1.2.2.2.2.2.2.2.2.2.2.2.2.2.2.2.2.2.2.2.2.2.1.1, (), ()), ()), y39.2.2.1, [], y39.2.2.2.2.1, y39.2.2.2.2.2.1, y39.2.2.2.2.2.2.1, y39.2.2.2.2.2.2.2.1, y39.2.2.2.2.2.2.2.2.1, y39.2.2.2.2.2.2.2.2.2.1, y39.2.2.2.1, y39.2.2.2.2.2.2.2.2.2.2.1, ()))).bind fun r => match r with
                                     | .inl y41 =>
                                       ((fSortT y41.2.2.1)).bind fun y43 =>
                                       cond ((Nat.beq y43.length y41.2.2.1.length) && true) (
                                        cond (decide (y41.2.1.2.2.1.1 = y24.2.1.2.2.1.1)) (
                                         some ((y24.2.1.2.2.1.1, y43), y41.2.1.2.2.2.2.2.2.2.2.2.2.2.2.1, 0, ())) (
                                         none)) (
                                        none)
                                     | .inr z42 =>
                                       none
                                   | .inr z40 =>
                                     none
                                 | .inr z38 =>
                                   none
                               | .inr z36 =>
                                 none
                             | .inr z34 =>
                               none
                           | .inr z32 =>
                             none
                         | .inr z30 =>
                           none
                       | .inr z28 =>
                         none) (
                       none)
                    | .inr z25 =>
                      none
                  | .inr z23 =>
                    none
                | .inr z21 =>
                  none
              | .inr z19 =>
                none
            | .inr z17 =>
              none
          | .inr z15 =>
            none
        | .inr z13 =>
          none
      | .inr z11 =>
        none
    | .inr z9 =>
      none)))
abbrev X13_30_8_0 : Type := (Unit × Int × Int × Unit) × DT6 × DT1 × DT4 × DT1 × DT7 × DT7 × Unit
abbrev Y13_30_8_0 : Type := (Unit × Int × Int × Unit) × DT6 × DT1 × DT4 × DT1 × DT7 × DT7 × Unit
abbrev Z13_30_8_0 : Type := Unit × DT24 × Unit
noncomputable def t13_30_8_0 (v1 v2 v3 v4 v5 v6 v7 v8 v9 v10 v11 v12 v13 : Int) (v14 : Bool) (v15 : Int) (v16 : DT1) (v17 : DT4) (v18 : DT1) (v19 v20 v21 v22 v23 v24 v25 v26 : Int) (v27 : Bool) (v28 v29 v30 v31 v32 v33 v34 v35 v36 v37 v38 : Int) (v39 : Bool) (v40 v41 v42 v43 : Int) (v44 : DT1) (v45 : DT4) (v46 : DT1) (v47 v48 v49 v50 v51 v52 v53 v54 v55 v56 v57 : Int) (v58 : Bool) (v59 v60 v61 v62 v63 v64 v65 v66 v67 : Int) (v68 : Bool) (v69 v70 v71 : Int) (v72 : DT1) (v73 : DT4) (v74 : DT1) (v75 v76 : DT7) : Option (R3 X13_30_8_0 Y13_30_8_0 Z13_30_8_0) :=
 cond (decide (v1 < v2)) (
  ((f23 v44 v1)).bind fun y77 =>
  cond (!y77.1) (
   some (R3.next (((), (IntKind.wrap .i64 (v1 + 1)), v2, ()), ((v3, v4, v5, v6, v7, v8, v9, v10, v11, v12, v13, v14, v15, v16, v17, v18, ()), (v19, v20, v21, v22, v23, v24, v25, v26, v27, ()), (v28, v29, v30, v31, v32, v33, v34, v35, v36, v37, v38, v39, v40, (), (), (), ()), ((), ()), (v41, v42, v43, ()), ((), (), (), (), (), (), (), (), (), ()), v44, v45, v46, (v47, v48, v49, v50, v51, v52, v53, v54, v55, v56, v57, v58, v59, (), (), (), v60, v61, v62, v63, v64, v65, v66, v67, v68, (), v69, v70, v71, ()), ()), v72, v73, v74, v75, v76, ()))) (
   ((f100 v47 v48 v49 v50 v51 v52 v53 v54 v45 v46 v1)).bind fun y78 =>
   ((f99 y78.1.1 y78.1.2)).bind fun y79 =>
   cond (decide (y79.1 = (-1))) (
    some (R3.next (((), (IntKind.wrap .i64 (v1 + 1)), v2, ()), ((v3, v4, v5, v6, v7, v8, v9, v10, v11, v12, v13, v14, v15, v16, v17, v18, ()), (v19, v20, v21, v22, v23, v24, v25, v26, v27, ()), (v28, v29, v30, v31, v32, v33, v34, v35, v36, v37, v38, v39, v40, (), (), (), ()), ((), ()), (v41, v42, v43, ()), ((), (), (), (), (), (), (), (), (), ()), v44, v45, v46, (v47, v48, v49, v50, v51, v52, v53, v54, v55, v56, v57, v58, v59, (), (), (), v60, v61, v62, v63, v64, v65, v66, v67, v68, (), v69, v70, v71, ()), ()), v72, v73, v74, v75, v76, ()))) (
    some (R3.out (((), v1, v2, ()), ((v3, v4, v5, v6, v7, v8, v9, v10, v11, v12, v13, v14, v15, v16, v17, v18, ()), (v19, v20, v21, v22, v23, v24, v25, v26, v27, ()), (v28, v29, v30, v31, v32, v33, v34, v35, v36, v37, v38, v39, v40, (), (), (), ()), ((), ()), (v41, v42, v43, ()), ((), (), (), (), (), (), (), (), (), ()), v44, v45, v46, (v47, v48, v49, v50, v51, v52, v53, v54, v55, v56, v57, v58, v59, (), (), (), v60, v61, v62, v63, v64, v65, v66, v67, v68, (), v69, v70, v71, ()), ()), v72, v73, v74, v75, v76, ()))))) (
  some (R3.out (((), v1, v2, ()), ((v3, v4, v5, v6, v7, v8, v9, v10, v11, v12, v13, v14, v15, v16, v17, v18, ()), (v19, v20, v21, v22, v23, v24, v25, v26, v27, ()), (v28, v29, v30, v31, v32, v33, v34, v35, v36, v37, v38, v39, v40, (), (), (), ()), ((), ()), (v41, v42, v43, ()), ((), (), (), (), (), (), (), (), (), ()), v44, v45, v46, (v47, v48, v49, v50, v51, v52, v53, v54, v55, v56, v57, v58, v59, (), (), (), v60, v61, v62, v63, v64, v65, v66, v67, v68, (), v69, v70, v71, ()), ()), v72, v73, v74, v75, v76, ())))
noncomputable def u13_30_8_0 (z : X13_30_8_0) : Option (R3 X13_30_8_0 Y13_30_8_0 Z13_30_8_0) := t13_30_8_0 z.1.2.1 z.1.2.2.1 z.2.1.1.1 z.2.1.1.2.1 z.2.1.1.2.2.1 z.2.1.1.2.2.2.1 z.2.1.1.2.2.2.2.1 z.2.1.1.2.2.2.2.2.1 z.2.1.1.2.2.2.2.2.2.1 z.2.1.1.2.2.2.2.2.2.2.1 z.2.1.1.2.2.2.2.2.2.2.2.1 z.2.1.1.2.2.2.2.2.2.2.2.2.1 z.2.1.1.2.2.2.2.2.2.2.2.2.2.1 z.2.1.1.2.2.2.2.2.2.2.2.2.2.2.1 z.2.1.1.2.2.2.2.2.2.2.2.2.2.2.2.1 z.2.1.1.2.2.2.2.2.2.2.2.2.2.2.2.2.1 z.2.1.1.2.2.2.2.2.2.2.2.2.2.2.2.2.2.1 z.2.1.1.2.2.2.2.2.2.2.2.2.2.2.2.2.2.2.1 z.2.1.2.1.1 z.2.1.2.1.2.1 z.2.1.2.1.2.2.1 z.2.1.2.1.2.2.2.1 z.2.1.2.1.2.2.2.2.1 z.2.1.2.1.2.2.2.2.2.1 z.2.1.2.1.2.2.2.2.2.2.1 z.2.1.2.1.2.2.2.2.2.2.2.1 z.2.1.2.1.2.2.2.2.2.2.2.2.1 z.2.1.2.2.1.1 z.2.1.2.2.1.2.1 z.2.1.2.2.1.2.2.1 z.2.1.2.2.1.2.2.2.1 z.2.1.2.2.1.2.2.2.2.1 z.2.1.2.2.1.2.2.2.2.2.1 z.2.1.2.2.1.2.2.2.2.2.2.1 z.2.1.2.2.1.2.2.2.2.2.2.2.1 z.2.1.2.2.1.2.2.2.2.2.2.2.2.1 z.2.1.2.2.1.2.2.2.2.2.2.2.2.2.1 z.2.1.2.2.1.2.2.2.2.2.2.2.2.2.2.1 z.2.1.2.2.1.2.2.2.2.2.2.2.2.2.2.2.1 z.2.1.2.2.1.2.2.2.2.2.2.2.2.2.2.2.2.1 z.2.1.2.2.2.2.1.1 z.2.1.2.2.2.2.1.2.1 z.2.1.2.2.2.2.1.2.2.1 z.2.1.2.2.2.2.2.2.1 z.2.1.2.2.2.2.2.2.2.1 z.2.1.2.2.2.2.2.2.2.2.1 z.2.1.2.2.2.2.2.2.2.2.2.1.1 z.2.1.2.2.2.2.2.2.2.2.2.1.2.1 z.2.1.2.2.2.2.2.2.2.2.2.1.2.2.1 z.2.1.2.2.2.2.2.2.2.2.2.1.2.2.2.1 z.2.1.2.2.2.2.2.2.2.2.2.1.2.2.2.2.1 z.2.1.2.2.2.2.2.2.2.2.2.1.2.2.2.2.2.1 z.2.1.2.2.2.2.2.2.2.2.2.1.2.2.2.2.2.2.1 z.2.1.2.2.2.2.2.2.2.2.2.1.2.2.2.2.2.2.2.1 z.2.1.2.2.2.2.2.2.2.2.2.1.2.2.2.2.2.2.2.2.1 z.2.1.2.2.2.2.2.2.2.2.2.1.2.2.2.2.2.2.2.2.2.1 z.2.1.2.2.2.2.2.2.2.2.2.1.2.2.2.2.2.2.2.2.2.2.1 z.2.1.2.2.2.2.2.2.2.2.2.1.2.2.2.2.2.2.2.2.2.2.2.1 z.2.1.2.2.2.2.2.2.2.2.2.1.2.2.2.2.2.2.2.2.2.2.2.2.1 z.2.1.2.2.2.2.2.2.2.2.2.1.2.2.2.2.2.2.2.2.2.2.2.2.2.2.2.2.1 z.2.1.2.2.2.2.2.2.2.2.2.1.2.2.2.2.2.2.2.2.2.2.2.2.2.2.2.2.2.1 z.2.1.2.2.2.2.2.2.2.2.2.1.2.2.2.2.2.2.2.2.2.2.2.2.2.2.2.2.2.2.1 z.2.1.2.2.2.2.2.2.2.2.2.1.2.2.2.2.2.2.2.2.2.2.2.2.2.2.2.2.2.2.2.1 z.2.1.2.2.2.2.2.2.2.2.2.1.2.2.2.2.2.2.2.2.2.2.2.2.2.2.2.2.2.2.2.2.1 z.2.1.2.2.2.2.2.2.2.2.2.1.2.2.2.2.2.2.2.2.2.2.2.2.2.2.2.2.2.2.2.2.2.1 z.2.1.2.2.2.2.2.2.2.2.2.1.2.2.2.2.2.2.2.2.2.2.2.2.2.2.2.2.2.2.2.2.2.2.1 z.2.1.2.2.2.2.2.2.2.2.2.1.2.2.2.2.2.2.2.2.2.2.2.2.2.2.2.2.2.2.2.2.2.2.2.1 z.2.1.2.2.2.2.2.2.2.2.2.1.2.2.2.2.2.2.2.2.2.2.2.2.2.2.2.2.2.2.2.2.2.2.2.2.1 z.2.1.2.2.2.2.2.2.2.2.2.1.2.2.2.2.2.2.2.2.2.2.2.2.2.2.2.2.2.2.2.2.2.2.2.2.2.2.1 z.2.1.2.2.2.2.2.2.2.2.2.1.2.2.2.2.2.2.2.2.2.2.2.2.2.2.2.2.2.2.2.2.2.2.2.2.2.2.2.1 z.2.1.2.2.2.2.2.2.2.2.2.1.2.2.2.2.2.2.2.2.2.2.2.2.2.2.2.2.2.2.2.2.2.2.2.2.2.2.2.2.1 z.2.2.1 z.2.2.2.1 z.2.2.2.2.1 z.2.2.2.2.2.1 z.2.2.2.2.2.2.1
abbrev X13_33_3_0 : Type := (Unit × Unit × Unit × Int × Int × Unit) × DT12 × DT1 × DT4 × DT1 × DT7 × DT7 × Unit
abbrev Y13_33_3_0 : Type := (Unit × Unit × Unit) × DT12 × DT1 × DT4 × DT1 × DT7 × DT7 × Unit
abbrev Z13_33_3_0 : Type := Unit × DT24 × Unit
noncomputable def t13_33_3_0 (v1 v2 v3 v4 v5 v6 v7 v8 v9 v10 v11 v12 v13 : Int) (v14 : Bool) (v15 : Int) (v16 : DT1) (v17 : DT4) (v18 : DT1) (v19 v20 v21 v22 v23 v24 v25 v26 : Int) (v27 : Bool) (v28 v29 v30 v31 v32 v33 v34 v35 v36 v37 v38 : Int) (v39 : Bool) (v40 v41 v42 v43 : Int) (v44 : DT1) (v45 : DT4) (v46 : DT1) (v47 v48 v49 v50 v51 v52 v53 v54 v55 v56 v57 : Int) (v58 : Bool) (v59 v60 v61 v62 v63 v64 v65 v66 v67 : Int) (v68 : Bool) (v69 v70 v71 v72 : Int) (v73 : DT0) (v74 : DT1) (v75 : DT4) (v76 : DT1) (v77 v78 : DT7) : Option (R3 X13_33_3_0 Y13_33_3_0 Z13_33_3_0) :=
 cond (decide (v2 < v1)) (
  cond ((decide (0 ≤ v2)) && (decide (v2 < (v45.length : Int)))) (
   cond (decide ((Int.toNat v2) < v45.length)) (
    ((f68 v72 v73 (IntKind.wrap .i64 ((IntKind.wrap .i64 ((rd dT1 v45 (Int.toNat v2)).2.1 * 8)) + (rd dT1 v45 (Int.toNat v2)).2.2.1)) (IntKind.wrap .i64 ((rd dT1 v45 (Int.toNat v2)).2.2.2.2 + v56)))).bind fun y79 =>
    some (R3.next (((), (), (), v1, (IntKind.wrap .i64 (v2 + 1)), ()), ((v3, v4, v5, v6, v7, v8, v9, v10, v11, v12, v13, v14, v15, v16, v17, v18, ()), (v19, v20, v21, v22, v23, v24, v25, v26, v27, ()), (v28, v29, v30, v31, v32, v33, v34, v35, v36, v37, v38, v39, v40, (), (), (), ()), ((), ()), (v41, v42, v43, ()), ((), (), (), (), (), (), (), (), (), ()), v44, v45, v46, (v47, v48, v49, v50, v51, v52, v53, v54, v55, v56, v57, v58, v59, (), (), (), v60, v61, v62, v63, v64, v65, v66, v67, v68, (), v69, v70, v71, ()), (y79.1.1, y79.1.2, ()), ()), v74, v75, v76, v77, v78, ()))) (
    none)) (
   none)) (
  some (R3.out (((), (), ()), ((v3, v4, v5, v6, v7, v8, v9, v10, v11, v12, v13, v14, v15, v16, v17, v18, ()), (v19, v20, v21, v22, v23, v24, v25, v26, v27, ()), (v28, v29, v30, v31, v32, v33, v34, v35, v36, v37, v38, v39, v40, (), (), (), ()), ((), ()), (v41, v42, v43, ()), ((), (), (), (), (), (), (), (), (), ()), v44, v45, v46, (v47, v48, v49, v50, v51, v52, v53, v54, v55, v56, v57, v58, v59, (), (), (), v60, v61, v62, v63, v64, v65, v66, v67, v68, (), v69, v70, v71, ()), (v72, v73, ()), ()), v74, v75, v76, v77, v78, ())))
noncomputable def u13_33_3_0 (z : X13_33_3_0) : Option (R3 X13_33_3_0 Y13_33_3_0 Z13_33_3_0) := t13_33_3_0 z.1.2.2.2.1 z.1.2.2.2.2.1 z.2.1.1.1 z.2.1.1.2.1 z.2.1.1.2.2.1 z.2.1.1.2.2.2.1 z.2.1.1.2.2.2.2.1 z.2.1.1.2.2.2.2.2.1 z.2.1.1.2.2.2.2.2.2.1 z.2.1.1.2.2.2.2.2.2.2.1 z.2.1.1.2.2.2.2.2.2.2.2.1 z.2.1.1.2.2.2.2.2.2.2.2.2.1 z.2.1.1.2.2.2.2.2.2.2.2.2.2.1 z.2.1.1.2.2.2.2.2.2.2.2.2.2.2.1 z.2.1.1.2.2.2.2.2.2.2.2.2.2.2.2.1 z.2.1.1.2.2.2.2.2.2.2.2.2.2.2.2.2.1 z.2.1.1.2.2.2.2.2.2.2.2.2.2.2.2.2.2.1 z.2.1.1.2.2.2.2.2.2.2.2.2.2.2.2.2.2.2.1 z.2.1.2.1.1 z.2.1.2.1.2.1 z.2.1.2.1.2.2.1 z.2.1.2.1.2.2.2.1 z.2.1.2.1.2.2.2.2.1 z.2.1.2.1.2.2.2.2.2.1 z.2.1.2.1.2.2.2.2.2.2.1 z.2.1.2.1.2.2.2.2.2.2.2.1 z.2.1.2.1.2.2.2.2.2.2.2.2.1 z.2.1.2.2.1.1 z.2.1.2.2.1.2.1 z.2.1.2.2.1.2.2.1 z.2.1.2.2.1.2.2.2.1 z.2.1.2.2.1.2.2.2.2.1 z.2.1.2.2.1.2.2.2.2.2.1 z.2.1.2.2.1.2.2.2.2.2.2.1 z.2.1.2.2.1.2.2.2.2.2.2.2.1 z.2.1.2.2.1.2.2.2.2.2.2.2.2.1 z.2.1.2.2.1.2.2.2.2.2.2.2.2.2.1 z.2.1.2.2.1.2.2.2.2.2.2.2.2.2.2.1 z.2.1.2.2.1.2.2.2.2.2.2.2.2.2.2.2.1 z.2.1.2.2.1.2.2.2.2.2.2.2.2.2.2.2.2.1 z.2.1.2.2.2.2.1.1 z.2.1.2.2.2.2.1.2.1 z.2.1.2.2.2.2.1.2.2.1 z.2.1.2.2.2.2.2.2.1 z.2.1.2.2.2.2.2.2.2.1 z.2.1.2.2.2.2.2.2.2.2.1 z.2.1.2.2.2.2.2.2.2.2.2.1.1 z.2.1.2.2.2.2.2.2.2.2.2.1.2.1 z.2.1.2.2.2.2.2.2.2.2.2.1.2.2.1 z.2.1.2.2.2.2.2.2.2.2.2.1.2.2.2.1 z.2.1.2.2.2.2.2.2.2.2.2.1.2.2.2.2.1 z.2.1.2.2.2.2.2.2.2.2.2.1.2.2.2.2.2.1 z.2.1.2.2.2.2.2.2.2.2.2.1.2.2.2.2.2.2.1 z.2.1.2.2.2.2.2.2.2.2.2.1.2.2.2.2.2.2.2.1 z.2.1.2.2.2.2.2.2.2.2.2.1.2.2.2.2.2.2.2.2.1 z.2.1.2.2.2.2.2.2.2.2.2.1.2.2.2.2.2.2.2.2.2.1 z.2.1.2.2.2.2.2.2.2.2.2.1.2.2.2.2.2.2.2.2.2.2.1 z.2.1.2.2.2.2.2.2.2.2.2.1.2.2.2.2.2.2.2.2.2.2.2.1 z.2.1.2.2.2.2.2.2.2.2.2.1.2.2.2.2.2.2.2.2.2.2.2.2.1 z.2.1.2.2.2.2.2.2.2.2.2.1.2.2.2.2.2.2.2.2.2.2.2.2.2.2.2.2.1 z.2.1.2.2.2.2.2.2.2.2.2.1.2.2.2.2.2.2.2.2.2.2.2.2.2.2.2.2.2.1 z.2.1.2.2.2.2.2.2.2.2.2.1.2.2.2.2.2.2.2.2.2.2.2.2.2.2.2.2.2.2.1 z.2.1.2.2.2.2.2.2.2.2.2.1.2.2.2.2.2.2.2.2.2.2.2.2.2.2.2.2.2.2.2.1 z.2.1.2.2.2.2.2.2.2.2.2.1.2.2.2.2.2.2.2.2.2.2.2.2.2.2.2.2.2.2.2.2.1 z.2.1.2.2.2.2.2.2.2.2.2.1.2.2.2.2.2.2.2.2.2.2.2.2.2.2.2.2.2.2.2.2.2.1 z.2.1.2.2.2.2.2.2.2.2.2.1.2.2.2.2.2.2.2.2.2.2.2.2.2.2.2.2.2.2.2.2.2.2.1 z.2.1.2.2.2.2.2.2.2.2.2.1.2.2.2.2.2.2.2.2.2.2.2.2.2.2.2.2.2.2.2.2.2.2.2.1 z.2.1.2.2.2.2.2.2.2.2.2.1.2.2.2.2.2.2.2.2.2.2.2.2.2.2.2.2.2.2.2.2.2.2.2.2.1 z.2.1.2.2.2.2.2.2.2.2.2.1.2.2.2.2.2.2.2.2.2.2.2.2.2.2.2.2.2.2.2.2.2.2.2.2.2.2.1 z.2.1.2.2.2.2.2.2.2.2.2.1.2.2.2.2.2.2.2.2.2.2.2.2.2.2.2.2.2.2.2.2.2.2.2.2.2.2.2.1 z.2.1.2.2.2.2.2.2.2.2.2.1.2.2.2.2.2.2.2.2.2.2.2.2.2.2.2.2.2.2.2.2.2.2.2.2.2.2.2.2.1 z.2.1.2.2.2.2.2.2.2.2.2.2.1.1 z.2.1.2.2.2.2.2.2.2.2.2.2.1.2.1 z.2.2.1 z.2.2.2.1 z.2.2.2.2.1 z.2.2.2.2.2.1 z.2.2.2.2.2.2.1
abbrev X13_33_10_0 : Type := (Unit × DT0 × DT0 × Int × Int × Unit) × DT6 × DT1 × DT4 × DT1 × DT7 × DT1 × DT4 × DT1 × DT7 × Unit
abbrev Y13_33_10_0 : Type := (Unit × DT0 × Unit) × DT6 × DT1 × DT4 × DT1 × DT7 × DT1 × DT4 × DT1 × DT7 × Unit
abbrev Z13_33_10_0 : Type := Unit × DT24 × Unit
noncomputable def t13_33_10_0 (v1 v2 : DT0) (v3 v4 v5 v6 v7 v8 v9 v10 v11 v12 v13 v14 v15 : Int) (v16 : Bool) (v17 : Int) (v18 : DT1) (v19 : DT4) (v20 : DT1) (v21 v22 v23 v24 v25 v26 v27 v28 : Int) (v29 : Bool) (v30 v31 v32 v33 v34 v35 v36 v37 v38 v39 v40 : Int) (v41 : Bool) (v42 v43 v44 v45 : Int) (v46 : DT1) (v47 : DT4) (v48 : DT1) (v49 v50 v51 v52 v53 v54 v55 v56 v57 v58 v59 : Int) (v60 : Bool) (v61 v62 v63 v64 v65 v66 v67 v68 v69 : Int) (v70 : Bool) (v71 v72 v73 : Int) (v74 : DT1) (v75 : DT4) (v76 : DT1) (v77 : DT7) (v78 : DT1) (v79 : DT4) (v80 : DT1) (v81 : DT7) : Option (R3 X13_33_10_0 Y13_33_10_0 Z13_33_10_0) :=
 cond (decide (v4 < v3)) (
  cond ((decide (0 ≤ v4)) && (decide (v4 < (v2.length : Int)))) (
   ((f22 v79 (IntKind.wrap .i64 (Int.tdiv (rd dT0 v2 (Int.toNat v4)).1 8)) (Int.tmod (rd dT0 v2 (Int.toNat v4)).1 8))).bind fun y82 =>
   cond ((decide (0 ≤ y82.1)) && (decide (y82.1 < (v79.length : Int)))) (
    cond (decide ((Int.toNat y82.1) < v79.length)) (
     ((f24 v79 (rd dT1 v79 (Int.toNat y82.1)).2.1 (rd dT1 v79 (Int.toNat y82.1)).2.2.1)).bind fun y83 =>
     cond (decide (0 < v59)) (
      ((f103 v80 (rd dT1 v79 (Int.toNat y82.1)).2.1 (rd dT1 v79 (Int.toNat y82.1)).2.2.1 (IntKind.wrap .i64 ((rd dT0 v2 (Int.toNat v4)).2 + v59)))).bind fun y84 =>
      cond ((decide (((v81.length + 1) * 72) ≤ 140737488355328)) && (decide ((v81.length + 1) ≤ 9223372036854775807))) (
       some (R3.next (((), v1, v2, v3, (IntKind.wrap .i64 (v4 + 1)), ()), ((v5, v6, v7, v8, v9, v10, v11, v12, v13, v14, v15, v16, v17, v18, v19, v20, ()), (v21, v22, v23, v24, v25, v26, v27, v28, v29, ()), (v30, v31, v32, v33, v34, v35, v36, v37, v38, v39, v40, v41, v42, (), (), (), ()), ((), ()), (v43, v44, v45, ()), ((), (), (), (), (), (), (), (), (), ()), v46, v47, v48, (v49, v50, v51, v52, v53, v54, v55, v56, v57, v58, v59, v60, v61, (), (), (), v62, v63, v64, v65, v66, v67, v68, v69, v70, (), v71, v72, v73, ()), ()), v74, v75, v76, v77, v78, y83.1, y84.1, (v81 ++ [(1, (rd dT0 v2 (Int.toNat v4)).2, (rd dT1 v79 (Int.toNat y82.1)).1, (rd dT1 v79 (Int.toNat y82.1)).2.1, (rd dT1 v79 (Int.toNat y82.1)).2.2.1, 0, 0, 0, false)]), ()))) (
       none)) (
      cond ((decide (((v81.length + 1) * 72) ≤ 140737488355328)) && (decide ((v81.length + 1) ≤ 9223372036854775807))) (
       some (R3.next (((), v1, v2, v3, (IntKind.wrap .i64 (v4 + 1)), ()), ((v5, v6, v7, v8, v9, v10, v11, v12, v13, v14, v15, v16, v17, v18, v19, v20, ()), (v21, v22, v23, v24, v25, v26, v27, v28, v29, ()), (v30, v31, v32, v33, v34, v35, v36, v37, v38, v39, v40, v41, v42, (), (), (), ()), ((), ()), (v43, v44, v45, ()), ((), (), (), (), (), (), (), (), (), ()), v46, v47, v48, (v49, v50, v51, v52, v53, v54, v55, v56, v57, v58, v59, v60, v61, (), (), (), v62, v63, v64, v65, v66, v67, v68, v69, v70, (), v71, v72, v73, ()), ()), v74, v75, v76, v77, v78, y83.1, v80, (v81 ++ [(1, (rd dT0 v2 (Int.toNat v4)).2, (rd dT1 v79 (Int.toNat y82.1)).1, (rd dT1 v79 (Int.toNat y82.1)).2.1, (rd dT1 v79 (Int.toNat y82.1)).2.2.1, 0, 0, 0, false)]), ()))) (
       none))) (
     none)) (
    none)) (
   none)) (
  some (R3.out (((), v1, ()), ((v5, v6, v7, v8, v9, v10, v11, v12, v13, v14, v15, v16, v17, v18, v19, v20, ()), (v21, v22, v23, v24, v25, v26, v27, v28, v29, ()), (v30, v31, v32, v33, v34, v35, v36, v37, v38, v39, v40, v41, v42, (), (), (), ()), ((), ()), (v43, v44, v45, ()), ((), (), (), (), (), (), (), (), (), ()), v46, v47, v48, (v49, v50, v51, v52, v53, v54, v55, v56, v57, v58, v59, v60, v61, (), (), (), v62, v63, v64, v65, v66, v67, v68, v69, v70, (), v71, v72, v73, ()), ()), v74, v75, v76, v77, v78, v79, v80, v81, ())))
noncomputable def u13_33_10_0 (z : X13_33_10_0) : Option (R3 X13_33_10_0 Y13_33_10_0 Z13_33_10_0) := t13_33_10_0 z.1.2.1 z.1.2.2.1 z.1.2.2.2.1 z.1.2.2.2.2.1 z.2.1.1.1 z.2.1.1.2.1 z.2.1.1.2.2.1 z.2.1.1.2.2.2.1 z.2.1.1.2.2.2.2.1 z.2.1.1.2.2.2.2.2.1 z.2.1.1.2.2.2.2.2.2.1 z.2.1.1.2.2.2.2.2.2.2.1 z.2.1.1.2.2.2.2.2.2.2.2.1 z.2.1.1.2.2.2.2.2.2.2.2.2.1 z.2.1.1.2.2.2.2.2.2.2.2.2.2.1 z.2.1.1.2.2.2.2.2.2.2.2.2.2.2.1 z.2.1.1.2.2.2.2.2.2.2.2.2.2.2.2.1 z.2.1.1.2.2.2.2.2.2.2.2.2.2.2.2.2.1 z.2.1.1.2.2.2.2.2.2.2.2.2.2.2.2.2.2.1 z.2.1.1.2.2.2.2.2.2.2.2.2.2.2.2.2.2.2.1 z.2.1.2.1.1 z.2.1.2.1.2.1 z.2.1.2.1.2.2.1 z.2.1.2.1.2.2.2.1 z.2.1.2.1.2.2.2.2.1 z.2.1.2.1.2.2.2.2.2.1 z.2.1.2.1.2.2.2.2.2.2.1 z.2.1.2.1.2.2.2.2.2.2.2.1 z.2.1.2.1.2.2.2.2.2.2.2.2.1 z.2.1.2.2.1.1 z.2.1.2.2.1.2.1 z.2.1.2.2.1.2.2.1 z.2.1.2.2.1.2.2.2.1 z.2.1.2.2.1.2.2.2.2.1 z.2.1.2.2.1.2.2.2.2.2.1 z.2.1.2.2.1.2.2.2.2.2.2.1 z.2.1.2.2.1.2.2.2.2.2.2.2.1 z.2.1.2.2.1.2.2.2.2.2.2.2.2.1 z.2.1.2.2.1.2.2.2.2.2.2.2.2.2.1 z.2.1.2.2.1.2.2.2.2.2.2.2.2.2.2.1 z.2.1.2.2.1.2.2.2.2.2.2.2.2.2.2.2.1 z.2.1.2.2.1.2.2.2.2.2.2.2.2.2.2.2.2.1 z.2.1.2.2.2.2.1.1 z.2.1.2.2.2.2.1.2.1 z.2.1.2.2.2.2.1.2.2.1 z.2.1.2.2.2.2.2.2.1 z.2.1.2.2.2.2.2.2.2.1 z.2.1.2.2.2.2.2.2.2.2.1 z.2.1.2.2.2.2.2.2.2.2.2.1.1 z.2.1.2.2.2.2.2.2.2.2.2.1.2.1 z.2.1.2.2.2.2.2.2.2.2.2.1.2.2.1 z.2.1.2.2.2.2.2.2.2.2.2.1.2.2.2.1 z.2.1.2.2.2.2.2.2.2.2.2.1.2.2.2.2.1 z.2.1.2.2.2.2.2.2.2.2.2.1.2.2.2.2.2.1 z.2.1.2.2.2.2.2.2.2.2.2.1.2.2.2.2.2.2.1 z.2.1.2.2.2.2.2.2.2.2.2.1.2.2.2.2.2.2.2.1 z.2.1.2.2.2.2.2.2.2.2.2.1.2.2.2.2.2.2.2.2.1 z.2.1.2.2.2.2.2.2.2.2.2.1.2.2.2.2.2.2.2.2.2.1 z.2.1.2.2.2.2.2.2.2.2.2.1.2.2.2.2.2.2.2.2.2.2.1 z.2.1.2.2.2.2.2.2.2.2.2.1.2.2.2.2.2.2.2.2.2.2.2.1 z.2.1.2.2.2.2.2.2.2.2.2.1.2.2.2.2.2.2.2.2.2.2.2.2.1 z.2.1.2.2.2.2.2.2.2.2.2.1.2.2.2.2.2.2.2.2.2.2.2.2.2.2.2.2.1 z.2.1.2.2.2.2.2.2.2.2.2.1.2.2.2.2.2.2.2.2.2.2.2.2.2.2.2.2.2.1 z.2.1.2.2.2.2.2.2.2.2.2.1.2.2.2.2.2.2.2.2.2.2.2.2.2.2.2.2.2.2.1 z.2.1.2.2.2.2.2.2.2.2.2.1.2.2.2.2.2.2.2.2.2.2.2.2.2.2.2.2.2.2.2.1 z.2.1.2.2.2.2.2.2.2.2.2.1.2.2.2.2.2.2.2.2.2.2.2.2.2.2.2.2.2.2.2.2.1 z.2.1.2.2.2.2.2.2.2.2.2.1.2.2.2.2.2.2.2.2.2.2.2.2.2.2.2.2.2.2.2.2.2.1 z.2.1.2.2.2.2.2.2.2.2.2.1.2.2.2.2.2.2.2.2.2.2.2.2.2.2.2.2.2.2.2.2.2.2.1 z.2.1.2.2.2.2.2.2.2.2.2.1.2.2.2.2.2.2.2.2.2.2.2.2.2.2.2.2.2.2.2.2.2.2.2.1 z.2.1.2.2.2.2.2.2.2.2.2.1.2.2.2.2.2.2.2.2.2.2.2.2.2.2.2.2.2.2.2.2.2.2.2.2.1 z.2.1.2.2.2.2.2.2.2.2.2.1.2.2.2.2.2.2.2.2.2.2.2.2.2.2.2.2.2.2.2.2.2.2.2.2.2.2.1 z.2.1.2.2.2.2.2.2.2.2.2.1.2.2.2.2.2.2.2.2.2.2.2.2.2.2.2.2.2.2.2.2.2.2.2.2.2.2.2.1 z.2.1.2.2.2.2.2.2.2.2.2.1.2.2.2.2.2.2.2.2.2.2.2.2.2.2.2.2.2.2.2.2.2.2.2.2.2.2.2.2.1 z.2.2.1 z.2.2.2.1 z.2.2.2.2.1 z.2.2.2.2.2.1 z.2.2.2.2.2.2.1 z.2.2.2.2.2.2.2.1 z.2.2.2.2.2.2.2.2.1 z.2.2.2.2.2.2.2.2.2.1
noncomputable def f13 (v1 v2 v3 v4 v5 v6 v7 v8 v9 v10 v11 : Int) (v12 : Bool) (v13 : Int) (v14 : DT1) (v15 : DT4) (v16 : DT1) (v17 v18 v19 v20 v21 v22 v23 v24 : Int) (v25 : Bool) : Option (DT19 × DT7 × (Int × Int × Int) × Unit) :=
 ((f15 v1 v2 v3 v4 v5 v6 v7 v8 v9 v10 v11 v12 v13 v14 v15 v16)).bind fun y26 =>
 cond y26.1 (
  cond (decide (0 ≤ v17)) (
   cond (!(decide (v17 < 9))) (
    ((f40 v1 v2 v3 v4 v5 v6 v7 v8 v9 v10 v11 v12 v13 v14 v15 v16)).bind fun y27 =>
    some ((((y27.1.1.1.1, y27.1.1.1.2), (y27.1.1.2.1.1, y27.1.1.2.1.2), y27.1.1.2.2.1, y27.1.1.2.2.2.1, y27.1.1.2.2.2.2.1, y27.1.1.2.2.2.2.2), (y27.1.2.1.1, y27.1.2.1.2.1, y27.1.2.1.2.2.1, y27.1.2.1.2.2.2), y27.1.2.2.1, y27.1.2.2.2.1, y27.1.2.2.2.2.1, y27.1.2.2.2.2.2), [], (1, 0, 0), ())) (
    ((f40 v1 v2 v3 v4 v5 v6 v7 v8 v9 v10 v11 v12 v13 v14 v15 v16)).bind fun y28 =>
    cond (decide (v17 = 0)) (
     ((f19 y28.1.1.1.1 y28.1.1.1.2 y28.1.1.2.1.1 y28.1.1.2.1.2 y28.1.1.2.2.1 y28.1.1.2.2.2.1 y28.1.1.2.2.2.2.1 y28.1.1.2.2.2.2.2 v18)).bind fun y29 =>
     cond (!y29.2.1) (
      ((f40 v1 v2 v3 v4 v5 v6 v7 v8 v9 v10 v11 v12 v13 v14 v15 v16)).bind fun y30 =>
      some ((((y30.1.1.1.1, y30.1.1.1.2), (y30.1.1.2.1.1, y30.1.1.2.1.2), y30.1.1.2.2.1, y30.1.1.2.2.2.1, y30.1.1.2.2.2.2.1, y30.1.1.2.2.2.2.2), (y30.1.2.1.1, y30.1.2.1.2.1, y30.1.2.1.2.2.1, y30.1.2.1.2.2.2), y30.1.2.2.1, y30.1.2.2.2.1, y30.1.2.2.2.2.1, y30.1.2.2.2.2.2), [], (5, 0, 0), ())) (
      ((f21 y28.1.2.2.2.2.1 v18)).bind fun y31 =>
      cond (!(decide ((y31.1.length : Int) < y28.1.2.1.1))) (
       ((f40 v1 v2 v3 v4 v5 v6 v7 v8 v9 v10 v11 v12 v13 v14 v15 v16)).bind fun y32 =>
       some ((((y32.1.1.1.1, y32.1.1.1.2), (y32.1.1.2.1.1, y32.1.1.2.1.2), y32.1.1.2.2.1, y32.1.1.2.2.2.1, y32.1.1.2.2.2.2.1, y32.1.1.2.2.2.2.2), (y32.1.2.1.1, y32.1.2.1.2.1, y32.1.2.1.2.2.1, y32.1.2.1.2.2.2), y32.1.2.2.1, y32.1.2.2.2.1, y32.1.2.2.2.2.1, y32.1.2.2.2.2.2), [], (6, 0, 0), ())) (
       ((f46 y28.1.1.1.1 y28.1.1.1.2 y28.1.1.2.1.1 y28.1.1.2.1.2 y28.1.1.2.2.1 y28.1.1.2.2.2.1 y28.1.1.2.2.2.2.1 y28.1.1.2.2.2.2.2 y28.1.2.1.1 y28.1.2.1.2.1 y28.1.2.1.2.2.1 y28.1.2.1.2.2.2 y28.1.2.2.1 y28.1.2.2.2.1 y28.1.2.2.2.2.1 y28.1.2.2.2.2.2)).bind fun y33 =>
       cond y28.1.2.1.2.2.2 (
        ((f20 y28.1.2.2.2.1 y29.1.1)).bind fun y34 =>
        cond (!(!(decide (y34.1 = (-1))))) (
         ((f40 v1 v2 v3 v4 v5 v6 v7 v8 v9 v10 v11 v12 v13 v14 v15 v16)).bind fun y35 =>
         some ((((y35.1.1.1.1, y35.1.1.1.2), (y35.1.1.2.1.1, y35.1.1.2.1.2), y35.1.1.2.2.1, y35.1.1.2.2.2.1, y35.1.1.2.2.2.2.1, y35.1.1.2.2.2.2.2), (y35.1.2.1.1, y35.1.2.1.2.1, y35.1.2.1.2.2.1, y35.1.2.1.2.2.2), y35.1.2.2.1, y35.1.2.2.2.1, y35.1.2.2.2.2.1, y35.1.2.2.2.2.2), [], (7, 0, 0), ())) (
         ((f23 y28.1.2.2.2.1 y29.1.1)).bind fun y36 =>
         cond (!y36.1) (
          ((f40 v1 v2 v3 v4 v5 v6 v7 v8 v9 v10 v11 v12 v13 v14 v15 v16)).bind fun y37 =>
          some ((((y37.1.1.1.1, y37.1.1.1.2), (y37.1.1.2.1.1, y37.1.1.2.1.2), y37.1.1.2.2.1, y37.1.1.2.2.2.1, y37.1.1.2.2.2.2.1, y37.1.1.2.2.2.2.2), (y37.1.2.1.1, y37.1.2.1.2.1, y37.1.2.1.2.2.1, y37.1.2.1.2.2.2), y37.1.2.2.1, y37.1.2.2.2.1, y37.1.2.2.2.2.1, y37.1.2.2.2.2.2), [], (8, 0, 0), ())) (
          ((iter big u13_30_8_0 (((), y29.1.1, (IntKind.wrap .i64 (y29.1.1 + 1)), ()), ((v1, v2, v3, v4, v5, v6, v7, v8, v9, v10, v11, v12, v13, v14, v15, v16, ()), (v17, v18, v19, v20, v21, v22, v23, v24, v25, ()), (0, 0, 0, 0, 0, 0, 0, 0, 0, 0, 0, false, 0, (), (), (), ()), ((), ()), (0, 0, 0, ()), ((), (), (), (), (), (), (), (), (), ()), y28.1.2.2.2.1, y28.1.2.2.2.2.1, y28.1.2.2.2.2.2, (y28.1.1.1.1, y28.1.1.1.2, y28.1.1.2.1.1, y28.1.1.2.1.2, y28.1.1.2.2.1, y28.1.1.2.2.2.1, y28.1.1.2.2.2.2.1, y28.1.1.2.2.2.2.2, y28.1.2.1.1, y28.1.2.1.2.1, y28.1.2.1.2.2.1, y28.1.2.1.2.2.2, y28.1.2.2.1, (), (), (), v17, v18, v19, v20, v21, v22, v23, v24, v25, (), 0, 0, 0, ()), ()), [], [], [], [], [], ()))).bind fun r => match r with
          | .inl y38 =>
            cond (!(decide (y38.1.2.1 < y38.1.2.2.1))) (
             ((f40 y38.2.1.1.1 y38.2.1.1.2.1 y38.2.1.1.2.2.1 y38.2.1.1.2.2.2.1 y38.2.1.1.2.2.2.2.1 y38.2.1.1.2.2.2.2.2.1 y38.2.1.1.2.2.2.2.2.2.1 y38.2.1.1.2.2.2.2.2.2.2.1 y38.2.1.1.2.2.2.2.2.2.2.2.1 y38.2.1.1.2.2.2.2.2.2.2.2.2.1 y38.2.1.1.2.2.2.2.2.2.2.2.2.2.1 y38.2.1.1.2.2.2.2.2.2.2.2.2.2.2.1 y38.2.1.1.2.2.2.2.2.2.2.2.2.2.2.2.1 y38.2.1.1.2.2.2.2.2.2.2.2.2.2.2.2.2.1 y38.2.1.1.2.2.2.2.2.2.2.2.2.2.2.2.2.2.1 y38.2.1.1.2.2.2.2.2.2.2.2.2.2.2.2.2.2.2.1)).bind fun y40 =>
             some ((((y40.1.1.1.1, y40.1.1.1.2), (y40.1.1.2.1.1, y40.1.1.2.1.2), y40.1.1.2.2.1, y40.1.1.2.2.2.1, y40.1.1.2.2.2.2.1, y40.1.1.2.2.2.2.2), (y40.1.2.1.1, y40.1.2.1.2.1, y40.1.2.1.2.2.1, y40.1.2.1.2.2.2), y40.1.2.2.1, y40.1.2.2.2.1, y40.1.2.2.2.2.1, y40.1.2.2.2.2.2), [], (7, 0, 0), ())) (
             ((f23 y38.2.1.2.2.2.2.2.2.1 y38.1.2.1)).bind fun y41 =>
             cond (!y41.1) (
              ((f63 y38.2.1.2.2.2.2.2.2.2.1 y38.2.1.2.2.2.2.2.2.2.2.2.1.2.2.2.2.2.2.2.2.2.2.2.2.2.2.2.2.2.1 y38.1.2.1 (-1) y38.2.1.2.2.2.2.2.2.2.2.2.1.2.2.2.2.2.2.2.2.2.2.2.2.1 y38.2.1.2.2.2.2.2.2.2.2.2.1.2.2.2.2.2.2.2.2.2.2.2.2.1)).bind fun y42 =>
              cond ((decide (((y38.2.2.2.2.2.2.1.length + 1) * 72) ≤ 140737488355328)) && (decide ((y38.2.2.2.2.2.2.1.length + 1) ≤ 9223372036854775807))) (
               some ((((y38.2.1.2.2.2.2.2.2.2.2.2.1.1, y38.2.1.2.2.2.2.2.2.2.2.2.1.2.1), (y38.2.1.2.2.2.2.2.2.2.2.2.1.2.2.1, y38.2.1.2.2.2.2.2.2.2.2.2.1.2.2.2.1), y38.2.1.2.2.2.2.2.2.2.2.2.1.2.2.2.2.1, y38.2.1.2.2.2.2.2.2.2.2.2.1.2.2.2.2.2.1, y38.2.1.2.2.2.2.2.2.2.2.2.1.2.2.2.2.2.2.1, y38.2.1.2.2.2.2.2.2.2.2.2.1.2.2.2.2.2.2.2.1), (y38.2.1.2.2.2.2.2.2.2.2.2.1.2.2.2.2.2.2.2.2.1, y38.2.1.2.2.2.2.2.2.2.2.2.1.2.2.2.2.2.2.2.2.2.1, y38.2.1.2.2.2.2.2.2.2.2.2.1.2.2.2.2.2.2.2.2.2.2.1, y38.2.1.2.2.2.2.2.2.2.2.2.1.2.2.2.2.2.2.2.2.2.2.2.1), y38.2.1.2.2.2.2.2.2.2.2.2.1.2.2.2.2.2.2.2.2.2.2.2.2.1, y38.2.1.2.2.2.2.2.2.1, y42.1, y38.2.1.2.2.2.2.2.2.2.2.1), (y38.2.2.2.2.2.2.1 ++ [(0, y38.2.1.2.2.2.2.2.2.2.2.2.1.2.2.2.2.2.2.2.2.2.2.2.2.1, y38.2.1.2.2.2.2.2.2.2.2.2.1.2.2.2.2.2.2.2.2.2.2.2.2.2.2.2.2.2.1, y38.1.2.1, (-1), 0, 0, 0, false)]), (0, y38.1.2.1, (-1)), ())) (
               none)) (
              ((f100 y38.2.1.2.2.2.2.2.2.2.2.2.1.1 y38.2.1.2.2.2.2.2.2.2.2.2.1.2.1 y38.2.1.2.2.2.2.2.2.2.2.2.1.2.2.1 y38.2.1.2.2.2.2.2.2.2.2.2.1.2.2.2.1 y38.2.1.2.2.2.2.2.2.2.2.2.1.2.2.2.2.1 y38.2.1.2.2.2.2.2.2.2.2.2.1.2.2.2.2.2.1 y38.2.1.2.2.2.2.2.2.2.2.2.1.2.2.2.2.2.2.1 y38.2.1.2.2.2.2.2.2.2.2.2.1.2.2.2.2.2.2.2.1 y38.2.1.2.2.2.2.2.2.2.1 y38.2.1.2.2.2.2.2.2.2.2.1 y38.1.2.1)).bind fun y43 =>
              ((f99 y43.1.1 y43.1.2)).bind fun y44 =>
              ((f63 y38.2.1.2.2.2.2.2.2.2.1 y38.2.1.2.2.2.2.2.2.2.2.2.1.2.2.2.2.2.2.2.2.2.2.2.2.2.2.2.2.2.1 y38.1.2.1 y44.1 y38.2.1.2.2.2.2.2.2.2.2.2.1.2.2.2.2.2.2.2.2.2.2.2.2.1 y38.2.1.2.2.2.2.2.2.2.2.2.1.2.2.2.2.2.2.2.2.2.2.2.2.1)).bind fun y45 =>
              cond ((decide (((y38.2.2.2.2.2.2.1.length + 1) * 72) ≤ 140737488355328)) && (decide ((y38.2.2.2.2.2.2.1.length + 1) ≤ 9223372036854775807))) (
               some ((((y38.2.1.2.2.2.2.2.2.2.2.2.1.1, y38.2.1.2.2.2.2.2.2.2.2.2.1.2.1), (y38.2.1.2.2.2.2.2.2.2.2.2.1.2.2.1, y38.2.1.2.2.2.2.2.2.2.2.2.1.2.2.2.1), y38.2.1.2.2.2.2.2.2.2.2.2.1.2.2.2.2.1, y38.2.1.2.2.2.2.2.2.2.2.2.1.2.2.2.2.2.1, y38.2.1.2.2.2.2.2.2.2.2.2.1.2.2.2.2.2.2.1, y38.2.1.2.2.2.2.2.2.2.2.2.1.2.2.2.2.2.2.2.1), (y38.2.1.2.2.2.2.2.2.2.2.2.1.2.2.2.2.2.2.2.2.1, y38.2.1.2.2.2.2.2.2.2.2.2.1.2.2.2.2.2.2.2.2.2.1, y38.2.1.2.2.2.2.2.2.2.2.2.1.2.2.2.2.2.2.2.2.2.2.1, y38.2.1.2.2.2.2.2.2.2.2.2.1.2.2.2.2.2.2.2.2.2.2.2.1), y38.2.1.2.2.2.2.2.2.2.2.2.1.2.2.2.2.2.2.2.2.2.2.2.2.1, y38.2.1.2.2.2.2.2.2.1, y45.1, y38.2.1.2.2.2.2.2.2.2.2.1), (y38.2.2.2.2.2.2.1 ++ [(0, y38.2.1.2.2.2.2.2.2.2.2.2.1.2.2.2.2.2.2.2.2.2.2.2.2.1, y38.2.1.2.2.2.2.2.2.2.2.2.1.2.2.2.2.2.2.2.2.2.2.2.2.2.2.2.2.2.1, y38.1.2.1, y44.1, 0, 0, 0, false)]), (0, y38.1.2.1, y44.1), ())) (
               none)))
          | .inr z39 =>
            none))) (
        ((iter big u13_30_8_0 (((), 0, y33.1, ()), ((v1, v2, v3, v4, v5, v6, v7, v8, v9, v10, v11, v12, v13, v14, v15, v16, ()), (v17, v18, v19, v20, v21, v22, v23, v24, v25, ()), (0, 0, 0, 0, 0, 0, 0, 0, 0, 0, 0, false, 0, (), (), (), ()), ((), ()), (0, 0, 0, ()), ((), (), (), (), (), (), (), (), (), ()), y28.1.2.2.2.1, y28.1.2.2.2.2.1, y28.1.2.2.2.2.2, (y28.1.1.1.1, y28.1.1.1.2, y28.1.1.2.1.1, y28.1.1.2.1.2, y28.1.1.2.2.1, y28.1.1.2.2.2.1, y28.1.1.2.2.2.2.1, y28.1.1.2.2.2.2.2, y28.1.2.1.1, y28.1.2.1.2.1, y28.1.2.1.2.2.1, y28.1.2.1.2.2.2, y28.1.2.2.1, (), (), (), v17, v18, v19, v20, v21, v22, v23, v24, v25, (), 0, 0, 0, ()), ()), [], [], [], [], [], ()))).bind fun r => match r with
        | .inl y46 =>
          cond (!(decide (y46.1.2.1 < y46.1.2.2.1))) (
           ((f40 y46.2.1.1.1 y46.2.1.1.2.1 y46.2.1.1.2.2.1 y46.2.1.1.2.2.2.1 y46.2.1.1.2.2.2.2.1 y46.2.1.1.2.2.2.2.2.1 y46.2.1.1.2.2.2.2.2.2.1 y46.2.1.1.2.2.2.2.2.2.2.1 y46.2.1.1.2.2.2.2.2.2.2.2.1 y46.2.1.1.2.2.2.2.2.2.2.2.2.1 y46.2.1.1.2.2.2.2.2.2.2.2.2.2.1 y46.2.1.1.2.2.2.2.2.2.2.2.2.2.2.1 y46.2.1.1.2.2.2.2.2.2.2.2.2.2.2.2.1 y46.2.1.1.2.2.2.2.2.2.2.2.2.2.2.2.2.1 y46.2.1.1.2.2.2.2.2.2.2.2.2.2.2.2.2.2.1 y46.2.1.1.2.2.2.2.2.2.2.2.2.2.2.2.2.2.2.1)).bind fun y48 =>
           some ((((y48.1.1.1.1, y48.1.1.1.2), (y48.1.1.2.1.1, y48.1.1.2.1.2), y48.1.1.2.2.1, y48.1.1.2.2.2.1, y48.1.1.2.2.2.2.1, y48.1.1.2.2.2.2.2), (y48.1.2.1.1, y48.1.2.1.2.1, y48.1.2.1.2.2.1, y48.1.2.1.2.2.2), y48.1.2.2.1, y48.1.2.2.2.1, y48.1.2.2.2.2.1, y48.1.2.2.2.2.2), [], (7, 0, 0), ())) (
           ((f23 y46.2.1.2.2.2.2.2.2.1 y46.1.2.1)).bind fun y49 =>
           cond (!y49.1) (
            ((f63 y46.2.1.2.2.2.2.2.2.2.1 y46.2.1.2.2.2.2.2.2.2.2.2.1.2.2.2.2.2.2.2.2.2.2.2.2.2.2.2.2.2.1 y46.1.2.1 (-1) y46.2.1.2.2.2.2.2.2.2.2.2.1.2.2.2.2.2.2.2.2.2.2.2.2.1 y46.2.1.2.2.2.2.2.2.2.2.2.1.2.2.2.2.2.2.2.2.2.2.2.2.1)).bind fun y50 =>
            cond ((decide (((y46.2.2.2.2.2.2.1.length + 1) * 72) ≤ 140737488355328)) && (decide ((y46.2.2.2.2.2.2.1.length + 1) ≤ 9223372036854775807))) (
             some ((((y46.2.1.2.2.2.2.2.2.2.2.2.1.1, y46.2.1.2.2.2.2.2.2.2.2.2.1.2.1), (y46.2.1.2.2.2.2.2.2.2.2.2.1.2.2.1, y46.2.1.2.2.2.2.2.2.2.2.2.1.2.2.2.1), y46.2.1.2.2.2.2.2.2.2.2.2.1.2.2.2.2.1, y46.2.1.2.2.2.2.2.2.2.2.2.1.2.2.2.2.2.1, y46.2.1.2.2.2.2.2.2.2.2.2.1.2.2.2.2.2.2.1, y46.2.1.2.2.2.2.2.2.2.2.2.1.2.2.2.2.2.2.2.1), (y46.2.1.2.2.2.2.2.2.2.2.2.1.2.2.2.2.2.2.2.2.1, y46.2.1.2.2.2.2.2.2.2.2.2.1.2.2.2.2.2.2.2.2.2.1, y46.2.1.2.2.2.2.2.2.2.2.2.1.2.2.2.2.2.2.2.2.2.2.1, y46.2.1.2.2.2.2.2.2.2.2.2.1.2.2.2.2.2.2.2.2.2.2.2.1), y46.2.1.2.2.2.2.2.2.2.2.2.1.2.2.2.2.2.2.2.2.2.2.2.2.1, y46.2.1.2.2.2.2.2.2.1, y50.1, y46.2.1.2.2.2.2.2.2.2.2.1), (y46.2.2.2.2.2.2.1 ++ [(0, y46.2.1.2.2.2.2.2.2.2.2.2.1.2.2.2.2.2.2.2.2.2.2.2.2.1, y46.2.1.2.2.2.2.2.2.2.2.2.1.2.2.2.2.2.2.2.2.2.2.2.2.2.2.2.2.2.1, y46.1.2.1, (-1), 0, 0, 0, false)]), (0, y46.1.2.1, (-1)), ())) (
             none)) (
            ((f100 y46.2.1.2.2.2.2.2.2.2.2.2.1.1 y46.2.1.2.2.2.2.2.2.2.2.2.1.2.1 y46.2.1.2.2.2.2.2.2.2.2.2.1.2.2.1 y46.2.1.2.2.2.2.2.2.2.2.2.1.2.2.2.1 y46.2.1.2.2.2.2.2.2.2.2.2.1.2.2.2.2.1 y46.2.1.2.2.2.2.2.2.2.2.2.1.2.2.2.2.2.1 y46.2.1.2.2.2.2.2.2.2.2.2.1.2.2.2.2.2.2.1 y46.2.1.2.2.2.2.2.2.2.2.2.1.2.2.2.2.2.2.2.1 y46.2.1.2.2.2.2.2.2.2.1 y46.2.1.2.2.2.2.2.2.2.2.1 y46.1.2.1)).bind fun y51 =>
            ((f99 y51.1.1 y51.1.2)).bind fun y52 =>
            ((f63 y46.2.1.2.2.2.2.2.2.2.1 y46.2.1.2.2.2.2.2.2.2.2.2.1.2.2.2.2.2.2.2.2.2.2.2.2.2.2.2.2.2.1 y46.1.2.1 y52.1 y46.2.1.2.2.2.2.2.2.2.2.2.1.2.2.2.2.2.2.2.2.2.2.2.2.1 y46.2.1.2.2.2.2.2.2.2.2.2.1.2.2.2.2.2.2.2.2.2.2.2.2.1)).bind fun y53 =>
            cond ((decide (((y46.2.2.2.2.2.2.1.length + 1) * 72) ≤ 140737488355328)) && (decide ((y46.2.2.2.2.2.2.1.length + 1) ≤ 9223372036854775807))) (
             some ((((y46.2.1.2.2.2.2.2.2.2.2.2.1.1, y46.2.1.2.2.2.2.2.2.2.2.2.1.2.1), (y46.2.1.2.2.2.2.2.2.2.2.2.1.2.2.1, y46.2.1.2.2.2.2.2.2.2.2.2.1.2.2.2.1), y46.2.1.2.2.2.2.2.2.2.2.2.1.2.2.2.2.1, y46.2.1.2.2.2.2.2.2.2.2.2.1.2.2.2.2.2.1, y46.2.1.2.2.2.2.2.2.2.2.2.1.2.2.2.2.2.2.1, y46.2.1.2.2.2.2.2.2.2.2.2.1.2.2.2.2.2.2.2.1), (y46.2.1.2.2.2.2.2.2.2.2.2.1.2.2.2.2.2.2.2.2.1, y46.2.1.2.2.2.2.2.2.2.2.2.1.2.2.2.2.2.2.2.2.2.1, y46.2.1.2.2.2.2.2.2.2.2.2.1.2.2.2.2.2.2.2.2.2.2.1, y46.2.1.2.2.2.2.2.2.2.2.2.1.2.2.2.2.2.2.2.2.2.2.2.1), y46.2.1.2.2.2.2.2.2.2.2.2.1.2.2.2.2.2.2.2.2.2.2.2.2.1, y46.2.1.2.2.2.2.2.2.1, y53.1, y46.2.1.2.2.2.2.2.2.2.2.1), (y46.2.2.2.2.2.2.1 ++ [(0, y46.2.1.2.2.2.2.2.2.2.2.2.1.2.2.2.2.2.2.2.2.2.2.2.2.1, y46.2.1.2.2.2.2.2.2.2.2.2.1.2.2.2.2.2.2.2.2.2.2.2.2.2.2.2.2.2.1, y46.1.2.1, y52.1, 0, 0, 0, false)]), (0, y46.1.2.1, y52.1), ())) (
             none)))
        | .inr z47 =>
          none)))) (
     cond (decide (v17 = 1)) (
      ((f22 y28.1.2.2.2.2.1 v19 v20)).bind fun y54 =>
      cond (!(decide (y54.1 = (-1)))) (
       cond ((decide (0 ≤ y54.1)) && (decide (y54.1 < (y28.1.2.2.2.2.1.length : Int)))) (
        cond (decide ((Int.toNat y54.1) < y28.1.2.2.2.2.1.length)) (
         cond (!(decide ((rd dT1 y28.1.2.2.2.2.1 (Int.toNat y54.1)).1 = v18))) (
          ((f40 v1 v2 v3 v4 v5 v6 v7 v8 v9 v10 v11 v12 v13 v14 v15 v16)).bind fun y55 =>
          some ((((y55.1.1.1.1, y55.1.1.1.2), (y55.1.1.2.1.1, y55.1.1.2.1.2), y55.1.1.2.2.1, y55.1.1.2.2.2.1, y55.1.1.2.2.2.2.1, y55.1.1.2.2.2.2.2), (y55.1.2.1.1, y55.1.2.1.2.1, y55.1.2.1.2.2.1, y55.1.2.1.2.2.2), y55.1.2.2.1, y55.1.2.2.2.1, y55.1.2.2.2.2.1, y55.1.2.2.2.2.2), [], (5, 0, 0), ())) (
          cond ((decide (0 ≤ y54.1)) && (decide (y54.1 < (y28.1.2.2.2.2.1.length : Int)))) (
           cond (decide ((Int.toNat y54.1) < y28.1.2.2.2.2.1.length)) (
            some ((((y28.1.1.1.1, y28.1.1.1.2), (y28.1.1.2.1.1, y28.1.1.2.1.2), y28.1.1.2.2.1, y28.1.1.2.2.2.1, y28.1.1.2.2.2.2.1, y28.1.1.2.2.2.2.2), (y28.1.2.1.1, y28.1.2.1.2.1, y28.1.2.1.2.2.1, y28.1.2.1.2.2.2), y28.1.2.2.1, y28.1.2.2.2.1, (y28.1.2.2.2.2.1.set (Int.toNat y54.1) ((rd dT1 y28.1.2.2.2.2.1 (Int.toNat y54.1)).1, (rd dT1 y28.1.2.2.2.2.1 (Int.toNat y54.1)).2.1, (rd dT1 y28.1.2.2.2.2.1 (Int.toNat y54.1)).2.2.1, (rd dT1 y28.1.2.2.2.2.1 (Int.toNat y54.1)).2.2.2.1, y28.1.2.2.1)), y28.1.2.2.2.2.2), [], (0, v19, v20), ())) (
            none)) (
           none))) (
         none)) (
        none)) (
       ((f40 v1 v2 v3 v4 v5 v6 v7 v8 v9 v10 v11 v12 v13 v14 v15 v16)).bind fun y56 =>
       some ((((y56.1.1.1.1, y56.1.1.1.2), (y56.1.1.2.1.1, y56.1.1.2.1.2), y56.1.1.2.2.1, y56.1.1.2.2.2.1, y56.1.1.2.2.2.2.1, y56.1.1.2.2.2.2.2), (y56.1.2.1.1, y56.1.2.1.2.1, y56.1.2.1.2.2.1, y56.1.2.1.2.2.2), y56.1.2.2.1, y56.1.2.2.2.1, y56.1.2.2.2.2.1, y56.1.2.2.2.2.2), [], (5, 0, 0), ()))) (
      cond (decide (v17 = 2)) (
       ((f22 y28.1.2.2.2.2.1 v19 v20)).bind fun y57 =>
       cond (!(decide (y57.1 = (-1)))) (
        cond ((decide (0 ≤ y57.1)) && (decide (y57.1 < (y28.1.2.2.2.2.1.length : Int)))) (
         cond (decide ((Int.toNat y57.1) < y28.1.2.2.2.2.1.length)) (
          cond (!(decide ((rd dT1 y28.1.2.2.2.2.1 (Int.toNat y57.1)).1 = v18))) (
           ((f40 v1 v2 v3 v4 v5 v6 v7 v8 v9 v10 v11 v12 v13 v14 v15 v16)).bind fun y58 =>
           some ((((y58.1.1.1.1, y58.1.1.1.2), (y58.1.1.2.1.1, y58.1.1.2.1.2), y58.1.1.2.2.1, y58.1.1.2.2.2.1, y58.1.1.2.2.2.2.1, y58.1.1.2.2.2.2.2), (y58.1.2.1.1, y58.1.2.1.2.1, y58.1.2.1.2.2.1, y58.1.2.1.2.2.2), y58.1.2.2.1, y58.1.2.2.2.1, y58.1.2.2.2.2.1, y58.1.2.2.2.2.2), [], (5, 0, 0), ())) (
           cond ((decide (0 ≤ y57.1)) && (decide (y57.1 < (y28.1.2.2.2.2.1.length : Int)))) (
            cond (decide ((Int.toNat y57.1) < y28.1.2.2.2.2.1.length)) (
             cond (decide (y28.1.2.2.1 = y28.1.2.2.1)) (
              ((f24 y28.1.2.2.2.2.1 (rd dT1 y28.1.2.2.2.2.1 (Int.toNat y57.1)).2.1 (rd dT1 y28.1.2.2.2.2.1 (Int.toNat y57.1)).2.2.1)).bind fun y59 =>
              cond (decide (0 < y28.1.2.1.2.2.1)) (
               ((f103 y28.1.2.2.2.2.2 (rd dT1 y28.1.2.2.2.2.1 (Int.toNat y57.1)).2.1 (rd dT1 y28.1.2.2.2.2.1 (Int.toNat y57.1)).2.2.1 (IntKind.wrap .i64 (y28.1.2.2.1 + y28.1.2.1.2.2.1)))).bind fun y60 =>
               cond ((decide (72 ≤ 140737488355328)) && (decide (1 ≤ 9223372036854775807))) (
                some ((((y28.1.1.1.1, y28.1.1.1.2), (y28.1.1.2.1.1, y28.1.1.2.1.2), y28.1.1.2.2.1, y28.1.1.2.2.2.1, y28.1.1.2.2.2.2.1, y28.1.1.2.2.2.2.2), (y28.1.2.1.1, y28.1.2.1.2.1, y28.1.2.1.2.2.1, y28.1.2.1.2.2.2), y28.1.2.2.1, y28.1.2.2.2.1, y59.1, y60.1), [(1, y28.1.2.2.1, (rd dT1 y28.1.2.2.2.2.1 (Int.toNat y57.1)).1, (rd dT1 y28.1.2.2.2.2.1 (Int.toNat y57.1)).2.1, (rd dT1 y28.1.2.2.2.2.1 (Int.toNat y57.1)).2.2.1, 0, 0, 0, false)], (0, v19, v20), ())) (
                none)) (
               cond ((decide (72 ≤ 140737488355328)) && (decide (1 ≤ 9223372036854775807))) (
                some ((((y28.1.1.1.1, y28.1.1.1.2), (y28.1.1.2.1.1, y28.1.1.2.1.2), y28.1.1.2.2.1, y28.1.1.2.2.2.1, y28.1.1.2.2.2.2.1, y28.1.1.2.2.2.2.2), (y28.1.2.1.1, y28.1.2.1.2.1, y28.1.2.1.2.2.1, y28.1.2.1.2.2.2), y28.1.2.2.1, y28.1.2.2.2.1, y59.1, y28.1.2.2.2.2.2), [(1, y28.1.2.2.1, (rd dT1 y28.1.2.2.2.2.1 (Int.toNat y57.1)).1, (rd dT1 y28.1.2.2.2.2.1 (Int.toNat y57.1)).2.1, (rd dT1 y28.1.2.2.2.2.1 (Int.toNat y57.1)).2.2.1, 0, 0, 0, false)], (0, v19, v20), ())) (
                none))) (
              none)) (
             none)) (
            none))) (
          none)) (
         none)) (
        ((f40 v1 v2 v3 v4 v5 v6 v7 v8 v9 v10 v11 v12 v13 v14 v15 v16)).bind fun y61 =>
        some ((((y61.1.1.1.1, y61.1.1.1.2), (y61.1.1.2.1.1, y61.1.1.2.1.2), y61.1.1.2.2.1, y61.1.1.2.2.2.1, y61.1.1.2.2.2.2.1, y61.1.1.2.2.2.2.2), (y61.1.2.1.1, y61.1.2.1.2.1, y61.1.2.1.2.2.1, y61.1.2.1.2.2.2), y61.1.2.2.1, y61.1.2.2.2.1, y61.1.2.2.2.2.1, y61.1.2.2.2.2.2), [], (5, 0, 0), ()))) (
       cond (decide (v17 = 3)) (
        ((f67 y28.1.2.2.1)).bind fun y62 =>
        cond (!y62.2.1) (
         ((f40 v1 v2 v3 v4 v5 v6 v7 v8 v9 v10 v11 v12 v13 v14 v15 v16)).bind fun y63 =>
         some ((((y63.1.1.1.1, y63.1.1.1.2), (y63.1.1.2.1.1, y63.1.1.2.1.2), y63.1.1.2.2.1, y63.1.1.2.2.2.1, y63.1.1.2.2.2.2.1, y63.1.1.2.2.2.2.2), (y63.1.2.1.1, y63.1.2.1.2.1, y63.1.2.1.2.2.1, y63.1.2.1.2.2.2), y63.1.2.2.1, y63.1.2.2.2.1, y63.1.2.2.2.2.1, y63.1.2.2.2.2.2), [], (1, 0, 0), ())) (
         ((iter big u13_33_3_0 (((), (), (), (y28.1.2.2.2.2.1.length : Int), 0, ()), ((v1, v2, v3, v4, v5, v6, v7, v8, v9, v10, v11, v12, v13, v14, v15, v16, ()), (v17, v18, v19, v20, v21, v22, v23, v24, v25, ()), (0, 0, 0, 0, 0, 0, 0, 0, 0, 0, 0, false, 0, (), (), (), ()), ((), ()), (0, 0, 0, ()), ((), (), (), (), (), (), (), (), (), ()), y28.1.2.2.2.1, y28.1.2.2.2.2.1, y28.1.2.2.2.2.2, (y28.1.1.1.1, y28.1.1.1.2, y28.1.1.2.1.1, y28.1.1.2.1.2, y28.1.1.2.2.1, y28.1.1.2.2.2.1, y28.1.1.2.2.2.2.1, y28.1.1.2.2.2.2.2, y28.1.2.1.1, y28.1.2.1.2.1, y28.1.2.1.2.2.1, y28.1.2.1.2.2.2, y28.1.2.2.1, (), (), (), v17, v18, v19, v20, v21, v22, v23, v24, v25, (), 0, 0, 0, ()), (y62.1.1, y62.1.2, ()), ()), [], [], [], [], [], ()))).bind fun r => match r with
         | .inl y64 =>
           ((f69 y64.2.1.2.2.2.2.2.2.2.2.2.2.1.1 y64.2.1.2.2.2.2.2.2.2.2.2.2.1.2.1 y64.2.1.2.2.2.2.2.2.2.2.2.1.2.2.2.2.2.2.2.2.2.2.2.2.2.2.2.2.2.2.2.2.1)).bind fun y66 =>
           cond (!(decide (y66.2.2.1 = 0))) (
            ((f40 y64.2.1.1.1 y64.2.1.1.2.1 y64.2.1.1.2.2.1 y64.2.1.1.2.2.2.1 y64.2.1.1.2.2.2.2.1 y64.2.1.1.2.2.2.2.2.1 y64.2.1.1.2.2.2.2.2.2.1 y64.2.1.1.2.2.2.2.2.2.2.1 y64.2.1.1.2.2.2.2.2.2.2.2.1 y64.2.1.1.2.2.2.2.2.2.2.2.2.1 y64.2.1.1.2.2.2.2.2.2.2.2.2.2.1 y64.2.1.1.2.2.2.2.2.2.2.2.2.2.2.1 y64.2.1.1.2.2.2.2.2.2.2.2.2.2.2.2.1 y64.2.1.1.2.2.2.2.2.2.2.2.2.2.2.2.2.1 y64.2.1.1.2.2.2.2.2.2.2.2.2.2.2.2.2.2.1 y64.2.1.1.2.2.2.2.2.2.2.2.2.2.2.2.2.2.2.1)).bind fun y67 =>
            some ((((y67.1.1.1.1, y67.1.1.1.2), (y67.1.1.2.1.1, y67.1.1.2.1.2), y67.1.1.2.2.1, y67.1.1.2.2.2.1, y67.1.1.2.2.2.2.1, y67.1.1.2.2.2.2.2), (y67.1.2.1.1, y67.1.2.1.2.1, y67.1.2.1.2.2.1, y67.1.2.1.2.2.2), y67.1.2.2.1, y67.1.2.2.2.1, y67.1.2.2.2.2.1, y67.1.2.2.2.2.2), [], (y66.2.2.1, 0, 0), ())) (
            ((iter big u13_33_10_0 (((), y66.2.1, y66.2.1, (y66.2.1.length : Int), 0, ()), ((y64.2.1.1.1, y64.2.1.1.2.1, y64.2.1.1.2.2.1, y64.2.1.1.2.2.2.1, y64.2.1.1.2.2.2.2.1, y64.2.1.1.2.2.2.2.2.1, y64.2.1.1.2.2.2.2.2.2.1, y64.2.1.1.2.2.2.2.2.2.2.1, y64.2.1.1.2.2.2.2.2.2.2.2.1, y64.2.1.1.2.2.2.2.2.2.2.2.2.1, y64.2.1.1.2.2.2.2.2.2.2.2.2.2.1, y64.2.1.1.2.2.2.2.2.2.2.2.2.2.2.1, y64.2.1.1.2.2.2.2.2.2.2.2.2.2.2.2.1, y64.2.1.1.2.2.2.2.2.2.2.2.2.2.2.2.2.1, y64.2.1.1.2.2.2.2.2.2.2.2.2.2.2.2.2.2.1, y64.2.1.1.2.2.2.2.2.2.2.2.2.2.2.2.2.2.2.1, ()), (y64.2.1.2.1.1, y64.2.1.2.1.2.1, y64.2.1.2.1.2.2.1, y64.2.1.2.1.2.2.2.1, y64.2.1.2.1.2.2.2.2.1, y64.2.1.2.1.2.2.2.2.2.1, y64.2.1.2.1.2.2.2.2.2.2.1, y64.2.1.2.1.2.2.2.2.2.2.2.1, y64.2.1.2.1.2.2.2.2.2.2.2.2.1, ()), (y64.2.1.2.2.1.1, y64.2.1.2.2.1.2.1, y64.2.1.2.2.1.2.2.1, y64.2.1.2.2.1.2.2.2.1, y64.2.1.2.2.1.2.2.2.2.1, y64.2.1.2.2.1.2.2.2.2.2.1, y64.2.1.2.2.1.2.2.2.2.2.2.1, y64.2.1.2.2.1.2.2.2.2.2.2.2.1, y64.2.1.2.2.1.2.2.2.2.2.2.2.2.1, y64.2.1.2.2.1.2.2.2.2.2.2.2.2.2.1, y64.2.1.2.2.1.2.2.2.2.2.2.2.2.2.2.1, y64.2.1.2.2.1.2.2.2.2.2.2.2.2.2.2.2.1, y64.2.1.2.2.1.2.2.2.2.2.2.2.2.2.2.2.2.1, (), (), (), ()), ((), ()), (y64.2.1.2.2.2.2.1.1, y64.2.1.2.2.2.2.1.2.1, y64.2.1.2.2.2.2.1.2.2.1, ()), ((), (), (), (), (), (), (), (), (), ()), [], [], [], (y64.2.1.2.2.2.2.2.2.2.2.2.1.1, y64.2.1.2.2.2.2.2.2.2.2.2.1.2.1, y64.2.1.2.2.2.2.2.2.2.2.2.1.2.2.1, y64.2.1.2.2.2.2.2.2.2.2.2.1.2.2.2.1, y64.2.1.2.2.2.2.2.2.2.2.2.1.2.2.2.2.1, y64.2.1.2.2.2.2.2.2.2.2.2.1.2.2.2.2.2.1, y64.2.1.2.2.2.2.2.2.2.2.2.1.2.2.2.2.2.2.1, y64.2.1.2.2.2.2.2.2.2.2.2.1.2.2.2.2.2.2.2.1, y64.2.1.2.2.2.2.2.2.2.2.2.1.2.2.2.2.2.2.2.2.1, y64.2.1.2.2.2.2.2.2.2.2.2.1.2.2.2.2.2.2.2.2.2.1, y64.2.1.2.2.2.2.2.2.2.2.2.1.2.2.2.2.2.2.2.2.2.2.1, y64.2.1.2.2.2.2.2.2.2.2.2.1.2.2.2.2.2.2.2.2.2.2.2.1, y64.2.1.2.2.2.2.2.2.2.2.2.1.2.2.2.2.2.2.2.2.2.2.2.2.1, (), (), (), y64.2.1.2.2.2.2.2.2.2.2.2.1.2.2.2.2.2.2.2.2.2.2.2.2.2.2.2.2.1, y64.2.1.2.2.2.2.2.2.2.2.2.1.2.2.2.2.2.2.2.2.2.2.2.2.2.2.2.2.2.1, y64.2.1.2.2.2.2.2.2.2.2.2.1.2.2.2.2.2.2.2.2.2.2.2.2.2.2.2.2.2.2.1, y64.2.1.2.2.2.2.2.2.2.2.2.1.2.2.2.2.2.2.2.2.2.2.2.2.2.2.2.2.2.2.2.1, y64.2.1.2.2.2.2.2.2.2.2.2.1.2.2.2.2.2.2.2.2.2.2.2.2.2.2.2.2.2.2.2.2.1, y64.2.1.2.2.2.2.2.2.2.2.2.1.2.2.2.2.2.2.2.2.2.2.2.2.2.2.2.2.2.2.2.2.2.1, y64.2.1.2.2.2.2.2.2.2.2.2.1.2.2.2.2.2.2.2.2.2.2.2.2.2.2.2.2.2.2.2.2.2.2.1, y64.2.1.2.2.2.2.2.2.2.2.2.1.2.2.2.2.2.2.2.2.2.2.2.2.2.2.2.2.2.2.2.2.2.2.2.1, y64.2.1.2.2.2.2.2.2.2.2.2.1.2.2.2.2.2.2.2.2.2.2.2.2.2.2.2.2.2.2.2.2.2.2.2.2.1, (), y64.2.1.2.2.2.2.2.2.2.2.2.1.2.2.2.2.2.2.2.2.2.2.2.2.2.2.2.2.2.2.2.2.2.2.2.2.2.2.1, y64.2.1.2.2.2.2.2.2.2.2.2.1.2.2.2.2.2.2.2.2.2.2.2.2.2.2.2.2.2.2.2.2.2.2.2.2.2.2.2.1, y64.2.1.2.2.2.2.2.2.2.2.2.1.2.2.2.2.2.2.2.2.2.2.2.2.2.2.2.2.2.2.2.2.2.2.2.2.2.2.2.2.1, ()), ()), y64.2.2.1, y64.2.2.2.1, y64.2.2.2.2.1, y64.2.2.2.2.2.1, y64.2.1.2.2.2.2.2.2.1, y64.2.1.2.2.2.2.2.2.2.1, y64.2.1.2.2.2.2.2.2.2.2.1, y64.2.2.2.2.2.2.1, ()))).bind fun r => match r with
            | .inl y68 =>
              ((f70 y68.2.2.2.2.2.2.2.2.1 y68.2.1.2.2.2.2.2.2.2.2.2.1.2.2.2.2.2.2.2.2.2.2.2.2.2.2.2.2.2.2.2.2.1)).bind fun y70 =>
              some ((((y68.2.1.2.2.2.2.2.2.2.2.2.1.1, y68.2.1.2.2.2.2.2.2.2.2.2.1.2.1), (y68.2.1.2.2.2.2.2.2.2.2.2.1.2.2.1, y68.2.1.2.2.2.2.2.2.2.2.2.1.2.2.2.1), y68.2.1.2.2.2.2.2.2.2.2.2.1.2.2.2.2.1, y68.2.1.2.2.2.2.2.2.2.2.2.1.2.2.2.2.2.1, y68.2.1.2.2.2.2.2.2.2.2.2.1.2.2.2.2.2.2.1, y68.2.1.2.2.2.2.2.2.2.2.2.1.2.2.2.2.2.2.2.1), (y68.2.1.2.2.2.2.2.2.2.2.2.1.2.2.2.2.2.2.2.2.1, y68.2.1.2.2.2.2.2.2.2.2.2.1.2.2.2.2.2.2.2.2.2.1, y68.2.1.2.2.2.2.2.2.2.2.2.1.2.2.2.2.2.2.2.2.2.2.1, y68.2.1.2.2.2.2.2.2.2.2.2.1.2.2.2.2.2.2.2.2.2.2.2.1), y68.2.1.2.2.2.2.2.2.2.2.2.1.2.2.2.2.2.2.2.2.2.2.2.2.2.2.2.2.2.2.2.2.1, y68.2.2.2.2.2.2.1, y68.2.2.2.2.2.2.2.1, y70.1), y68.2.2.2.2.2.2.2.2.2.1, (y68.2.1.2.2.2.2.2.2.2.2.2.1.2.2.2.2.2.2.2.2.2.2.2.2.2.2.2.2.2.2.2.2.2.2.2.2.2.2.1, (y68.1.2.1.length : Int), y68.2.1.2.2.2.2.2.2.2.2.2.1.2.2.2.2.2.2.2.2.2.2.2.2.2.2.2.2.2.2.2.2.2.2.2.2.2.2.2.2.1), ())
            | .inr z69 =>
              none)
         | .inr z65 =>
           none)) (
        cond (decide (v17 = 4)) (
         ((f46 y28.1.1.1.1 y28.1.1.1.2 y28.1.1.2.1.1 y28.1.1.2.1.2 y28.1.1.2.2.1 y28.1.1.2.2.2.1 y28.1.1.2.2.2.2.1 y28.1.1.2.2.2.2.2 y28.1.2.1.1 y28.1.2.1.2.1 y28.1.2.1.2.2.1 y28.1.2.1.2.2.2 y28.1.2.2.1 y28.1.2.2.2.1 y28.1.2.2.2.2.1 y28.1.2.2.2.2.2)).bind fun y71 =>
         ((f72 y28.1.2.2.2.1 y71.1 v19 v21)).bind fun y72 =>
         cond (!(decide (y72.2.1 = 0))) (
          ((f40 v1 v2 v3 v4 v5 v6 v7 v8 v9 v10 v11 v12 v13 v14 v15 v16)).bind fun y73 =>
          some ((((y73.1.1.1.1, y73.1.1.1.2), (y73.1.1.2.1.1, y73.1.1.2.1.2), y73.1.1.2.2.1, y73.1.1.2.2.2.1, y73.1.1.2.2.2.2.1, y73.1.1.2.2.2.2.2), (y73.1.2.1.1, y73.1.2.1.2.1, y73.1.2.1.2.2.1, y73.1.2.1.2.2.2), y73.1.2.2.1, y73.1.2.2.2.1, y73.1.2.2.2.2.1, y73.1.2.2.2.2.2), [], (y72.2.1, 0, 0), ())) (
          cond ((decide (72 ≤ 140737488355328)) && (decide (1 ≤ 9223372036854775807))) (
           some ((((y28.1.1.1.1, y28.1.1.1.2), (y28.1.1.2.1.1, y28.1.1.2.1.2), y28.1.1.2.2.1, y28.1.1.2.2.2.1, y28.1.1.2.2.2.2.1, y28.1.1.2.2.2.2.2), (y28.1.2.1.1, y28.1.2.1.2.1, y28.1.2.1.2.2.1, y28.1.2.1.2.2.2), y28.1.2.2.1, y72.1, y28.1.2.2.2.2.1, y28.1.2.2.2.2.2), [(2, y28.1.2.2.1, v19, v21, 0, 0, 0, 0, false)], (0, 0, 0), ())) (
           none))) (
         cond (decide (v17 = 5)) (
          ((f46 y28.1.1.1.1 y28.1.1.1.2 y28.1.1.2.1.1 y28.1.1.2.1.2 y28.1.1.2.2.1 y28.1.1.2.2.2.1 y28.1.1.2.2.2.2.1 y28.1.1.2.2.2.2.2 y28.1.2.1.1 y28.1.2.1.2.1 y28.1.2.1.2.2.1 y28.1.2.1.2.2.2 y28.1.2.2.1 y28.1.2.2.2.1 y28.1.2.2.2.2.1 y28.1.2.2.2.2.2)).bind fun y74 =>
          ((f73 y28.1.2.2.2.1 y74.1 v21)).bind fun y75 =>
          cond (!(decide (y75.2.1 = 0))) (
           ((f40 v1 v2 v3 v4 v5 v6 v7 v8 v9 v10 v11 v12 v13 v14 v15 v16)).bind fun y76 =>
           some ((((y76.1.1.1.1, y76.1.1.1.2), (y76.1.1.2.1.1, y76.1.1.2.1.2), y76.1.1.2.2.1, y76.1.1.2.2.2.1, y76.1.1.2.2.2.2.1, y76.1.1.2.2.2.2.2), (y76.1.2.1.1, y76.1.2.1.2.1, y76.1.2.1.2.2.1, y76.1.2.1.2.2.2), y76.1.2.2.1, y76.1.2.2.2.1, y76.1.2.2.2.2.1, y76.1.2.2.2.2.2), [], (y75.2.1, 0, 0), ())) (
           cond ((decide (72 ≤ 140737488355328)) && (decide (1 ≤ 9223372036854775807))) (
            some ((((y28.1.1.1.1, y28.1.1.1.2), (y28.1.1.2.1.1, y28.1.1.2.1.2), y28.1.1.2.2.1, y28.1.1.2.2.2.1, y28.1.1.2.2.2.2.1, y28.1.1.2.2.2.2.2), (y28.1.2.1.1, y28.1.2.1.2.1, y28.1.2.1.2.2.1, y28.1.2.1.2.2.2), y28.1.2.2.1, y75.1, y28.1.2.2.2.2.1, y28.1.2.2.2.2.2), [(3, y28.1.2.2.1, v21, 0, 0, 0, 0, 0, false)], (0, 0, 0), ())) (
            none))) (
          cond (decide (v17 = 6)) (
           ((f46 y28.1.1.1.1 y28.1.1.1.2 y28.1.1.2.1.1 y28.1.1.2.1.2 y28.1.1.2.2.1 y28.1.1.2.2.2.1 y28.1.1.2.2.2.2.1 y28.1.1.2.2.2.2.2 y28.1.2.1.1 y28.1.2.1.2.1 y28.1.2.1.2.2.1 y28.1.2.1.2.2.2 y28.1.2.2.1 y28.1.2.2.2.1 y28.1.2.2.2.2.1 y28.1.2.2.2.2.2)).bind fun y77 =>
           ((f75 y28.1.2.2.2.2.1)).bind fun y78 =>
           ((f74 y28.1.2.2.2.1 y77.1 v19 v21 y78.1)).bind fun y79 =>
           cond (!(decide (y79.2.1 = 0))) (
            ((f40 v1 v2 v3 v4 v5 v6 v7 v8 v9 v10 v11 v12 v13 v14 v15 v16)).bind fun y80 =>
            some ((((y80.1.1.1.1, y80.1.1.1.2), (y80.1.1.2.1.1, y80.1.1.2.1.2), y80.1.1.2.2.1, y80.1.1.2.2.2.1, y80.1.1.2.2.2.2.1, y80.1.1.2.2.2.2.2), (y80.1.2.1.1, y80.1.2.1.2.1, y80.1.2.1.2.2.1, y80.1.2.1.2.2.2), y80.1.2.2.1, y80.1.2.2.2.1, y80.1.2.2.2.2.1, y80.1.2.2.2.2.2), [], (y79.2.1, 0, 0), ())) (
            cond ((decide (72 ≤ 140737488355328)) && (decide (1 ≤ 9223372036854775807))) (
             some ((((y28.1.1.1.1, y28.1.1.1.2), (y28.1.1.2.1.1, y28.1.1.2.1.2), y28.1.1.2.2.1, y28.1.1.2.2.2.1, y28.1.1.2.2.2.2.1, y28.1.1.2.2.2.2.2), (y28.1.2.1.1, y28.1.2.1.2.1, y28.1.2.1.2.2.1, y28.1.2.1.2.2.2), y28.1.2.2.1, y79.1, y28.1.2.2.2.2.1, y28.1.2.2.2.2.2), [(4, y28.1.2.2.1, v19, v21, 0, 0, 0, 0, false)], (0, 0, 0), ())) (
             none))) (
           cond (decide (v17 = 7)) (
            ((f46 y28.1.1.1.1 y28.1.1.1.2 y28.1.1.2.1.1 y28.1.1.2.1.2 y28.1.1.2.2.1 y28.1.1.2.2.2.1 y28.1.1.2.2.2.2.1 y28.1.1.2.2.2.2.2 y28.1.2.1.1 y28.1.2.1.2.1 y28.1.2.1.2.2.1 y28.1.2.1.2.2.2 y28.1.2.2.1 y28.1.2.2.2.1 y28.1.2.2.2.2.1 y28.1.2.2.2.2.2)).bind fun y81 =>
            ((f75 y28.1.2.2.2.2.1)).bind fun y82 =>
            ((f76 y28.1.2.2.2.1 y81.1 v21 y82.1)).bind fun y83 =>
            cond (!(decide (y83.2.1 = 0))) (
             ((f40 v1 v2 v3 v4 v5 v6 v7 v8 v9 v10 v11 v12 v13 v14 v15 v16)).bind fun y84 =>
             some ((((y84.1.1.1.1, y84.1.1.1.2), (y84.1.1.2.1.1, y84.1.1.2.1.2), y84.1.1.2.2.1, y84.1.1.2.2.2.1, y84.1.1.2.2.2.2.1, y84.1.1.2.2.2.2.2), (y84.1.2.1.1, y84.1.2.1.2.1, y84.1.2.1.2.2.1, y84.1.2.1.2.2.2), y84.1.2.2.1, y84.1.2.2.2.1, y84.1.2.2.2.2.1, y84.1.2.2.2.2.2), [], (y83.2.1, 0, 0), ())) (
             cond ((decide (72 ≤ 140737488355328)) && (decide (1 ≤ 9223372036854775807))) (
              some ((((y28.1.1.1.1, y28.1.1.1.2), (y28.1.1.2.1.1, y28.1.1.2.1.2), y28.1.1.2.2.1, y28.1.1.2.2.2.1, y28.1.1.2.2.2.2.1, y28.1.1.2.2.2.2.2), (y28.1.2.1.1, y28.1.2.1.2.1, y28.1.2.1.2.2.1, y28.1.2.1.2.2.2), y28.1.2.2.1, y83.1, y28.1.2.2.2.2.1, y28.1.2.2.2.2.2), [(5, y28.1.2.2.1, v21, 0, 0, 0, 0, 0, false)], (0, 0, 0), ())) (
              none))) (
            cond (decide (v17 = 8)) (
             ((f28 v22 v23 v24 v25)).bind fun y85 =>
             cond (!y85.1) (
              ((f40 v1 v2 v3 v4 v5 v6 v7 v8 v9 v10 v11 v12 v13 v14 v15 v16)).bind fun y86 =>
              some ((((y86.1.1.1.1, y86.1.1.1.2), (y86.1.1.2.1.1, y86.1.1.2.1.2), y86.1.1.2.2.1, y86.1.1.2.2.2.1, y86.1.1.2.2.2.2.1, y86.1.1.2.2.2.2.2), (y86.1.2.1.1, y86.1.2.1.2.1, y86.1.2.1.2.2.1, y86.1.2.1.2.2.2), y86.1.2.2.1, y86.1.2.2.2.1, y86.1.2.2.2.2.1, y86.1.2.2.2.2.2), [], (1, 0, 0), ())) (
              ((f15 y28.1.1.1.1 y28.1.1.1.2 y28.1.1.2.1.1 y28.1.1.2.1.2 y28.1.1.2.2.1 y28.1.1.2.2.2.1 y28.1.1.2.2.2.2.1 y28.1.1.2.2.2.2.2 v22 v23 v24 v25 y28.1.2.2.1 y28.1.2.2.2.1 y28.1.2.2.2.2.1 y28.1.2.2.2.2.2)).bind fun y87 =>
              cond (!y87.1) (
               ((f40 v1 v2 v3 v4 v5 v6 v7 v8 v9 v10 v11 v12 v13 v14 v15 v16)).bind fun y88 =>
               some ((((y88.1.1.1.1, y88.1.1.1.2), (y88.1.1.2.1.1, y88.1.1.2.1.2), y88.1.1.2.2.1, y88.1.1.2.2.2.1, y88.1.1.2.2.2.2.1, y88.1.1.2.2.2.2.2), (y88.1.2.1.1, y88.1.2.1.2.1, y88.1.2.1.2.2.1, y88.1.2.1.2.2.2), y88.1.2.2.1, y88.1.2.2.2.1, y88.1.2.2.2.2.1, y88.1.2.2.2.2.2), [], (12, 0, 0), ())) (
               cond ((decide (72 ≤ 140737488355328)) && (decide (1 ≤ 9223372036854775807))) (
                some ((((y28.1.1.1.1, y28.1.1.1.2), (y28.1.1.2.1.1, y28.1.1.2.1.2), y28.1.1.2.2.1, y28.1.1.2.2.2.1, y28.1.1.2.2.2.2.1, y28.1.1.2.2.2.2.2), (v22, v23, v24, v25), y28.1.2.2.1, y28.1.2.2.2.1, y28.1.2.2.2.2.1, y28.1.2.2.2.2.2), [(6, y28.1.2.2.1, 0, 0, 0, v22, v23, v24, v25)], (0, 0, 0), ())) (
                none)))) (
             none))))))))))) (
   ((f40 v1 v2 v3 v4 v5 v6 v7 v8 v9 v10 v11 v12 v13 v14 v15 v16)).bind fun y89 =>
   some ((((y89.1.1.1.1, y89.1.1.1.2), (y89.1.1.2.1.1, y89.1.1.2.1.2), y89.1.1.2.2.1, y89.1.1.2.2.2.1, y89.1.1.2.2.2.2.1, y89.1.1.2.2.2.2.2), (y89.1.2.1.1, y89.1.2.1.2.1, y89.1.2.1.2.2.1, y89.1.2.1.2.2.2), y89.1.2.2.1, y89.1.2.2.2.1, y89.1.2.2.2.2.1, y89.1.2.2.2.2.2), [], (1, 0, 0), ()))) (
  ((f40 v1 v2 v3 v4 v5 v6 v7 v8 v9 v10 v11 v12 v13 v14 v15 v16)).bind fun y90 =>
  some ((((y90.1.1.1.1, y90.1.1.1.2), (y90.1.1.2.1.1, y90.1.1.2.1.2), y90.1.1.2.2.1, y90.1.1.2.2.2.1, y90.1.1.2.2.2.2.1, y90.1.1.2.2.2.2.2), (y90.1.2.1.1, y90.1.2.1.2.1, y90.1.2.1.2.2.1, y90.1.2.1.2.2.2), y90.1.2.2.1, y90.1.2.2.2.1, y90.1.2.2.2.2.1, y90.1.2.2.2.2.2), [], (1, 0, 0), ()))
noncomputable def f29 (v1 : DT4) (v2 : DT1) : Option DT18 :=
 cond (decide ((v1.length : Int) ≤ 40)) (
  some ((decide ((v2.length : Int) ≤ 40)), ())) (
  some (false, ()))
noncomputable def f12 (v1 v2 v3 v4 v5 v6 v7 v8 v9 v10 v11 : Int) (v12 : Bool) (v13 : Int) (v14 : DT1) (v15 : DT4) (v16 : DT1) : Option DT18 :=
 ((f29 v15 v16)).bind fun y17 =>
 cond y17.1 (
  some ((decide ((v14.length : Int) ≤ 6)), ())) (
  some (false, ()))
noncomputable def f11  : Option DT18 :=
 (f27).bind fun y1 =>
 ((f16 y1.1.1.1 y1.1.1.2 y1.1.2.1.1 y1.1.2.1.2 y1.1.2.2.1 y1.1.2.2.2.1 y1.1.2.2.2.2.1 y1.1.2.2.2.2.2 1 9 5 false)).bind fun y2 =>
 ((f13 y2.1.1.1.1 y2.1.1.1.2 y2.1.1.2.1.1 y2.1.1.2.1.2 y2.1.1.2.2.1 y2.1.1.2.2.2.1 y2.1.1.2.2.2.2.1 y2.1.1.2.2.2.2.2 y2.1.2.1.1 y2.1.2.1.2.1 y2.1.2.1.2.2.1 y2.1.2.1.2.2.2 y2.1.2.2.1 y2.1.2.2.2.1 y2.1.2.2.2.2.1 y2.1.2.2.2.2.2 4 0 0 0 1 0 0 0 false)).bind fun y3 =>
 ((f13 y3.1.1.1.1 y3.1.1.1.2 y3.1.1.2.1.1 y3.1.1.2.1.2 y3.1.1.2.2.1 y3.1.1.2.2.2.1 y3.1.1.2.2.2.2.1 y3.1.1.2.2.2.2.2 y3.1.2.1.1 y3.1.2.1.2.1 y3.1.2.1.2.2.1 y3.1.2.1.2.2.2 y3.1.2.2.1 y3.1.2.2.2.1 y3.1.2.2.2.2.1 y3.1.2.2.2.2.2 0 0 0 0 0 0 0 0 false)).bind fun y4 =>
 ((f13 y4.1.1.1.1 y4.1.1.1.2 y4.1.1.2.1.1 y4.1.1.2.1.2 y4.1.1.2.2.1 y4.1.1.2.2.2.1 y4.1.1.2.2.2.2.1 y4.1.1.2.2.2.2.2 y4.1.2.1.1 y4.1.2.1.2.1 y4.1.2.1.2.2.1 y4.1.2.1.2.2.2 y4.1.2.2.1 y4.1.2.2.2.1 y4.1.2.2.2.2.1 y4.1.2.2.2.2.2 0 0 0 0 0 0 0 0 false)).bind fun y5 =>
 ((f13 y4.1.1.1.1 y4.1.1.1.2 y4.1.1.2.1.1 y4.1.1.2.1.2 y4.1.1.2.2.1 y4.1.1.2.2.2.1 y4.1.1.2.2.2.2.1 y4.1.1.2.2.2.2.2 y4.1.2.1.1 y4.1.2.1.2.1 y4.1.2.1.2.2.1 y4.1.2.1.2.2.2 y4.1.2.2.1 y4.1.2.2.2.1 y4.1.2.2.2.2.1 y4.1.2.2.2.2.2 2 0 0 0 0 0 0 0 false)).bind fun y6 =>
 ((f13 y6.1.1.1.1 y6.1.1.1.2 y6.1.1.2.1.1 y6.1.1.2.1.2 y6.1.1.2.2.1 y6.1.1.2.2.2.1 y6.1.1.2.2.2.2.1 y6.1.1.2.2.2.2.2 y6.1.2.1.1 y6.1.2.1.2.1 y6.1.2.1.2.2.1 y6.1.2.1.2.2.2 y6.1.2.2.1 y6.1.2.2.2.1 y6.1.2.2.2.2.1 y6.1.2.2.2.2.2 0 1 0 0 0 0 0 0 false)).bind fun y7 =>
 cond y2.2.1 (
  cond (decide (y3.2.2.1.1 = 0)) (
   cond (decide ((y3.2.1.length : Int) = 1)) (
    cond (decide (y4.2.2.1.1 = 0)) (
     cond (decide (y4.2.2.1.2.2 = 0)) (
      cond (decide ((y4.2.1.length : Int) = 1)) (
       cond (decide (0 < (y4.2.1.length : Int))) (
        cond (decide ((rd dT3 y4.2.1 0).1 = 0)) (
         cond (decide (y5.2.2.1.1 = 6)) (
          cond (decide (y6.2.2.1.1 = 0)) (
           cond (decide (y7.2.2.1.1 = 0)) (
            cond (decide (y7.2.2.1.2.2 = 1)) (
             cond (decide ((y7.1.2.2.2.2.1.length : Int) = 1)) (
              cond (decide ((y7.1.2.2.2.2.2.length : Int) = 1)) (
               ((f15 y7.1.1.1.1 y7.1.1.1.2 y7.1.1.2.1.1 y7.1.1.2.1.2 y7.1.1.2.2.1 y7.1.1.2.2.2.1 y7.1.1.2.2.2.2.1 y7.1.1.2.2.2.2.2 y7.1.2.1.1 y7.1.2.1.2.1 y7.1.2.1.2.2.1 y7.1.2.1.2.2.2 y7.1.2.2.1 y7.1.2.2.2.1 y7.1.2.2.2.2.1 y7.1.2.2.2.2.2)).bind fun y8 =>
               cond y8.1 (
                ((f14 y7.1.1.1.1 y7.1.1.1.2 y7.1.1.2.1.1 y7.1.1.2.1.2 y7.1.1.2.2.1 y7.1.1.2.2.2.1 y7.1.1.2.2.2.2.1 y7.1.1.2.2.2.2.2 y7.1.2.1.1 y7.1.2.1.2.1 y7.1.2.1.2.2.1 y7.1.2.1.2.2.2 y7.1.2.2.1 y7.1.2.2.2.1 y7.1.2.2.2.2.1 y7.1.2.2.2.2.2 y7.1.1.1.1 y7.1.1.1.2 y7.1.1.2.1.1 y7.1.1.2.1.2 y7.1.1.2.2.1 y7.1.1.2.2.2.1 y7.1.1.2.2.2.2.1 y7.1.1.2.2.2.2.2 y7.1.2.1.1 y7.1.2.1.2.1 y7.1.2.1.2.2.1 y7.1.2.1.2.2.2 y7.1.2.2.1 y7.1.2.2.2.1 y7.1.2.2.2.2.1 y7.1.2.2.2.2.2)).bind fun y9 =>
                cond y9.1 (
                 ((f28 y7.1.2.1.1 y7.1.2.1.2.1 y7.1.2.1.2.2.1 y7.1.2.1.2.2.2)).bind fun y10 =>
                 some (y10.1, ())) (
                 some (false, ()))) (
                some (false, ()))) (
               some (false, ()))) (
              some (false, ()))) (
             some (false, ()))) (
            some (false, ()))) (
           some (false, ()))) (
          some (false, ()))) (
         some (false, ()))) (
        none)) (
       some (false, ()))) (
      some (false, ()))) (
     some (false, ()))) (
    some (false, ()))) (
   some (false, ()))) (
  some (false, ()))
abbrev X17_3 : Type := (DT7 × Unit × Unit × Int × Unit) × DT27 × DT7 × DT1 × DT4 × DT1 × Unit
abbrev Y17_3 : Type := (Unit × Unit × Unit) × DT27 × DT7 × DT1 × DT4 × DT1 × Unit
abbrev Z17_3 : Type := Unit × Unit × Unit
noncomputable def t17_3 (v1 : DT7) (v2 v3 v4 v5 v6 v7 v8 v9 v10 v11 v12 v13 : Int) (v14 : Bool) (v15 : Int) (v16 : DT1) (v17 : DT4) (v18 : DT1) (v19 v20 v21 v22 v23 v24 v25 v26 v27 v28 v29 : Int) (v30 : Bool) (v31 : Int) (v32 : DT7) (v33 : DT1) (v34 : DT4) (v35 : DT1) : Option (R3 X17_3 Y17_3 Z17_3) :=
 cond (decide (v2 < (v1.length : Int))) (
  cond ((decide (0 ≤ v2)) && (decide (v2 < (v1.length : Int)))) (
   ((f13 v3 v4 v5 v6 v7 v8 v9 v10 v11 v12 v13 v14 v15 v16 v17 v18 (rd dT3 v1 (Int.toNat v2)).1 (rd dT3 v1 (Int.toNat v2)).2.1 (rd dT3 v1 (Int.toNat v2)).2.2.1 (rd dT3 v1 (Int.toNat v2)).2.2.2.1 (rd dT3 v1 (Int.toNat v2)).2.2.2.2.1 (rd dT3 v1 (Int.toNat v2)).2.2.2.2.2.1 (rd dT3 v1 (Int.toNat v2)).2.2.2.2.2.2.1 (rd dT3 v1 (Int.toNat v2)).2.2.2.2.2.2.2.1 (rd dT3 v1 (Int.toNat v2)).2.2.2.2.2.2.2.2)).bind fun y36 =>
   cond ((decide (((v32.length + y36.2.1.length) * 72) ≤ 140737488355328)) && (decide ((v32.length + y36.2.1.length) ≤ 9223372036854775807))) (
    some (R3.next ((v1, (), (), (IntKind.wrap .i64 (v2 + 1)), ()), ((y36.1.1.1.1, y36.1.1.1.2, y36.1.1.2.1.1, y36.1.1.2.1.2, y36.1.1.2.2.1, y36.1.1.2.2.2.1, y36.1.1.2.2.2.2.1, y36.1.1.2.2.2.2.2, y36.1.2.1.1, y36.1.2.1.2.1, y36.1.2.1.2.2.1, y36.1.2.1.2.2.2, y36.1.2.2.1, y36.1.2.2.2.1, y36.1.2.2.2.2.1, y36.1.2.2.2.2.2, ()), (v19, v20, v21, v22, v23, v24, v25, v26, v27, v28, v29, v30, v31, (), (), (), ()), ()), (v32 ++ y36.2.1), v33, v34, v35, ()))) (
    none)) (
   none)) (
  some (R3.out (((), (), ()), ((v3, v4, v5, v6, v7, v8, v9, v10, v11, v12, v13, v14, v15, v16, v17, v18, ()), (v19, v20, v21, v22, v23, v24, v25, v26, v27, v28, v29, v30, v31, (), (), (), ()), ()), v32, v33, v34, v35, ())))
noncomputable def u17_3 (z : X17_3) : Option (R3 X17_3 Y17_3 Z17_3) := t17_3 z.1.1 z.1.2.2.2.1 z.2.1.1.1 z.2.1.1.2.1 z.2.1.1.2.2.1 z.2.1.1.2.2.2.1 z.2.1.1.2.2.2.2.1 z.2.1.1.2.2.2.2.2.1 z.2.1.1.2.2.2.2.2.2.1 z.2.1.1.2.2.2.2.2.2.2.1 z.2.1.1.2.2.2.2.2.2.2.2.1 z.2.1.1.2.2.2.2.2.2.2.2.2.1 z.2.1.1.2.2.2.2.2.2.2.2.2.2.1 z.2.1.1.2.2.2.2.2.2.2.2.2.2.2.1 z.2.1.1.2.2.2.2.2.2.2.2.2.2.2.2.1 z.2.1.1.2.2.2.2.2.2.2.2.2.2.2.2.2.1 z.2.1.1.2.2.2.2.2.2.2.2.2.2.2.2.2.2.1 z.2.1.1.2.2.2.2.2.2.2.2.2.2.2.2.2.2.2.1 z.2.1.2.1.1 z.2.1.2.1.2.1 z.2.1.2.1.2.2.1 z.2.1.2.1.2.2.2.1 z.2.1.2.1.2.2.2.2.1 z.2.1.2.1.2.2.2.2.2.1 z.2.1.2.1.2.2.2.2.2.2.1 z.2.1.2.1.2.2.2.2.2.2.2.1 z.2.1.2.1.2.2.2.2.2.2.2.2.1 z.2.1.2.1.2.2.2.2.2.2.2.2.2.1 z.2.1.2.1.2.2.2.2.2.2.2.2.2.2.1 z.2.1.2.1.2.2.2.2.2.2.2.2.2.2.2.1 z.2.1.2.1.2.2.2.2.2.2.2.2.2.2.2.2.1 z.2.2.1 z.2.2.2.1 z.2.2.2.2.1 z.2.2.2.2.2.1
noncomputable def f17 (v1 v2 v3 v4 v5 v6 v7 v8 v9 v10 v11 : Int) (v12 : Bool) (v13 : Int) (v14 : DT1) (v15 : DT4) (v16 : DT1) (v17 : DT7) : Option (DT19 × DT7 × Unit) :=
 ((iter big u17_3 ((v17, (), (), 0, ()), ((v1, v2, v3, v4, v5, v6, v7, v8, v9, v10, v11, v12, v13, v14, v15, v16, ()), (0, 0, 0, 0, 0, 0, 0, 0, 0, 0, 0, false, 0, (), (), (), ()), ()), [], [], [], [], ()))).bind fun r => match r with
 | .inl y18 =>
   some ((((y18.2.1.1.1, y18.2.1.1.2.1), (y18.2.1.1.2.2.1, y18.2.1.1.2.2.2.1), y18.2.1.1.2.2.2.2.1, y18.2.1.1.2.2.2.2.2.1, y18.2.1.1.2.2.2.2.2.2.1, y18.2.1.1.2.2.2.2.2.2.2.1), (y18.2.1.1.2.2.2.2.2.2.2.2.1, y18.2.1.1.2.2.2.2.2.2.2.2.2.1, y18.2.1.1.2.2.2.2.2.2.2.2.2.2.1, y18.2.1.1.2.2.2.2.2.2.2.2.2.2.2.1), y18.2.1.1.2.2.2.2.2.2.2.2.2.2.2.2.1, y18.2.1.1.2.2.2.2.2.2.2.2.2.2.2.2.2.1, y18.2.1.1.2.2.2.2.2.2.2.2.2.2.2.2.2.2.1, y18.2.1.1.2.2.2.2.2.2.2.2.2.2.2.2.2.2.2.1), y18.2.2.1, ())
 | .inr z19 =>
   none
end Go.Proofs.Zz
