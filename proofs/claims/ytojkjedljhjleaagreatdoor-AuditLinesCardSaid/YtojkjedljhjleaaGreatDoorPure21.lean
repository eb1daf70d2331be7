/- What the functions come to, told of data. -/
import Derived.Test.YtojkjedljhjleaaGreatDoorLib21
namespace Go.Proofs.Zz
open Go Go.Sy
set_option linter.unusedVariables false
noncomputable def f53 (v1 : Int) (v2 : Int) (v3 : Int) : Option (Bool × Unit) :=
 cond (decide (v2 ≤ v1)) (
  some ((decide (v1 ≤ v3)), ())) (
  some (false, ()))
noncomputable def f68 (v1 : Int) (v2 : Int) : Option (Bool × Unit) :=
 cond (decide (0 ≤ v2)) (
  cond (decide (v2 ≤ 32)) (
   cond (decide (0 ≤ v1)) (
    cond (decide (v1 < 4294967296)) (
     cond (!(decide ((IntKind.wrap .i64 (32 - v2)) < 0))) (
      some ((decide ((bitop .and .i64 v1 (IntKind.wrap .i64 ((IntKind.wrap .i64 (1 * ((2 : Int) ^ ((min (Int.toNat (IntKind.wrap .i64 (32 - v2))) 64) : Nat)))) - 1))) = 0)), ())) (
      none)) (
     some (false, ()))) (
    some (false, ()))) (
   some (false, ()))) (
  some (false, ()))
noncomputable def f34 (v1 : Int) (v2 : Int) : Option (Int × Unit) :=
 ((f68 v1 v2)).bind fun y3 =>
 cond (!y3.1) (
  some (0, ())) (
  cond (!(decide ((IntKind.wrap .i64 (32 - v2)) < 0))) (
   some ((IntKind.wrap .i64 (1 * ((2 : Int) ^ ((min (Int.toNat (IntKind.wrap .i64 (32 - v2))) 64) : Nat)))), ())) (
   none))
noncomputable def f48 (v1 : Int) (v2 : Int) (v3 : Int) : Option (Int × Unit) :=
 ((f68 v1 v2)).bind fun y4 =>
 cond (!y4.1) (
  some ((-1), ())) (
  cond (decide (v3 < 0)) (
   some ((-1), ())) (
   cond (decide (4294967296 ≤ v3)) (
    some ((-1), ())) (
    cond (!(decide ((IntKind.wrap .i64 (32 - v2)) < 0))) (
     cond (!(decide ((Int.fdiv (bitop .xor .i64 v3 v1) ((2 : Int) ^ ((min (Int.toNat (IntKind.wrap .i64 (32 - v2))) 64) : Nat))) = 0))) (
      some ((-1), ())) (
      some ((IntKind.wrap .i64 (v3 - v1)), ()))) (
     none))))
noncomputable def f56 (v1 : Int) (v2 : Int) (v3 : Int) (v4 : Int) : Option (Bool × Unit) :=
 ((f68 v1 v2)).bind fun y5 =>
 cond y5.1 (
  ((f68 v3 v4)).bind fun y6 =>
  cond y6.1 (
   ((f48 v1 v2 v3)).bind fun y7 =>
   cond (!(decide (y7.1 = (-1)))) (
    some (true, ())) (
    ((f48 v3 v4 v1)).bind fun y8 =>
    some ((!(decide (y8.1 = (-1)))), ()))) (
   some (false, ()))) (
  some (false, ()))
noncomputable def f49 (v1 : Int) (v2 : Int) (v3 : Int) (v4 : Int) (v5 : Int) (v6 : Int) (v7 : Int) (v8 : Int) : Option (Int × Unit) :=
 ((f34 v1 v2)).bind fun y9 =>
 ((f34 v3 v4)).bind fun y10 =>
 cond (decide ((cond (decide (y10.1 < y9.1)) y10.1 y9.1) = 0)) (
  some (0, ())) (
  cond (!(decide (y10.1 = 0))) (
   some ((IntKind.wrap .i64 ((IntKind.wrap .i64 (Int.tdiv (IntKind.wrap .i64 (y9.1 - 1)) y10.1)) + 1)), ())) (
   none))
noncomputable def f60 (v1 : Int) (v2 : Int) (v3 : Int) (v4 : Int) (v5 : Int) (v6 : Int) (v7 : Int) (v8 : Int) : Option (Int × Unit) :=
 some ((IntKind.wrap .i64 ((IntKind.wrap .i64 ((IntKind.wrap .i64 (v6 - v5)) + 1)) - v7)), ())
noncomputable def f27 (v1 : Int) (v2 : Int) (v3 : Int) (v4 : Int) (v5 : Int) (v6 : Int) (v7 : Int) (v8 : Int) : Option (Bool × Unit) :=
 ((f34 v1 v2)).bind fun y9 =>
 ((f53 y9.1 1 32)).bind fun y10 =>
 cond y10.1 (
  ((f34 v3 v4)).bind fun y11 =>
  ((f53 y11.1 1 4)).bind fun y12 =>
  cond (!y12.1) (
   some (false, ())) (
   ((f56 v1 v2 v3 v4)).bind fun y13 =>
   cond (!(!y13.1)) (
    some (false, ())) (
    ((f53 v5 1 v6)).bind fun y14 =>
    cond y14.1 (
     cond (!(decide (v6 ≤ 65535))) (
      some (false, ())) (
      ((f53 v7 0 (IntKind.wrap .i64 (v6 - v5)))).bind fun y15 =>
      cond y15.1 (
       ((f53 v8 1 65535)).bind fun y16 =>
       cond y16.1 (
        cond (!(decide (v8 = 0))) (
         cond (!(decide ((IntKind.wrap .i64 (Int.tdiv v7 v8)) ≤ 8))) (
          some (false, ())) (
          ((f60 v1 v2 v3 v4 v5 v6 v7 v8)).bind fun y17 =>
          ((f49 v1 v2 v3 v4 v5 v6 v7 v8)).bind fun y18 =>
          cond (!(decide (y18.1 ≤ y17.1))) (
           some (false, ())) (
           some (true, ())))) (
         none)) (
        some (false, ()))) (
       some (false, ())))) (
     some (false, ()))))) (
  some (false, ()))
noncomputable def f29 (v1 : Int) (v2 : Int) (v3 : Int) : Option (Bool × Unit) :=
 cond (decide (v2 ≤ v1)) (
  some ((decide (v1 ≤ v3)), ())) (
  some (false, ()))
noncomputable def f28 (v1 : Int) (v2 : Int) (v3 : Int) (v4 : Bool) : Option (Bool × Unit) :=
 ((f29 v1 1 8)).bind fun y5 =>
 cond y5.1 (
  ((f29 v2 1 1048576)).bind fun y6 =>
  cond y6.1 (
   ((f29 v3 0 1048576)).bind fun y7 =>
   some (y7.1, ())) (
   some (false, ()))) (
  some (false, ()))
noncomputable def f64 (v1 : Int) (v2 : Int) (v3 : Int) (v4 : Int) (v5 : Int) (v6 : Int) : Option (Bool × Unit) :=
 cond (decide (v1 < (IntKind.wrap .i64 (v4 + v5)))) (
  some ((decide (v4 < (IntKind.wrap .i64 (v1 + v2)))), ())) (
  some (false, ()))
noncomputable def f65 (v1 : Int) (v2 : Int) (v3 : Int) (v4 : Int) : Option (Bool × Unit) :=
 cond (decide (0 ≤ v1)) (
  cond (decide (1 ≤ v2)) (
   cond (decide (v1 < v4)) (
    cond (decide (v2 ≤ (IntKind.wrap .i64 (v4 - v1)))) (
     cond (decide (0 ≤ v3)) (
      some ((decide (v3 < 2)), ())) (
      some (false, ()))) (
     some (false, ()))) (
    some (false, ()))) (
   some (false, ()))) (
  some (false, ()))
abbrev X30_4 : Type := ((List (Int × (Int × Int))) × Int × (List (Int × (Int × Int))) × Int × Int × Unit) × (Unit) × (Unit)
abbrev X30_69_2_0 : Type := ((List (Int × (Int × Int))) × Unit × Int × Int × Unit) × ((Int × Int × Int × Unit) × Unit) × (Unit)
abbrev Y30_69_2_0 : Type := (Unit) × ((Int × Int × Int × Unit) × Unit) × (Unit)
abbrev Z30_69_2_0 : Type := (Int × Unit) × ((Int × Int × Int × Unit) × Unit) × (Unit)
noncomputable def t30_69_2_0 (v1 : (List (Int × (Int × Int)))) (v2 : Int) (v3 : Int) (v4 : Int) (v5 : Int) (v6 : Int) : Option (R3 X30_69_2_0 Y30_69_2_0 Z30_69_2_0) :=
 cond (decide (v3 < v2)) (
  cond ((decide (0 ≤ v3)) && (decide (v3 < ((v1.length : Nat) : Int)))) (
   ((f64 v4 v5 v6 (rd (.pair (.int .i64) (.pair (.int .i64) (.int .i64))) v1 (Int.toNat v3)).1 (rd (.pair (.int .i64) (.pair (.int .i64) (.int .i64))) v1 (Int.toNat v3)).2.1 (rd (.pair (.int .i64) (.pair (.int .i64) (.int .i64))) v1 (Int.toNat v3)).2.2)).bind fun y7 =>
   cond y7.1 (
    some (R3.ret ((v3, ()), (((v4, (v5, (v6, ()))), ()), ())))) (
    some (R3.next ((v1, ((), (v2, ((IntKind.wrap .i64 (v3 + 1)), ())))), (((v4, (v5, (v6, ()))), ()), ()))))) (
   none)) (
  some (R3.out ((), (((v4, (v5, (v6, ()))), ()), ()))))
noncomputable def u30_69_2_0 (z : X30_69_2_0) : Option (R3 X30_69_2_0 Y30_69_2_0 Z30_69_2_0) := t30_69_2_0 z.1.1 z.1.2.2.1 z.1.2.2.2.1 z.2.1.1.1 z.2.1.1.2.1 z.2.1.1.2.2.1
abbrev Y30_4 : Type := (Unit) × (Unit) × (Unit)
abbrev Z30_4 : Type := (Bool × Unit) × (Unit) × (Unit)
noncomputable def t30_4 (v1 : (List (Int × (Int × Int)))) (v2 : Int) (v3 : (List (Int × (Int × Int)))) (v4 : Int) (v5 : Int) : Option (R3 X30_4 Y30_4 Z30_4) :=
 cond (decide (v5 < v4)) (
  cond ((decide (0 ≤ v5)) && (decide (v5 < ((v3.length : Nat) : Int)))) (
   ((f65 (rd (.pair (.int .i64) (.pair (.int .i64) (.int .i64))) v3 (Int.toNat v5)).1 (rd (.pair (.int .i64) (.pair (.int .i64) (.int .i64))) v3 (Int.toNat v5)).2.1 (rd (.pair (.int .i64) (.pair (.int .i64) (.int .i64))) v3 (Int.toNat v5)).2.2 v2)).bind fun y6 =>
   cond (!y6.1) (
    some (R3.ret ((false, ()), ((), ())))) (
    cond ((decide (0 ≤ v5)) && (decide (v5 ≤ ((v1.length : Nat) : Int)))) (
     ((iter big u30_69_2_0 (((List.drop 0 (List.take (Int.toNat v5) v1)), ((), ((((List.drop 0 (List.take (Int.toNat v5) v1)).length : Nat) : Int), (0, ())))), ((((rd (.pair (.int .i64) (.pair (.int .i64) (.int .i64))) v3 (Int.toNat v5)).1, ((rd (.pair (.int .i64) (.pair (.int .i64) (.int .i64))) v3 (Int.toNat v5)).2.1, ((rd (.pair (.int .i64) (.pair (.int .i64) (.int .i64))) v3 (Int.toNat v5)).2.2, ()))), ()), ())))).bind fun r => match r with
     | .inl y7 =>
       some (R3.next ((v1, (v2, (v3, (v4, ((IntKind.wrap .i64 (v5 + 1)), ()))))), ((), ())))
     | .inr z8 =>
       cond (decide (0 ≤ z8.1.1)) (
        some (R3.ret ((false, ()), ((), ())))) (
        some (R3.next ((v1, (v2, (v3, (v4, ((IntKind.wrap .i64 (v5 + 1)), ()))))), ((), ()))))) (
     none))) (
   none)) (
  some (R3.out ((), ((), ()))))
noncomputable def u30_4 (z : X30_4) : Option (R3 X30_4 Y30_4 Z30_4) := t30_4 z.1.1 z.1.2.1 z.1.2.2.1 z.1.2.2.2.1 z.1.2.2.2.2.1
noncomputable def f30 (v1 : (List (Int × (Int × Int)))) (v2 : Int) : Option (Bool × Unit) :=
 cond (decide (v2 < 0)) (
  some (false, ())) (
  cond (decide (4 < v2)) (
   some (false, ())) (
   cond (decide (3 < ((v1.length : Nat) : Int))) (
    some (false, ())) (
    ((iter big u30_4 ((v1, (v2, (v1, (((v1.length : Nat) : Int), (0, ()))))), ((), ())))).bind fun r => match r with
    | .inl y3 =>
      some (true, ())
    | .inr z4 =>
      some (z4.1.1, ()))))
noncomputable def f31 (v1 : Int) (v2 : Int) (v3 : Int) (v4 : Int) (v5 : Int) (v6 : Int) (v7 : Int) (v8 : Int) (v9 : Int) (v10 : Int) (v11 : Int) (v12 : Bool) (v13 : Int) (v14 : (List (Int × (Int × Int)))) (v15 : (List (Int × (Int × (Int × (Int × Int)))))) (v16 : (List (Int × (Int × Int)))) : Option (Int × Unit) :=
 ((f34 v3 v4)).bind fun y17 =>
 some (y17.1, ())
noncomputable def f50 (v1 : Int) (v2 : Int) (v3 : Int) (v4 : Int) (v5 : Int) (v6 : Int) (v7 : Int) (v8 : Int) : Option (Int × Unit) :=
 ((f27 v1 v2 v3 v4 v5 v6 v7 v8)).bind fun y9 =>
 cond (!y9.1) (
  some (0, ())) (
  ((f60 v1 v2 v3 v4 v5 v6 v7 v8)).bind fun y10 =>
  ((f49 v1 v2 v3 v4 v5 v6 v7 v8)).bind fun y11 =>
  cond (!(decide (y11.1 = 0))) (
   some ((IntKind.wrap .i64 (Int.tdiv y10.1 y11.1)), ())) (
   none))
noncomputable def f21 (v1 : Int) (v2 : Int) (v3 : Int) (v4 : Int) (v5 : Int) (v6 : Int) (v7 : Int) (v8 : Int) (v9 : Int) : Option ((Int × (Int × Int)) × (Bool × Unit)) :=
 ((f27 v1 v2 v3 v4 v5 v6 v7 v8)).bind fun y10 =>
 cond (!y10.1) (
  some ((0, (0, 0)), (false, ()))) (
  cond (decide (v9 < 0)) (
   some ((0, (0, 0)), (false, ()))) (
   ((f34 v1 v2)).bind fun y11 =>
   cond (decide (y11.1 ≤ v9)) (
    some ((0, (0, 0)), (false, ()))) (
    ((f49 v1 v2 v3 v4 v5 v6 v7 v8)).bind fun y12 =>
    ((f50 v1 v2 v3 v4 v5 v6 v7 v8)).bind fun y13 =>
    cond (!(decide (y12.1 = 0))) (
     cond (!(decide (y12.1 = 0))) (
      some (((IntKind.wrap .i64 (Int.tdiv v9 y12.1)), ((IntKind.wrap .i64 (v5 + (IntKind.wrap .i64 ((Int.tmod v9 y12.1) * y13.1)))), (IntKind.wrap .i64 ((IntKind.wrap .i64 ((IntKind.wrap .i64 (v5 + (IntKind.wrap .i64 ((Int.tmod v9 y12.1) * y13.1)))) + y13.1)) - 1)))), (true, ()))) (
      none)) (
     none))))
noncomputable def f13 (v1 : Int) (v2 : Int) (v3 : Int) (v4 : Int) (v5 : Int) (v6 : Int) (v7 : Int) (v8 : Int) : Option (Int × Unit) :=
 ((f27 v1 v2 v3 v4 v5 v6 v7 v8)).bind fun y9 =>
 cond (!y9.1) (
  some (0, ())) (
  cond (!(decide (v8 = 0))) (
   some ((IntKind.wrap .i64 (Int.tdiv v7 v8)), ())) (
   none))
noncomputable def f23 (v1 : Int) (v2 : Int) (v3 : Int) (v4 : Int) (v5 : Int) (v6 : Int) (v7 : Int) (v8 : Int) (v9 : Int) (v10 : Int) : Option ((Int × (Int × Int)) × (Bool × Unit)) :=
 cond (decide (v9 < 0)) (
  some ((0, (0, 0)), (false, ()))) (
  ((f34 v3 v4)).bind fun y11 =>
  cond (decide (y11.1 ≤ v9)) (
   some ((0, (0, 0)), (false, ()))) (
   cond (decide (v10 < 0)) (
    some ((0, (0, 0)), (false, ()))) (
    ((f13 v1 v2 v3 v4 v5 v6 v7 v8)).bind fun y12 =>
    cond (decide (y12.1 ≤ v10)) (
     some ((0, (0, 0)), (false, ()))) (
     some ((v9, ((IntKind.wrap .i64 ((IntKind.wrap .i64 ((IntKind.wrap .i64 (v6 - v7)) + 1)) + (IntKind.wrap .i64 (v10 * v8)))), (IntKind.wrap .i64 ((IntKind.wrap .i64 ((IntKind.wrap .i64 ((IntKind.wrap .i64 ((IntKind.wrap .i64 (v6 - v7)) + 1)) + (IntKind.wrap .i64 (v10 * v8)))) + v8)) - 1)))), (true, ()))))))
noncomputable def f71 (v1 : Int) (v2 : Int) (v3 : Int) (v4 : Int) : Option (Bool × Unit) :=
 cond (decide (0 ≤ v1)) (
  cond (decide (v1 ≤ 4)) (
   cond (decide (1 ≤ v2)) (
    cond (decide (v2 ≤ 4)) (
     cond (decide (v1 ≤ v4)) (
      some ((decide (v4 < (IntKind.wrap .i64 (v1 + v2)))), ())) (
      some (false, ()))) (
     some (false, ()))) (
    some (false, ()))) (
   some (false, ()))) (
  some (false, ()))
abbrev X35_69_2_0 : Type := ((List (Int × (Int × Int))) × Unit × Int × Int × Unit) × ((Int × Unit) × Unit) × (Unit)
abbrev Y35_69_2_0 : Type := (Unit) × ((Int × Unit) × Unit) × (Unit)
abbrev Z35_69_2_0 : Type := (Int × Unit) × ((Int × Unit) × Unit) × (Unit)
noncomputable def t35_69_2_0 (v1 : (List (Int × (Int × Int)))) (v2 : Int) (v3 : Int) (v4 : Int) : Option (R3 X35_69_2_0 Y35_69_2_0 Z35_69_2_0) :=
 cond (decide (v3 < v2)) (
  cond ((decide (0 ≤ v3)) && (decide (v3 < ((v1.length : Nat) : Int)))) (
   ((f71 (rd (.pair (.int .i64) (.pair (.int .i64) (.int .i64))) v1 (Int.toNat v3)).1 (rd (.pair (.int .i64) (.pair (.int .i64) (.int .i64))) v1 (Int.toNat v3)).2.1 (rd (.pair (.int .i64) (.pair (.int .i64) (.int .i64))) v1 (Int.toNat v3)).2.2 v4)).bind fun y5 =>
   cond y5.1 (
    some (R3.ret ((v3, ()), (((v4, ()), ()), ())))) (
    some (R3.next ((v1, ((), (v2, ((IntKind.wrap .i64 (v3 + 1)), ())))), (((v4, ()), ()), ()))))) (
   none)) (
  some (R3.out ((), (((v4, ()), ()), ()))))
noncomputable def u35_69_2_0 (z : X35_69_2_0) : Option (R3 X35_69_2_0 Y35_69_2_0 Z35_69_2_0) := t35_69_2_0 z.1.1 z.1.2.2.1 z.1.2.2.2.1 z.2.1.1.1
noncomputable def f35 (v1 : (List (Int × (Int × Int)))) (v2 : Int) : Option (Int × Unit) :=
 ((iter big u35_69_2_0 ((v1, ((), (((v1.length : Nat) : Int), (0, ())))), (((v2, ()), ()), ())))).bind fun r => match r with
 | .inl y3 =>
   some ((-1), ())
 | .inr z4 =>
   some (z4.1.1, ())
noncomputable def f67 (v1 : Int) (v2 : Int) (v3 : Int) (v4 : Int) : Option (Bool × Unit) :=
 cond (decide (v3 < v1)) (
  some (true, ())) (
  cond (decide (v1 = v3)) (
   some ((decide (v4 < v2)), ())) (
   some (false, ())))
abbrev X32_3 : Type := (Unit × Unit × (List (Int × (Int × (Int × (Int × Int))))) × Int × Int × Unit) × ((Int × Int × Int × Int × Int × Int × Int × Int × Int × Int × Int × Bool × Int × (List (Int × (Int × Int))) × (List (Int × (Int × (Int × (Int × Int))))) × (List (Int × (Int × Int))) × Unit) × (List (Int × Int)) × Unit) × (Unit)
abbrev Y32_3 : Type := (Unit × Unit) × ((Int × Int × Int × Int × Int × Int × Int × Int × Int × Int × Int × Bool × Int × (List (Int × (Int × Int))) × (List (Int × (Int × (Int × (Int × Int))))) × (List (Int × (Int × Int))) × Unit) × Unit) × (Unit)
abbrev Z32_3 : Type := (Bool × Unit) × (Unit) × (Unit)
noncomputable def t32_3 (v1 : (List (Int × (Int × (Int × (Int × Int)))))) (v2 : Int) (v3 : Int) (v4 : Int) (v5 : Int) (v6 : Int) (v7 : Int) (v8 : Int) (v9 : Int) (v10 : Int) (v11 : Int) (v12 : Int) (v13 : Int) (v14 : Int) (v15 : Bool) (v16 : Int) (v17 : (List (Int × (Int × Int)))) (v18 : (List (Int × (Int × (Int × (Int × Int)))))) (v19 : (List (Int × (Int × Int)))) (v20 : (List (Int × Int))) : Option (R3 X32_3 Y32_3 Z32_3) :=
 cond (decide (v3 < v2)) (
  cond ((decide (0 ≤ v3)) && (decide (v3 < ((v1.length : Nat) : Int)))) (
   ((f21 v4 v5 v6 v7 v8 v9 v10 v11 (rd (.pair (.int .i64) (.pair (.int .i64) (.pair (.int .i64) (.pair (.int .i64) (.int .i64))))) v1 (Int.toNat v3)).1)).bind fun y21 =>
   ((f23 v4 v5 v6 v7 v8 v9 v10 v11 (rd (.pair (.int .i64) (.pair (.int .i64) (.pair (.int .i64) (.pair (.int .i64) (.int .i64))))) v1 (Int.toNat v3)).2.1 (rd (.pair (.int .i64) (.pair (.int .i64) (.pair (.int .i64) (.pair (.int .i64) (.int .i64))))) v1 (Int.toNat v3)).2.2.1)).bind fun y22 =>
   cond (!y21.2.1) (
    some (R3.ret ((false, ()), ((), ())))) (
    cond (!y22.2.1) (
     some (R3.ret ((false, ()), ((), ())))) (
     ((f35 v17 (rd (.pair (.int .i64) (.pair (.int .i64) (.pair (.int .i64) (.pair (.int .i64) (.int .i64))))) v1 (Int.toNat v3)).2.1)).bind fun y23 =>
     cond (decide (y23.1 = (-1))) (
      some (R3.ret ((false, ()), ((), ())))) (
      cond v15 (
       cond (!(decide (y21.1.1 = (rd (.pair (.int .i64) (.pair (.int .i64) (.pair (.int .i64) (.pair (.int .i64) (.int .i64))))) v1 (Int.toNat v3)).2.1))) (
        some (R3.ret ((false, ()), ((), ())))) (
        cond (decide (v12 < (mVal (mPut v20 (rd (.pair (.int .i64) (.pair (.int .i64) (.pair (.int .i64) (.pair (.int .i64) (.int .i64))))) v1 (Int.toNat v3)).1 (IntKind.wrap .i64 ((mVal v20 (rd (.pair (.int .i64) (.pair (.int .i64) (.pair (.int .i64) (.pair (.int .i64) (.int .i64))))) v1 (Int.toNat v3)).1) + 1))) (rd (.pair (.int .i64) (.pair (.int .i64) (.pair (.int .i64) (.pair (.int .i64) (.int .i64))))) v1 (Int.toNat v3)).1))) (
         some (R3.ret ((false, ()), ((), ())))) (
         cond (decide ((rd (.pair (.int .i64) (.pair (.int .i64) (.pair (.int .i64) (.pair (.int .i64) (.int .i64))))) v1 (Int.toNat v3)).2.2.2.1 < 0)) (
          some (R3.ret ((false, ()), ((), ())))) (
          cond (decide ((rd (.pair (.int .i64) (.pair (.int .i64) (.pair (.int .i64) (.pair (.int .i64) (.int .i64))))) v1 (Int.toNat v3)).2.2.2.2 < (rd (.pair (.int .i64) (.pair (.int .i64) (.pair (.int .i64) (.pair (.int .i64) (.int .i64))))) v1 (Int.toNat v3)).2.2.2.1)) (
           some (R3.ret ((false, ()), ((), ())))) (
           cond (decide (v16 < (rd (.pair (.int .i64) (.pair (.int .i64) (.pair (.int .i64) (.pair (.int .i64) (.int .i64))))) v1 (Int.toNat v3)).2.2.2.2)) (
            some (R3.ret ((false, ()), ((), ())))) (
            cond (decide ((rd (.pair (.int .i64) (.pair (.int .i64) (.pair (.int .i64) (.pair (.int .i64) (.int .i64))))) v1 (Int.toNat v3)).2.2.2.2 ≤ (IntKind.wrap .i64 (v16 - v13)))) (
             some (R3.ret ((false, ()), ((), ())))) (
             cond (decide (0 < v3)) (
              cond ((decide (0 ≤ (IntKind.wrap .i64 (v3 - 1)))) && (decide ((IntKind.wrap .i64 (v3 - 1)) < ((v18.length : Nat) : Int)))) (
               cond ((decide (0 ≤ (IntKind.wrap .i64 (v3 - 1)))) && (decide ((IntKind.wrap .i64 (v3 - 1)) < ((v18.length : Nat) : Int)))) (
                ((f67 (rd (.pair (.int .i64) (.pair (.int .i64) (.pair (.int .i64) (.pair (.int .i64) (.int .i64))))) v1 (Int.toNat v3)).2.1 (rd (.pair (.int .i64) (.pair (.int .i64) (.pair (.int .i64) (.pair (.int .i64) (.int .i64))))) v1 (Int.toNat v3)).2.2.1 (rd (.pair (.int .i64) (.pair (.int .i64) (.pair (.int .i64) (.pair (.int .i64) (.int .i64))))) v18 (Int.toNat (IntKind.wrap .i64 (v3 - 1)))).2.1 (rd (.pair (.int .i64) (.pair (.int .i64) (.pair (.int .i64) (.pair (.int .i64) (.int .i64))))) v18 (Int.toNat (IntKind.wrap .i64 (v3 - 1)))).2.2.1)).bind fun y24 =>
                cond (!y24.1) (
                 some (R3.ret ((false, ()), ((), ())))) (
                 some (R3.next (((), ((), (v1, (v2, ((IntKind.wrap .i64 (v3 + 1)), ()))))), (((v4, (v5, (v6, (v7, (v8, (v9, (v10, (v11, (v12, (v13, (v14, (v15, (v16, (v17, (v18, (v19, ())))))))))))))))), ((mPut v20 (rd (.pair (.int .i64) (.pair (.int .i64) (.pair (.int .i64) (.pair (.int .i64) (.int .i64))))) v1 (Int.toNat v3)).1 (IntKind.wrap .i64 ((mVal v20 (rd (.pair (.int .i64) (.pair (.int .i64) (.pair (.int .i64) (.pair (.int .i64) (.int .i64))))) v1 (Int.toNat v3)).1) + 1))), ())), ()))))) (
                none)) (
               none)) (
              some (R3.next (((), ((), (v1, (v2, ((IntKind.wrap .i64 (v3 + 1)), ()))))), (((v4, (v5, (v6, (v7, (v8, (v9, (v10, (v11, (v12, (v13, (v14, (v15, (v16, (v17, (v18, (v19, ())))))))))))))))), ((mPut v20 (rd (.pair (.int .i64) (.pair (.int .i64) (.pair (.int .i64) (.pair (.int .i64) (.int .i64))))) v1 (Int.toNat v3)).1 (IntKind.wrap .i64 ((mVal v20 (rd (.pair (.int .i64) (.pair (.int .i64) (.pair (.int .i64) (.pair (.int .i64) (.int .i64))))) v1 (Int.toNat v3)).1) + 1))), ())), ()))))))))))) (
       cond (decide (v12 < (mVal (mPut v20 (rd (.pair (.int .i64) (.pair (.int .i64) (.pair (.int .i64) (.pair (.int .i64) (.int .i64))))) v1 (Int.toNat v3)).1 (IntKind.wrap .i64 ((mVal v20 (rd (.pair (.int .i64) (.pair (.int .i64) (.pair (.int .i64) (.pair (.int .i64) (.int .i64))))) v1 (Int.toNat v3)).1) + 1))) (rd (.pair (.int .i64) (.pair (.int .i64) (.pair (.int .i64) (.pair (.int .i64) (.int .i64))))) v1 (Int.toNat v3)).1))) (
        some (R3.ret ((false, ()), ((), ())))) (
        cond (decide ((rd (.pair (.int .i64) (.pair (.int .i64) (.pair (.int .i64) (.pair (.int .i64) (.int .i64))))) v1 (Int.toNat v3)).2.2.2.1 < 0)) (
         some (R3.ret ((false, ()), ((), ())))) (
         cond (decide ((rd (.pair (.int .i64) (.pair (.int .i64) (.pair (.int .i64) (.pair (.int .i64) (.int .i64))))) v1 (Int.toNat v3)).2.2.2.2 < (rd (.pair (.int .i64) (.pair (.int .i64) (.pair (.int .i64) (.pair (.int .i64) (.int .i64))))) v1 (Int.toNat v3)).2.2.2.1)) (
          some (R3.ret ((false, ()), ((), ())))) (
          cond (decide (v16 < (rd (.pair (.int .i64) (.pair (.int .i64) (.pair (.int .i64) (.pair (.int .i64) (.int .i64))))) v1 (Int.toNat v3)).2.2.2.2)) (
           some (R3.ret ((false, ()), ((), ())))) (
           cond (decide ((rd (.pair (.int .i64) (.pair (.int .i64) (.pair (.int .i64) (.pair (.int .i64) (.int .i64))))) v1 (Int.toNat v3)).2.2.2.2 ≤ (IntKind.wrap .i64 (v16 - v13)))) (
            some (R3.ret ((false, ()), ((), ())))) (
            cond (decide (0 < v3)) (
             cond ((decide (0 ≤ (IntKind.wrap .i64 (v3 - 1)))) && (decide ((IntKind.wrap .i64 (v3 - 1)) < ((v18.length : Nat) : Int)))) (
              cond ((decide (0 ≤ (IntKind.wrap .i64 (v3 - 1)))) && (decide ((IntKind.wrap .i64 (v3 - 1)) < ((v18.length : Nat) : Int)))) (
               ((f67 (rd (.pair (.int .i64) (.pair (.int .i64) (.pair (.int .i64) (.pair (.int .i64) (.int .i64))))) v1 (Int.toNat v3)).2.1 (rd (.pair (.int .i64) (.pair (.int .i64) (.pair (.int .i64) (.pair (.int .i64) (.int .i64))))) v1 (Int.toNat v3)).2.2.1 (rd (.pair (.int .i64) (.pair (.int .i64) (.pair (.int .i64) (.pair (.int .i64) (.int .i64))))) v18 (Int.toNat (IntKind.wrap .i64 (v3 - 1)))).2.1 (rd (.pair (.int .i64) (.pair (.int .i64) (.pair (.int .i64) (.pair (.int .i64) (.int .i64))))) v18 (Int.toNat (IntKind.wrap .i64 (v3 - 1)))).2.2.1)).bind fun y25 =>
               cond (!y25.1) (
                some (R3.ret ((false, ()), ((), ())))) (
                some (R3.next (((), ((), (v1, (v2, ((IntKind.wrap .i64 (v3 + 1)), ()))))), (((v4, (v5, (v6, (v7, (v8, (v9, (v10, (v11, (v12, (v13, (v14, (v15, (v16, (v17, (v18, (v19, ())))))))))))))))), ((mPut v20 (rd (.pair (.int .i64) (.pair (.int .i64) (.pair (.int .i64) (.pair (.int .i64) (.int .i64))))) v1 (Int.toNat v3)).1 (IntKind.wrap .i64 ((mVal v20 (rd (.pair (.int .i64) (.pair (.int .i64) (.pair (.int .i64) (.pair (.int .i64) (.int .i64))))) v1 (Int.toNat v3)).1) + 1))), ())), ()))))) (
               none)) (
              none)) (
             some (R3.next (((), ((), (v1, (v2, ((IntKind.wrap .i64 (v3 + 1)), ()))))), (((v4, (v5, (v6, (v7, (v8, (v9, (v10, (v11, (v12, (v13, (v14, (v15, (v16, (v17, (v18, (v19, ())))))))))))))))), ((mPut v20 (rd (.pair (.int .i64) (.pair (.int .i64) (.pair (.int .i64) (.pair (.int .i64) (.int .i64))))) v1 (Int.toNat v3)).1 (IntKind.wrap .i64 ((mVal v20 (rd (.pair (.int .i64) (.pair (.int .i64) (.pair (.int .i64) (.pair (.int .i64) (.int .i64))))) v1 (Int.toNat v3)).1) + 1))), ())), ())))))))))))))) (
   none)) (
  some (R3.out (((), ()), (((v4, (v5, (v6, (v7, (v8, (v9, (v10, (v11, (v12, (v13, (v14, (v15, (v16, (v17, (v18, (v19, ())))))))))))))))), ()), ()))))
noncomputable def u32_3 (z : X32_3) : Option (R3 X32_3 Y32_3 Z32_3) := t32_3 z.1.2.2.1 z.1.2.2.2.1 z.1.2.2.2.2.1 z.2.1.1.1 z.2.1.1.2.1 z.2.1.1.2.2.1 z.2.1.1.2.2.2.1 z.2.1.1.2.2.2.2.1 z.2.1.1.2.2.2.2.2.1 z.2.1.1.2.2.2.2.2.2.1 z.2.1.1.2.2.2.2.2.2.2.1 z.2.1.1.2.2.2.2.2.2.2.2.1 z.2.1.1.2.2.2.2.2.2.2.2.2.1 z.2.1.1.2.2.2.2.2.2.2.2.2.2.1 z.2.1.1.2.2.2.2.2.2.2.2.2.2.2.1 z.2.1.1.2.2.2.2.2.2.2.2.2.2.2.2.1 z.2.1.1.2.2.2.2.2.2.2.2.2.2.2.2.2.1 z.2.1.1.2.2.2.2.2.2.2.2.2.2.2.2.2.2.1 z.2.1.1.2.2.2.2.2.2.2.2.2.2.2.2.2.2.2.1 z.2.1.2.1
noncomputable def f32 (v1 : Int) (v2 : Int) (v3 : Int) (v4 : Int) (v5 : Int) (v6 : Int) (v7 : Int) (v8 : Int) (v9 : Int) (v10 : Int) (v11 : Int) (v12 : Bool) (v13 : Int) (v14 : (List (Int × (Int × Int)))) (v15 : (List (Int × (Int × (Int × (Int × Int)))))) (v16 : (List (Int × (Int × Int)))) : Option (Bool × Unit) :=
 ((iter big u32_3 (((), ((), (v15, (((v15.length : Nat) : Int), (0, ()))))), (((v1, (v2, (v3, (v4, (v5, (v6, (v7, (v8, (v9, (v10, (v11, (v12, (v13, (v14, (v15, (v16, ())))))))))))))))), ([], ())), ())))).bind fun r => match r with
 | .inl y17 =>
   some ((decide (((y17.2.1.1.2.2.2.2.2.2.2.2.2.2.2.2.2.2.1.length : Nat) : Int) ≤ 32)), ())
 | .inr z18 =>
   some (z18.1.1, ())
noncomputable def f73 (v1 : Int) (v2 : Int) (v3 : Int) (v4 : Int) (v5 : Int) : Option (((Int × Int) × (Int × (Int × (Int × (Int × Int))))) × Unit) :=
 some (((v2, v3), (v1, (v2, (v3, (v4, v5))))), ())
noncomputable def f52 (v1 : Int) (v2 : Int) (v3 : Int) (v4 : Int) (v5 : Int) : Option ((Int × Int) × Unit) :=
 ((f73 v1 v2 v3 v4 v5)).bind fun y6 =>
 some ((y6.1.1.1, y6.1.1.2), ())
abbrev X25_86_2_0 : Type := ((List (Int × (Int × (Int × (Int × Int))))) × Unit × Int × Int × Unit) × ((Int × Int × Unit) × (Unit × Unit) × Unit) × (Unit)
abbrev Y25_86_2_0 : Type := (Unit) × ((Int × Int × Unit) × (Unit × Unit) × Unit) × (Unit)
abbrev Z25_86_2_0 : Type := (Int × Unit) × ((Int × Int × Unit) × (Unit × Unit) × Unit) × (Unit)
noncomputable def t25_86_2_0 (v1 : (List (Int × (Int × (Int × (Int × Int)))))) (v2 : Int) (v3 : Int) (v4 : Int) (v5 : Int) : Option (R3 X25_86_2_0 Y25_86_2_0 Z25_86_2_0) :=
 cond (decide (v3 < v2)) (
  cond ((decide (0 ≤ v3)) && (decide (v3 < ((v1.length : Nat) : Int)))) (
   ((f52 (rd (.pair (.int .i64) (.pair (.int .i64) (.pair (.int .i64) (.pair (.int .i64) (.int .i64))))) v1 (Int.toNat v3)).1 (rd (.pair (.int .i64) (.pair (.int .i64) (.pair (.int .i64) (.pair (.int .i64) (.int .i64))))) v1 (Int.toNat v3)).2.1 (rd (.pair (.int .i64) (.pair (.int .i64) (.pair (.int .i64) (.pair (.int .i64) (.int .i64))))) v1 (Int.toNat v3)).2.2.1 (rd (.pair (.int .i64) (.pair (.int .i64) (.pair (.int .i64) (.pair (.int .i64) (.int .i64))))) v1 (Int.toNat v3)).2.2.2.1 (rd (.pair (.int .i64) (.pair (.int .i64) (.pair (.int .i64) (.pair (.int .i64) (.int .i64))))) v1 (Int.toNat v3)).2.2.2.2)).bind fun y6 =>
   cond ((decide (y6.1.1 = v4)) && ((decide (y6.1.2 = v5)) && true)) (
    some (R3.ret ((v3, ()), (((v4, (v5, ())), (((), ()), ())), ())))) (
    some (R3.next ((v1, ((), (v2, ((IntKind.wrap .i64 (v3 + 1)), ())))), (((v4, (v5, ())), (((), ()), ())), ()))))) (
   none)) (
  some (R3.out ((), (((v4, (v5, ())), (((), ()), ())), ()))))
noncomputable def u25_86_2_0 (z : X25_86_2_0) : Option (R3 X25_86_2_0 Y25_86_2_0 Z25_86_2_0) := t25_86_2_0 z.1.1 z.1.2.2.1 z.1.2.2.2.1 z.2.1.1.1 z.2.1.1.2.1
noncomputable def f25 (v1 : (List (Int × (Int × (Int × (Int × Int)))))) (v2 : Int) (v3 : Int) : Option (Int × Unit) :=
 ((iter big u25_86_2_0 ((v1, ((), (((v1.length : Nat) : Int), (0, ())))), (((v2, (v3, ())), (((), ()), ())), ())))).bind fun r => match r with
 | .inl y4 =>
   some ((-1), ())
 | .inr z5 =>
   some (z5.1.1, ())
abbrev X33_2 : Type := (Unit × (List (Int × (Int × Int))) × Int × Int × Unit) × ((Int × Int × Int × Int × Int × Int × Int × Int × Int × Int × Int × Bool × Int × (List (Int × (Int × Int))) × (List (Int × (Int × (Int × (Int × Int))))) × (List (Int × (Int × Int))) × Unit) × Unit) × (Unit)
abbrev Y33_2 : Type := (Unit) × (Unit) × (Unit)
abbrev Z33_2 : Type := (Bool × Unit) × (Unit) × (Unit)
noncomputable def t33_2 (v1 : (List (Int × (Int × Int)))) (v2 : Int) (v3 : Int) (v4 : Int) (v5 : Int) (v6 : Int) (v7 : Int) (v8 : Int) (v9 : Int) (v10 : Int) (v11 : Int) (v12 : Int) (v13 : Int) (v14 : Int) (v15 : Bool) (v16 : Int) (v17 : (List (Int × (Int × Int)))) (v18 : (List (Int × (Int × (Int × (Int × Int)))))) (v19 : (List (Int × (Int × Int)))) : Option (R3 X33_2 Y33_2 Z33_2) :=
 cond (decide (v3 < v2)) (
  cond ((decide (0 ≤ v3)) && (decide (v3 < ((v1.length : Nat) : Int)))) (
   ((f23 v4 v5 v6 v7 v8 v9 v10 v11 (rd (.pair (.int .i64) (.pair (.int .i64) (.int .i64))) v1 (Int.toNat v3)).1 (rd (.pair (.int .i64) (.pair (.int .i64) (.int .i64))) v1 (Int.toNat v3)).2.1)).bind fun y20 =>
   cond (!y20.2.1) (
    some (R3.ret ((false, ()), ((), ())))) (
    ((f29 (rd (.pair (.int .i64) (.pair (.int .i64) (.int .i64))) v1 (Int.toNat v3)).2.2 (IntKind.wrap .i64 (v16 + 1)) (IntKind.wrap .i64 (v16 + 1048576)))).bind fun y21 =>
    cond (!y21.1) (
     some (R3.ret ((false, ()), ((), ())))) (
     ((f25 v18 (rd (.pair (.int .i64) (.pair (.int .i64) (.int .i64))) v1 (Int.toNat v3)).1 (rd (.pair (.int .i64) (.pair (.int .i64) (.int .i64))) v1 (Int.toNat v3)).2.1)).bind fun y22 =>
     cond (!(decide (y22.1 = (-1)))) (
      some (R3.ret ((false, ()), ((), ())))) (
      cond (decide (0 < v3)) (
       cond ((decide (0 ≤ (IntKind.wrap .i64 (v3 - 1)))) && (decide ((IntKind.wrap .i64 (v3 - 1)) < ((v19.length : Nat) : Int)))) (
        cond ((decide (0 ≤ (IntKind.wrap .i64 (v3 - 1)))) && (decide ((IntKind.wrap .i64 (v3 - 1)) < ((v19.length : Nat) : Int)))) (
         ((f67 (rd (.pair (.int .i64) (.pair (.int .i64) (.int .i64))) v1 (Int.toNat v3)).1 (rd (.pair (.int .i64) (.pair (.int .i64) (.int .i64))) v1 (Int.toNat v3)).2.1 (rd (.pair (.int .i64) (.pair (.int .i64) (.int .i64))) v19 (Int.toNat (IntKind.wrap .i64 (v3 - 1)))).1 (rd (.pair (.int .i64) (.pair (.int .i64) (.int .i64))) v19 (Int.toNat (IntKind.wrap .i64 (v3 - 1)))).2.1)).bind fun y23 =>
         cond (!y23.1) (
          some (R3.ret ((false, ()), ((), ())))) (
          some (R3.next (((), (v1, (v2, ((IntKind.wrap .i64 (v3 + 1)), ())))), (((v4, (v5, (v6, (v7, (v8, (v9, (v10, (v11, (v12, (v13, (v14, (v15, (v16, (v17, (v18, (v19, ())))))))))))))))), ()), ()))))) (
         none)) (
        none)) (
       some (R3.next (((), (v1, (v2, ((IntKind.wrap .i64 (v3 + 1)), ())))), (((v4, (v5, (v6, (v7, (v8, (v9, (v10, (v11, (v12, (v13, (v14, (v15, (v16, (v17, (v18, (v19, ())))))))))))))))), ()), ())))))))) (
   none)) (
  some (R3.out ((), ((), ()))))
noncomputable def u33_2 (z : X33_2) : Option (R3 X33_2 Y33_2 Z33_2) := t33_2 z.1.2.1 z.1.2.2.1 z.1.2.2.2.1 z.2.1.1.1 z.2.1.1.2.1 z.2.1.1.2.2.1 z.2.1.1.2.2.2.1 z.2.1.1.2.2.2.2.1 z.2.1.1.2.2.2.2.2.1 z.2.1.1.2.2.2.2.2.2.1 z.2.1.1.2.2.2.2.2.2.2.1 z.2.1.1.2.2.2.2.2.2.2.2.1 z.2.1.1.2.2.2.2.2.2.2.2.2.1 z.2.1.1.2.2.2.2.2.2.2.2.2.2.1 z.2.1.1.2.2.2.2.2.2.2.2.2.2.2.1 z.2.1.1.2.2.2.2.2.2.2.2.2.2.2.2.1 z.2.1.1.2.2.2.2.2.2.2.2.2.2.2.2.2.1 z.2.1.1.2.2.2.2.2.2.2.2.2.2.2.2.2.2.1 z.2.1.1.2.2.2.2.2.2.2.2.2.2.2.2.2.2.2.1
noncomputable def f33 (v1 : Int) (v2 : Int) (v3 : Int) (v4 : Int) (v5 : Int) (v6 : Int) (v7 : Int) (v8 : Int) (v9 : Int) (v10 : Int) (v11 : Int) (v12 : Bool) (v13 : Int) (v14 : (List (Int × (Int × Int)))) (v15 : (List (Int × (Int × (Int × (Int × Int)))))) (v16 : (List (Int × (Int × Int)))) : Option (Bool × Unit) :=
 ((iter big u33_2 (((), (v16, (((v16.length : Nat) : Int), (0, ())))), (((v1, (v2, (v3, (v4, (v5, (v6, (v7, (v8, (v9, (v10, (v11, (v12, (v13, (v14, (v15, (v16, ())))))))))))))))), ()), ())))).bind fun r => match r with
 | .inl y17 =>
   some (true, ())
 | .inr z18 =>
   some (z18.1.1, ())
noncomputable def f11 (v1 : Int) (v2 : Int) (v3 : Int) (v4 : Int) (v5 : Int) (v6 : Int) (v7 : Int) (v8 : Int) (v9 : Int) (v10 : Int) (v11 : Int) (v12 : Bool) (v13 : Int) (v14 : (List (Int × (Int × Int)))) (v15 : (List (Int × (Int × (Int × (Int × Int)))))) (v16 : (List (Int × (Int × Int)))) : Option (Bool × Unit) :=
 ((f27 v1 v2 v3 v4 v5 v6 v7 v8)).bind fun y17 =>
 cond y17.1 (
  ((f28 v9 v10 v11 v12)).bind fun y18 =>
  cond y18.1 (
   ((f29 v13 0 1073741824)).bind fun y19 =>
   cond y19.1 (
    ((f31 v1 v2 v3 v4 v5 v6 v7 v8 v9 v10 v11 v12 v13 v14 v15 v16)).bind fun y20 =>
    ((f30 v14 y20.1)).bind fun y21 =>
    cond y21.1 (
     ((f32 v1 v2 v3 v4 v5 v6 v7 v8 v9 v10 v11 v12 v13 v14 v15 v16)).bind fun y22 =>
     cond y22.1 (
      ((f33 v1 v2 v3 v4 v5 v6 v7 v8 v9 v10 v11 v12 v13 v14 v15 v16)).bind fun y23 =>
      some (y23.1, ())) (
      some (false, ()))) (
     some (false, ()))) (
    some (false, ()))) (
   some (false, ()))) (
  some (false, ()))
abbrev X22_3 : Type := (Int × (List (Int × (Int × (Int × (Int × Int))))) × Int × Int × Unit) × (Unit) × ((List Int) × Unit)
abbrev Y22_3 : Type := (Unit) × (Unit) × ((List Int) × Unit)
abbrev Z22_3 : Type := Unit × Unit × Unit
noncomputable def t22_3 (v1 : Int) (v2 : (List (Int × (Int × (Int × (Int × Int)))))) (v3 : Int) (v4 : Int) (v5 : (List Int)) : Option (R3 X22_3 Y22_3 Z22_3) :=
 cond (decide (v4 < v3)) (
  cond ((decide (0 ≤ v4)) && (decide (v4 < ((v2.length : Nat) : Int)))) (
   cond (decide ((rd (.pair (.int .i64) (.pair (.int .i64) (.pair (.int .i64) (.pair (.int .i64) (.int .i64))))) v2 (Int.toNat v4)).1 = v1)) (
    cond ((decide (((v5.length + 1) * 8) ≤ 140737488355328)) && (decide ((v5.length + 1) ≤ 9223372036854775807))) (
     some (R3.next ((v1, (v2, (v3, ((IntKind.wrap .i64 (v4 + 1)), ())))), ((), ((v5 ++ [v4]), ()))))) (
     none)) (
    some (R3.next ((v1, (v2, (v3, ((IntKind.wrap .i64 (v4 + 1)), ())))), ((), (v5, ())))))) (
   none)) (
  some (R3.out ((), ((), (v5, ())))))
noncomputable def u22_3 (z : X22_3) : Option (R3 X22_3 Y22_3 Z22_3) := t22_3 z.1.1 z.1.2.1 z.1.2.2.1 z.1.2.2.2.1 z.2.2.1
noncomputable def f22 (v1 : (List (Int × (Int × (Int × (Int × Int)))))) (v2 : Int) : Option ((List Int) × Unit) :=
 ((iter big u22_3 ((v2, (v1, (((v1.length : Nat) : Int), (0, ())))), ((), ([], ()))))).bind fun r => match r with
 | .inl y3 =>
   some (y3.2.2.1, ())
 | .inr z4 =>
   none
abbrev X9_6 : Type := (Unit × Int × Int × Unit) × ((Int × Int × Int × Int × Int × Int × Int × Int × Int × Int × Int × Bool × Int × (List (Int × (Int × Int))) × (List (Int × (Int × (Int × (Int × Int))))) × (List (Int × (Int × Int))) × Unit) × Unit) × ((List (Int × (Int × Int))) × (List Int) × Unit)
abbrev Y9_6 : Type := (Unit) × (Unit) × ((List (Int × (Int × Int))) × Unit)
abbrev Z9_6 : Type := Unit × Unit × Unit
noncomputable def t9_6 (v1 : Int) (v2 : Int) (v3 : Int) (v4 : Int) (v5 : Int) (v6 : Int) (v7 : Int) (v8 : Int) (v9 : Int) (v10 : Int) (v11 : Int) (v12 : Int) (v13 : Int) (v14 : Bool) (v15 : Int) (v16 : (List (Int × (Int × Int)))) (v17 : (List (Int × (Int × (Int × (Int × Int)))))) (v18 : (List (Int × (Int × Int)))) (v19 : (List (Int × (Int × Int)))) (v20 : (List Int)) : Option (R3 X9_6 Y9_6 Z9_6) :=
 cond (decide (v2 < v1)) (
  cond ((decide (0 ≤ v2)) && (decide (v2 < ((v20.length : Nat) : Int)))) (
   cond (decide ((Int.toNat v2) < v20.length)) (
    cond ((decide (0 ≤ (rd (.int .i64) v20 (Int.toNat v2)))) && (decide ((rd (.int .i64) v20 (Int.toNat v2)) < ((v17.length : Nat) : Int)))) (
     cond ((decide (0 ≤ (rd (.int .i64) v20 (Int.toNat v2)))) && (decide ((rd (.int .i64) v20 (Int.toNat v2)) < ((v17.length : Nat) : Int)))) (
      ((f23 v3 v4 v5 v6 v7 v8 v9 v10 (rd (.pair (.int .i64) (.pair (.int .i64) (.pair (.int .i64) (.pair (.int .i64) (.int .i64))))) v17 (Int.toNat (rd (.int .i64) v20 (Int.toNat v2)))).2.1 (rd (.pair (.int .i64) (.pair (.int .i64) (.pair (.int .i64) (.pair (.int .i64) (.int .i64))))) v17 (Int.toNat (rd (.int .i64) v20 (Int.toNat v2)))).2.2.1)).bind fun y21 =>
      cond ((decide (((v19.length + 1) * 24) ≤ 140737488355328)) && (decide ((v19.length + 1) ≤ 9223372036854775807))) (
       some (R3.next (((), (v1, ((IntKind.wrap .i64 (v2 + 1)), ()))), (((v3, (v4, (v5, (v6, (v7, (v8, (v9, (v10, (v11, (v12, (v13, (v14, (v15, (v16, (v17, (v18, ())))))))))))))))), ()), ((v19 ++ [(y21.1.1, (y21.1.2.1, y21.1.2.2))]), (v20, ())))))) (
       none)) (
      none)) (
     none)) (
    none)) (
   none)) (
  some (R3.out ((), ((), (v19, ())))))
noncomputable def u9_6 (z : X9_6) : Option (R3 X9_6 Y9_6 Z9_6) := t9_6 z.1.2.1 z.1.2.2.1 z.2.1.1.1 z.2.1.1.2.1 z.2.1.1.2.2.1 z.2.1.1.2.2.2.1 z.2.1.1.2.2.2.2.1 z.2.1.1.2.2.2.2.2.1 z.2.1.1.2.2.2.2.2.2.1 z.2.1.1.2.2.2.2.2.2.2.1 z.2.1.1.2.2.2.2.2.2.2.2.1 z.2.1.1.2.2.2.2.2.2.2.2.2.1 z.2.1.1.2.2.2.2.2.2.2.2.2.2.1 z.2.1.1.2.2.2.2.2.2.2.2.2.2.2.1 z.2.1.1.2.2.2.2.2.2.2.2.2.2.2.2.1 z.2.1.1.2.2.2.2.2.2.2.2.2.2.2.2.2.1 z.2.1.1.2.2.2.2.2.2.2.2.2.2.2.2.2.2.1 z.2.1.1.2.2.2.2.2.2.2.2.2.2.2.2.2.2.2.1 z.2.2.1 z.2.2.2.1
noncomputable def f9 (v1 : Int) (v2 : Int) (v3 : Int) (v4 : Int) (v5 : Int) (v6 : Int) (v7 : Int) (v8 : Int) (v9 : Int) (v10 : Int) (v11 : Int) (v12 : Bool) (v13 : Int) (v14 : (List (Int × (Int × Int)))) (v15 : (List (Int × (Int × (Int × (Int × Int)))))) (v16 : (List (Int × (Int × Int)))) (v17 : Int) : Option ((List (Int × (Int × Int))) × Unit) :=
 ((f21 v1 v2 v3 v4 v5 v6 v7 v8 v17)).bind fun y18 =>
 cond (!y18.2.1) (
  some ([], ())) (
  ((f11 v1 v2 v3 v4 v5 v6 v7 v8 v9 v10 v11 v12 v13 v14 v15 v16)).bind fun y19 =>
  cond (!y19.1) (
   some ([], ())) (
   ((f22 v15 v17)).bind fun y20 =>
   ((iter big u9_6 (((), (((y20.1.length : Nat) : Int), (0, ()))), (((v1, (v2, (v3, (v4, (v5, (v6, (v7, (v8, (v9, (v10, (v11, (v12, (v13, (v14, (v15, (v16, ())))))))))))))))), ()), ([(y18.1.1, (y18.1.2.1, y18.1.2.2))], (y20.1, ())))))).bind fun r => match r with
   | .inl y21 =>
     some (y21.2.2.1, ())
   | .inr z22 =>
     none))
noncomputable def f24 (v1 : Int) (v2 : Int) (v3 : Int) (v4 : Int) (v5 : Int) (v6 : Int) (v7 : Int) (v8 : Int) (v9 : Int) (v10 : Int) : Option (Int × Unit) :=
 ((f27 v1 v2 v3 v4 v5 v6 v7 v8)).bind fun y11 =>
 cond (!y11.1) (
  some ((-1), ())) (
  cond (decide (v9 < 0)) (
   some ((-1), ())) (
   ((f34 v3 v4)).bind fun y12 =>
   cond (decide (y12.1 ≤ v9)) (
    some ((-1), ())) (
    cond (decide (v10 < v5)) (
     some ((-1), ())) (
     cond (decide (v6 < v10)) (
      some ((-1), ())) (
      ((f49 v1 v2 v3 v4 v5 v6 v7 v8)).bind fun y13 =>
      ((f50 v1 v2 v3 v4 v5 v6 v7 v8)).bind fun y14 =>
      cond (!(decide (y14.1 = 0))) (
       ((f21 v1 v2 v3 v4 v5 v6 v7 v8 (IntKind.wrap .i64 ((IntKind.wrap .i64 (v9 * y13.1)) + (IntKind.wrap .i64 (Int.tdiv (IntKind.wrap .i64 (v10 - v5)) y14.1)))))).bind fun y15 =>
       cond (decide (y13.1 ≤ (IntKind.wrap .i64 (Int.tdiv (IntKind.wrap .i64 (v10 - v5)) y14.1)))) (
        some ((-1), ())) (
        cond (!y15.2.1) (
         some ((-1), ())) (
         cond ((decide (y15.1.1 = 0)) && ((decide (y15.1.2.1 = 0)) && ((decide (y15.1.2.2 = 0)) && true))) (
          some ((-1), ())) (
          some ((IntKind.wrap .i64 ((IntKind.wrap .i64 (v9 * y13.1)) + (IntKind.wrap .i64 (Int.tdiv (IntKind.wrap .i64 (v10 - v5)) y14.1)))), ()))))) (
       none))))))
noncomputable def f26 (v1 : Int) (v2 : Int) (v3 : Int) (v4 : Int) (v5 : Int) (v6 : Int) (v7 : Int) (v8 : Int) (v9 : Int) (v10 : Int) : Option (Int × Unit) :=
 ((f27 v1 v2 v3 v4 v5 v6 v7 v8)).bind fun y11 =>
 cond (!y11.1) (
  some ((-1), ())) (
  cond (decide (v9 < 0)) (
   some ((-1), ())) (
   ((f34 v3 v4)).bind fun y12 =>
   cond (decide (y12.1 ≤ v9)) (
    some ((-1), ())) (
    cond (decide (v10 < (IntKind.wrap .i64 ((IntKind.wrap .i64 (v6 - v7)) + 1)))) (
     some ((-1), ())) (
     cond (decide (v6 < v10)) (
      some ((-1), ())) (
      cond (!(decide (v8 = 0))) (
       ((f13 v1 v2 v3 v4 v5 v6 v7 v8)).bind fun y13 =>
       cond (decide ((IntKind.wrap .i64 (Int.tdiv (IntKind.wrap .i64 (v10 - (IntKind.wrap .i64 ((IntKind.wrap .i64 (v6 - v7)) + 1)))) v8)) < y13.1)) (
        some ((IntKind.wrap .i64 (Int.tdiv (IntKind.wrap .i64 (v10 - (IntKind.wrap .i64 ((IntKind.wrap .i64 (v6 - v7)) + 1)))) v8)), ())) (
        some ((-1), ()))) (
       none))))))
noncomputable def f10 (v1 : Int) (v2 : Int) (v3 : Int) (v4 : Int) (v5 : Int) (v6 : Int) (v7 : Int) (v8 : Int) (v9 : Int) (v10 : Int) (v11 : Int) (v12 : Bool) (v13 : Int) (v14 : (List (Int × (Int × Int)))) (v15 : (List (Int × (Int × (Int × (Int × Int)))))) (v16 : (List (Int × (Int × Int)))) (v17 : Int) (v18 : Int) : Option (Int × Unit) :=
 ((f11 v1 v2 v3 v4 v5 v6 v7 v8 v9 v10 v11 v12 v13 v14 v15 v16)).bind fun y19 =>
 cond (!y19.1) (
  some ((-1), ())) (
  ((f24 v1 v2 v3 v4 v5 v6 v7 v8 v17 v18)).bind fun y20 =>
  cond (!(decide (y20.1 = (-1)))) (
   some (y20.1, ())) (
   ((f26 v1 v2 v3 v4 v5 v6 v7 v8 v17 v18)).bind fun y21 =>
   ((f25 v15 v17 y21.1)).bind fun y22 =>
   cond (decide (y22.1 = (-1))) (
    some ((-1), ())) (
    cond ((decide (0 ≤ y22.1)) && (decide (y22.1 < ((v15.length : Nat) : Int)))) (
     some ((rd (.pair (.int .i64) (.pair (.int .i64) (.pair (.int .i64) (.pair (.int .i64) (.int .i64))))) v15 (Int.toNat y22.1)).1, ())) (
     none))))
noncomputable def f14 (v1 : (List (Int × (Int × Int)))) (v2 : Int) : Option (Bool × Unit) :=
 ((f35 v1 v2)).bind fun y3 =>
 cond (!(decide (y3.1 = (-1)))) (
  cond ((decide (0 ≤ y3.1)) && (decide (y3.1 < ((v1.length : Nat) : Int)))) (
   some ((decide ((rd (.pair (.int .i64) (.pair (.int .i64) (.int .i64))) v1 (Int.toNat y3.1)).2.2 = 0)), ())) (
   none)) (
  some (false, ()))
noncomputable def f76 (v1 : Int) (v2 : Int) : Option (Bool × Unit) :=
 cond (decide (0 ≤ v1)) (
  cond (decide (v1 ≤ 8)) (
   cond (decide (0 ≤ v2)) (
    cond (!(decide (v1 < 0))) (
     some ((decide ((Int.fdiv v2 ((2 : Int) ^ ((min (Int.toNat v1) 64) : Nat))) = 0)), ())) (
     none)) (
    some (false, ()))) (
   some (false, ()))) (
  some (false, ()))
noncomputable def f72 (v1 : Int) : Option ((Int × Int) × (Bool × Unit)) :=
 ((f76 v1 0)).bind fun y2 =>
 cond y2.1 (
  some ((v1, 0), (true, ()))) (
  some ((0, 0), (false, ())))
noncomputable def f74 (v1 : Int) (v2 : Int) (v3 : Int) : Option (((Int × Int) × (Int × (Int × Int))) × Unit) :=
 some (((v1, v2), (v1, (v2, v3))), ())
noncomputable def f100 (v1 : Int) (v2 : Int) (v3 : Int) : Option (Bool × Unit) :=
 ((f76 v1 v2)).bind fun y4 =>
 cond y4.1 (
  cond (decide (0 ≤ v3)) (
   some ((decide (v3 < v1)), ())) (
   some (false, ()))) (
  some (false, ()))
noncomputable def f101 (v1 : Int) (v2 : Int) (v3 : Int) : Option (Bool × Unit) :=
 ((f100 v1 v2 v3)).bind fun y4 =>
 cond y4.1 (
  cond (!(decide (v3 < 0))) (
   some ((decide ((bitop .and .i64 (Int.fdiv v2 ((2 : Int) ^ ((min (Int.toNat v3) 64) : Nat))) 1) = 1)), ())) (
   none)) (
  some (false, ()))
noncomputable def f89 (v1 : Int) (v2 : Int) (v3 : Int) (v4 : Bool) : Option ((Int × Int) × (Bool × Unit)) :=
 ((f100 v1 v2 v3)).bind fun y5 =>
 cond (!y5.1) (
  some ((v1, v2), (false, ()))) (
  ((f101 v1 v2 v3)).bind fun y6 =>
  cond (!(y6.1 == v4)) (
   some ((v1, v2), (false, ()))) (
   cond (!(decide (v3 < 0))) (
    some ((v1, (bitop .xor .i64 v2 (IntKind.wrap .i64 (1 * ((2 : Int) ^ ((min (Int.toNat v3) 64) : Nat)))))), (true, ()))) (
    none)))
noncomputable def f75 (v1 : Int) (v2 : Int) (v3 : Int) : Option ((Int × Int) × (Bool × Unit)) :=
 ((f89 v1 v2 v3 false)).bind fun y4 =>
 some ((y4.1.1, y4.1.2), (y4.2.1, ()))
abbrev X36_4 : Type := ((List (Int × (Int × Int))) × Int × Unit × Unit × (List (Int × (Int × (Int × (Int × Int))))) × Int × Int × Unit) × ((Int × Int × Unit) × (Int × Int × Unit) × Unit) × ((List (Int × Int)) × Unit)
abbrev Y36_4 : Type := ((List (Int × (Int × Int))) × Int × Unit × Unit × Unit) × ((Int × Int × Unit) × (Int × Int × Unit) × Unit) × ((List (Int × Int)) × Unit)
abbrev Z36_4 : Type := Unit × Unit × Unit
noncomputable def t36_4 (v1 : (List (Int × (Int × Int)))) (v2 : Int) (v3 : (List (Int × (Int × (Int × (Int × Int)))))) (v4 : Int) (v5 : Int) (v6 : Int) (v7 : Int) (v8 : Int) (v9 : Int) (v10 : (List (Int × Int))) : Option (R3 X36_4 Y36_4 Z36_4) :=
 cond (decide (v5 < v4)) (
  cond ((decide (0 ≤ v5)) && (decide (v5 < ((v3.length : Nat) : Int)))) (
   ((f73 (rd (.pair (.int .i64) (.pair (.int .i64) (.pair (.int .i64) (.pair (.int .i64) (.int .i64))))) v3 (Int.toNat v5)).1 (rd (.pair (.int .i64) (.pair (.int .i64) (.pair (.int .i64) (.pair (.int .i64) (.int .i64))))) v3 (Int.toNat v5)).2.1 (rd (.pair (.int .i64) (.pair (.int .i64) (.pair (.int .i64) (.pair (.int .i64) (.int .i64))))) v3 (Int.toNat v5)).2.2.1 (rd (.pair (.int .i64) (.pair (.int .i64) (.pair (.int .i64) (.pair (.int .i64) (.int .i64))))) v3 (Int.toNat v5)).2.2.2.1 (rd (.pair (.int .i64) (.pair (.int .i64) (.pair (.int .i64) (.pair (.int .i64) (.int .i64))))) v3 (Int.toNat v5)).2.2.2.2)).bind fun y11 =>
   cond ((decide (((v10.length + 1) * 16) ≤ 140737488355328)) && (decide ((v10.length + 1) ≤ 9223372036854775807))) (
    some (R3.next ((v1, (v2, ((), ((), (v3, (v4, ((IntKind.wrap .i64 (v5 + 1)), ()))))))), (((v6, (v7, ())), ((v8, (v9, ())), ())), ((v10 ++ [(y11.1.1.1, y11.1.1.2)]), ()))))) (
    none)) (
   none)) (
  some (R3.out ((v1, (v2, ((), ((), ())))), (((v6, (v7, ())), ((v8, (v9, ())), ())), (v10, ())))))
noncomputable def u36_4 (z : X36_4) : Option (R3 X36_4 Y36_4 Z36_4) := t36_4 z.1.1 z.1.2.1 z.1.2.2.2.2.1 z.1.2.2.2.2.2.1 z.1.2.2.2.2.2.2.1 z.2.1.1.1 z.2.1.1.2.1 z.2.1.2.1.1 z.2.1.2.1.2.1 z.2.2.1
abbrev X36_9 : Type := (Int × Unit × Unit × (List (Int × (Int × Int))) × Int × Int × Unit) × ((Int × Int × Unit) × (Int × Int × Unit) × Unit) × ((List (Int × Int)) × Unit)
abbrev Y36_9 : Type := (Int × Unit × Unit × Unit) × ((Int × Int × Unit) × (Int × Int × Unit) × Unit) × ((List (Int × Int)) × Unit)
abbrev Z36_9 : Type := Unit × Unit × Unit
noncomputable def t36_9 (v1 : Int) (v2 : (List (Int × (Int × Int)))) (v3 : Int) (v4 : Int) (v5 : Int) (v6 : Int) (v7 : Int) (v8 : Int) (v9 : (List (Int × Int))) : Option (R3 X36_9 Y36_9 Z36_9) :=
 cond (decide (v4 < v3)) (
  cond ((decide (0 ≤ v4)) && (decide (v4 < ((v2.length : Nat) : Int)))) (
   ((f74 (rd (.pair (.int .i64) (.pair (.int .i64) (.int .i64))) v2 (Int.toNat v4)).1 (rd (.pair (.int .i64) (.pair (.int .i64) (.int .i64))) v2 (Int.toNat v4)).2.1 (rd (.pair (.int .i64) (.pair (.int .i64) (.int .i64))) v2 (Int.toNat v4)).2.2)).bind fun y10 =>
   cond ((decide (((v9.length + 1) * 16) ≤ 140737488355328)) && (decide ((v9.length + 1) ≤ 9223372036854775807))) (
    some (R3.next ((v1, ((), ((), (v2, (v3, ((IntKind.wrap .i64 (v4 + 1)), ())))))), (((v5, (v6, ())), ((v7, (v8, ())), ())), ((v9 ++ [(y10.1.1.1, y10.1.1.2)]), ()))))) (
    none)) (
   none)) (
  some (R3.out ((v1, ((), ((), ()))), (((v5, (v6, ())), ((v7, (v8, ())), ())), (v9, ())))))
noncomputable def u36_9 (z : X36_9) : Option (R3 X36_9 Y36_9 Z36_9) := t36_9 z.1.1 z.1.2.2.2.1 z.1.2.2.2.2.1 z.1.2.2.2.2.2.1 z.2.1.1.1 z.2.1.1.2.1 z.2.1.2.1.1 z.2.1.2.1.2.1 z.2.2.1
abbrev X36_14 : Type := (Int × Unit × Unit × Int × Int × Unit) × ((Int × Int × Unit) × (Int × Int × Unit) × Unit) × ((List (Int × Int)) × Unit)
abbrev Y36_14 : Type := (Unit × Unit × Unit) × ((Int × Int × Unit) × (Int × Int × Unit) × Unit) × (Unit)
abbrev Z36_14 : Type := Unit × Unit × Unit
noncomputable def t36_14 (v1 : Int) (v2 : Int) (v3 : Int) (v4 : Int) (v5 : Int) (v6 : Int) (v7 : Int) (v8 : (List (Int × Int))) : Option (R3 X36_14 Y36_14 Z36_14) :=
 cond (decide (v3 < v2)) (
  cond ((decide (0 ≤ v3)) && (decide (v3 < ((v8.length : Nat) : Int)))) (
   cond (decide ((Int.toNat v3) < v8.length)) (
    cond (decide ((rd (.pair (.int .i64) (.int .i64)) v8 (Int.toNat v3)).1 = v1)) (
     ((f75 v6 v7 (rd (.pair (.int .i64) (.int .i64)) v8 (Int.toNat v3)).2)).bind fun y9 =>
     some (R3.next ((v1, ((), ((), (v2, ((IntKind.wrap .i64 (v3 + 1)), ()))))), (((v4, (v5, ())), ((y9.1.1, (y9.1.2, ())), ())), (v8, ()))))) (
     some (R3.next ((v1, ((), ((), (v2, ((IntKind.wrap .i64 (v3 + 1)), ()))))), (((v4, (v5, ())), ((v6, (v7, ())), ())), (v8, ())))))) (
    none)) (
   none)) (
  some (R3.out (((), ((), ())), (((v4, (v5, ())), ((v6, (v7, ())), ())), ()))))
noncomputable def u36_14 (z : X36_14) : Option (R3 X36_14 Y36_14 Z36_14) := t36_14 z.1.1 z.1.2.2.2.1 z.1.2.2.2.2.1 z.2.1.1.1 z.2.1.1.2.1 z.2.1.2.1.1 z.2.1.2.1.2.1 z.2.2.1
noncomputable def f36 (v1 : Int) (v2 : Int) (v3 : Int) (v4 : Int) (v5 : Int) (v6 : Int) (v7 : Int) (v8 : Int) (v9 : (List (Int × (Int × (Int × (Int × Int)))))) (v10 : (List (Int × (Int × Int)))) (v11 : Int) : Option ((Int × Int) × Unit) :=
 ((f13 v1 v2 v3 v4 v5 v6 v7 v8)).bind fun y12 =>
 ((f72 y12.1)).bind fun y13 =>
 ((iter big u36_4 ((v10, (v11, ((), ((), (v9, (((v9.length : Nat) : Int), (0, ()))))))), (((0, (0, ())), ((y13.1.1, (y13.1.2, ())), ())), ([], ()))))).bind fun r => match r with
 | .inl y14 =>
   ((iter big u36_9 ((y14.1.2.1, ((), ((), (y14.1.1, (((y14.1.1.length : Nat) : Int), (0, ())))))), (((y14.2.1.1.1, (y14.2.1.1.2.1, ())), ((y14.2.1.2.1.1, (y14.2.1.2.1.2.1, ())), ())), (y14.2.2.1, ()))))).bind fun r => match r with
   | .inl y16 =>
     ((iter big u36_14 ((y16.1.1, ((), ((), (((y16.2.2.1.length : Nat) : Int), (0, ()))))), (((y16.2.1.1.1, (y16.2.1.1.2.1, ())), ((y16.2.1.2.1.1, (y16.2.1.2.1.2.1, ())), ())), (y16.2.2.1, ()))))).bind fun r => match r with
     | .inl y18 =>
       some ((y18.2.1.2.1.1, y18.2.1.2.1.2.1), ())
     | .inr z19 =>
       none
   | .inr z17 =>
     none
 | .inr z15 =>
   none
noncomputable def f90 (v1 : Int) : Option (Int × Unit) :=
 cond ((decide (0 ≤ (Int.fdiv v1 16777216))) && (decide ((Int.fdiv v1 16777216) < 256))) (
  cond ((decide (0 ≤ (bitop .and .u32 (Int.fdiv v1 65536) 255))) && (decide ((bitop .and .u32 (Int.fdiv v1 65536) 255) < 256))) (
   cond ((decide (0 ≤ (bitop .and .u32 (Int.fdiv v1 256) 255))) && (decide ((bitop .and .u32 (Int.fdiv v1 256) 255) < 256))) (
    cond ((decide (0 ≤ (bitop .and .u32 v1 255))) && (decide ((bitop .and .u32 v1 255) < 256))) (
     some ((IntKind.wrap .i64 (IntKind.wrap .u8 ((IntKind.wrap .u8 ((IntKind.wrap .u8 ((bt (⟨#[0, 1, 1, 2, 1, 2, 2, 3, 1, 2, 2, 3, 2, 3, 3, 4, 1, 2, 2, 3, 2, 3, 3, 4, 2, 3, 3, 4, 3, 4, 4, 5, 1, 2, 2, 3, 2, 3, 3, 4, 2, 3, 3, 4, 3, 4, 4, 5, 2, 3, 3, 4, 3, 4, 4, 5, 3, 4, 4, 5, 4, 5, 5, 6, 1, 2, 2, 3, 2, 3, 3, 4, 2, 3, 3, 4, 3, 4, 4, 5, 2, 3, 3, 4, 3, 4, 4, 5, 3, 4, 4, 5, 4, 5, 5, 6, 2, 3, 3, 4, 3, 4, 4, 5, 3, 4, 4, 5, 4, 5, 5, 6, 3, 4, 4, 5, 4, 5, 5, 6, 4, 5, 5, 6, 5, 6, 6, 7, 1, 2, 2, 3, 2, 3, 3, 4, 2, 3, 3, 4, 3, 4, 4, 5, 2, 3, 3, 4, 3, 4, 4, 5, 3, 4, 4, 5, 4, 5, 5, 6, 2, 3, 3, 4, 3, 4, 4, 5, 3, 4, 4, 5, 4, 5, 5, 6, 3, 4, 4, 5, 4, 5, 5, 6, 4, 5, 5, 6, 5, 6, 6, 7, 2, 3, 3, 4, 3, 4, 4, 5, 3, 4, 4, 5, 4, 5, 5, 6, 3, 4, 4, 5, 4, 5, 5, 6, 4, 5, 5, 6, 5, 6, 6, 7, 3, 4, 4, 5, 4, 5, 5, 6, 4, 5, 5, 6, 5, 6, 6, 7, 4, 5, 5, 6, 5, 6, 6, 7, 5, 6, 6, 7, 6, 7, 7, 8]⟩ : ByteArray) (Int.fdiv v1 16777216)) + (bt (⟨#[0, 1, 1, 2, 1, 2, 2, 3, 1, 2, 2, 3, 2, 3, 3, 4, 1, 2, 2, 3, 2, 3, 3, 4, 2, 3, 3, 4, 3, 4, 4, 5, 1, 2, 2, 3, 2, 3, 3, 4, 2, 3, 3, 4, 3, 4, 4, 5, 2, 3, 3, 4, 3, 4, 4, 5, 3, 4, 4, 5, 4, 5, 5, 6, 1, 2, 2, 3, 2, 3, 3, 4, 2, 3, 3, 4, 3, 4, 4, 5, 2, 3, 3, 4, 3, 4, 4, 5, 3, 4, 4, 5, 4, 5, 5, 6, 2, 3, 3, 4, 3, 4, 4, 5, 3, 4, 4, 5, 4, 5, 5, 6, 3, 4, 4, 5, 4, 5, 5, 6, 4, 5, 5, 6, 5, 6, 6, 7, 1, 2, 2, 3, 2, 3, 3, 4, 2, 3, 3, 4, 3, 4, 4, 5, 2, 3, 3, 4, 3, 4, 4, 5, 3, 4, 4, 5, 4, 5, 5, 6, 2, 3, 3, 4, 3, 4, 4, 5, 3, 4, 4, 5, 4, 5, 5, 6, 3, 4, 4, 5, 4, 5, 5, 6, 4, 5, 5, 6, 5, 6, 6, 7, 2, 3, 3, 4, 3, 4, 4, 5, 3, 4, 4, 5, 4, 5, 5, 6, 3, 4, 4, 5, 4, 5, 5, 6, 4, 5, 5, 6, 5, 6, 6, 7, 3, 4, 4, 5, 4, 5, 5, 6, 4, 5, 5, 6, 5, 6, 6, 7, 4, 5, 5, 6, 5, 6, 6, 7, 5, 6, 6, 7, 6, 7, 7, 8]⟩ : ByteArray) (bitop .and .u32 (Int.fdiv v1 65536) 255)))) + (bt (⟨#[0, 1, 1, 2, 1, 2, 2, 3, 1, 2, 2, 3, 2, 3, 3, 4, 1, 2, 2, 3, 2, 3, 3, 4, 2, 3, 3, 4, 3, 4, 4, 5, 1, 2, 2, 3, 2, 3, 3, 4, 2, 3, 3, 4, 3, 4, 4, 5, 2, 3, 3, 4, 3, 4, 4, 5, 3, 4, 4, 5, 4, 5, 5, 6, 1, 2, 2, 3, 2, 3, 3, 4, 2, 3, 3, 4, 3, 4, 4, 5, 2, 3, 3, 4, 3, 4, 4, 5, 3, 4, 4, 5, 4, 5, 5, 6, 2, 3, 3, 4, 3, 4, 4, 5, 3, 4, 4, 5, 4, 5, 5, 6, 3, 4, 4, 5, 4, 5, 5, 6, 4, 5, 5, 6, 5, 6, 6, 7, 1, 2, 2, 3, 2, 3, 3, 4, 2, 3, 3, 4, 3, 4, 4, 5, 2, 3, 3, 4, 3, 4, 4, 5, 3, 4, 4, 5, 4, 5, 5, 6, 2, 3, 3, 4, 3, 4, 4, 5, 3, 4, 4, 5, 4, 5, 5, 6, 3, 4, 4, 5, 4, 5, 5, 6, 4, 5, 5, 6, 5, 6, 6, 7, 2, 3, 3, 4, 3, 4, 4, 5, 3, 4, 4, 5, 4, 5, 5, 6, 3, 4, 4, 5, 4, 5, 5, 6, 4, 5, 5, 6, 5, 6, 6, 7, 3, 4, 4, 5, 4, 5, 5, 6, 4, 5, 5, 6, 5, 6, 6, 7, 4, 5, 5, 6, 5, 6, 6, 7, 5, 6, 6, 7, 6, 7, 7, 8]⟩ : ByteArray) (bitop .and .u32 (Int.fdiv v1 256) 255)))) + (bt (⟨#[0, 1, 1, 2, 1, 2, 2, 3, 1, 2, 2, 3, 2, 3, 3, 4, 1, 2, 2, 3, 2, 3, 3, 4, 2, 3, 3, 4, 3, 4, 4, 5, 1, 2, 2, 3, 2, 3, 3, 4, 2, 3, 3, 4, 3, 4, 4, 5, 2, 3, 3, 4, 3, 4, 4, 5, 3, 4, 4, 5, 4, 5, 5, 6, 1, 2, 2, 3, 2, 3, 3, 4, 2, 3, 3, 4, 3, 4, 4, 5, 2, 3, 3, 4, 3, 4, 4, 5, 3, 4, 4, 5, 4, 5, 5, 6, 2, 3, 3, 4, 3, 4, 4, 5, 3, 4, 4, 5, 4, 5, 5, 6, 3, 4, 4, 5, 4, 5, 5, 6, 4, 5, 5, 6, 5, 6, 6, 7, 1, 2, 2, 3, 2, 3, 3, 4, 2, 3, 3, 4, 3, 4, 4, 5, 2, 3, 3, 4, 3, 4, 4, 5, 3, 4, 4, 5, 4, 5, 5, 6, 2, 3, 3, 4, 3, 4, 4, 5, 3, 4, 4, 5, 4, 5, 5, 6, 3, 4, 4, 5, 4, 5, 5, 6, 4, 5, 5, 6, 5, 6, 6, 7, 2, 3, 3, 4, 3, 4, 4, 5, 3, 4, 4, 5, 4, 5, 5, 6, 3, 4, 4, 5, 4, 5, 5, 6, 4, 5, 5, 6, 5, 6, 6, 7, 3, 4, 4, 5, 4, 5, 5, 6, 4, 5, 5, 6, 5, 6, 6, 7, 4, 5, 5, 6, 5, 6, 6, 7, 5, 6, 6, 7, 6, 7, 7, 8]⟩ : ByteArray) (bitop .and .u32 v1 255))))), ())) (
     none)) (
    none)) (
   none)) (
  none)
noncomputable def f91 (v1 : Int) : Option (Int × Unit) :=
 some ((bitop .and .i64 (IntKind.wrap .i64 (IntKind.wrap .u64 ((IntKind.wrap .u64 ((IntKind.wrap .u64 ((bitop .and .u64 (IntKind.wrap .u64 ((Int.fdiv (IntKind.wrap .u64 ((bitop .and .u64 (Int.fdiv (IntKind.wrap .u64 ((bitop .and .u64 (Int.fdiv v1 2) 6148914691236517205) + (bitop .and .u64 v1 6148914691236517205))) 4) 3689348814741910323) + (bitop .and .u64 (IntKind.wrap .u64 ((bitop .and .u64 (Int.fdiv v1 2) 6148914691236517205) + (bitop .and .u64 v1 6148914691236517205))) 3689348814741910323))) 16) + (IntKind.wrap .u64 ((bitop .and .u64 (Int.fdiv (IntKind.wrap .u64 ((bitop .and .u64 (Int.fdiv v1 2) 6148914691236517205) + (bitop .and .u64 v1 6148914691236517205))) 4) 3689348814741910323) + (bitop .and .u64 (IntKind.wrap .u64 ((bitop .and .u64 (Int.fdiv v1 2) 6148914691236517205) + (bitop .and .u64 v1 6148914691236517205))) 3689348814741910323))))) 1085102592571150095) + (Int.fdiv (bitop .and .u64 (IntKind.wrap .u64 ((Int.fdiv (IntKind.wrap .u64 ((bitop .and .u64 (Int.fdiv (IntKind.wrap .u64 ((bitop .and .u64 (Int.fdiv v1 2) 6148914691236517205) + (bitop .and .u64 v1 6148914691236517205))) 4) 3689348814741910323) + (bitop .and .u64 (IntKind.wrap .u64 ((bitop .and .u64 (Int.fdiv v1 2) 6148914691236517205) + (bitop .and .u64 v1 6148914691236517205))) 3689348814741910323))) 16) + (IntKind.wrap .u64 ((bitop .and .u64 (Int.fdiv (IntKind.wrap .u64 ((bitop .and .u64 (Int.fdiv v1 2) 6148914691236517205) + (bitop .and .u64 v1 6148914691236517205))) 4) 3689348814741910323) + (bitop .and .u64 (IntKind.wrap .u64 ((bitop .and .u64 (Int.fdiv v1 2) 6148914691236517205) + (bitop .and .u64 v1 6148914691236517205))) 3689348814741910323))))) 1085102592571150095) 256))) + (Int.fdiv (IntKind.wrap .u64 ((bitop .and .u64 (IntKind.wrap .u64 ((Int.fdiv (IntKind.wrap .u64 ((bitop .and .u64 (Int.fdiv (IntKind.wrap .u64 ((bitop .and .u64 (Int.fdiv v1 2) 6148914691236517205) + (bitop .and .u64 v1 6148914691236517205))) 4) 3689348814741910323) + (bitop .and .u64 (IntKind.wrap .u64 ((bitop .and .u64 (Int.fdiv v1 2) 6148914691236517205) + (bitop .and .u64 v1 6148914691236517205))) 3689348814741910323))) 16) + (IntKind.wrap .u64 ((bitop .and .u64 (Int.fdiv (IntKind.wrap .u64 ((bitop .and .u64 (Int.fdiv v1 2) 6148914691236517205) + (bitop .and .u64 v1 6148914691236517205))) 4) 3689348814741910323) + (bitop .and .u64 (IntKind.wrap .u64 ((bitop .and .u64 (Int.fdiv v1 2) 6148914691236517205) + (bitop .and .u64 v1 6148914691236517205))) 3689348814741910323))))) 1085102592571150095) + (Int.fdiv (bitop .and .u64 (IntKind.wrap .u64 ((Int.fdiv (IntKind.wrap .u64 ((bitop .and .u64 (Int.fdiv (IntKind.wrap .u64 ((bitop .and .u64 (Int.fdiv v1 2) 6148914691236517205) + (bitop .and .u64 v1 6148914691236517205))) 4) 3689348814741910323) + (bitop .and .u64 (IntKind.wrap .u64 ((bitop .and .u64 (Int.fdiv v1 2) 6148914691236517205) + (bitop .and .u64 v1 6148914691236517205))) 3689348814741910323))) 16) + (IntKind.wrap .u64 ((bitop .and .u64 (Int.fdiv (IntKind.wrap .u64 ((bitop .and .u64 (Int.fdiv v1 2) 6148914691236517205) + (bitop .and .u64 v1 6148914691236517205))) 4) 3689348814741910323) + (bitop .and .u64 (IntKind.wrap .u64 ((bitop .and .u64 (Int.fdiv v1 2) 6148914691236517205) + (bitop .and .u64 v1 6148914691236517205))) 3689348814741910323))))) 1085102592571150095) 256))) 65536))) + (Int.fdiv (IntKind.wrap .u64 ((IntKind.wrap .u64 ((bitop .and .u64 (IntKind.wrap .u64 ((Int.fdiv (IntKind.wrap .u64 ((bitop .and .u64 (Int.fdiv (IntKind.wrap .u64 ((bitop .and .u64 (Int.fdiv v1 2) 6148914691236517205) + (bitop .and .u64 v1 6148914691236517205))) 4) 3689348814741910323) + (bitop .and .u64 (IntKind.wrap .u64 ((bitop .and .u64 (Int.fdiv v1 2) 6148914691236517205) + (bitop .and .u64 v1 6148914691236517205))) 3689348814741910323))) 16) + (IntKind.wrap .u64 ((bitop .and .u64 (Int.fdiv (IntKind.wrap .u64 ((bitop .and .u64 (Int.fdiv v1 2) 6148914691236517205) + (bitop .and .u64 v1 6148914691236517205))) 4) 3689348814741910323) + (bitop .and .u64 (IntKind.wrap .u64 ((bitop .and .u64 (Int.fdiv v1 2) 6148914691236517205) + (bitop .and .u64 v1 6148914691236517205))) 3689348814741910323))))) 1085102592571150095) + (Int.fdiv (bitop .and .u64 (IntKind.wrap .u64 ((Int.fdiv (IntKind.wrap .u64 ((bitop .and .u64 (Int.fdiv (IntKind.wrap .u64 ((bitop .and .u64 (Int.fdiv v1 2) 6148914691236517205) + (bitop .and .u64 v1 6148914691236517205))) 4) 3689348814741910323) + (bitop .and .u64 (IntKind.wrap .u64 ((bitop .and .u64 (Int.fdiv v1 2) 6148914691236517205) + (bitop .and .u64 v1 6148914691236517205))) 3689348814741910323))) 16) + (IntKind.wrap .u64 ((bitop .and .u64 (Int.fdiv (IntKind.wrap .u64 ((bitop .and .u64 (Int.fdiv v1 2) 6148914691236517205) + (bitop .and .u64 v1 6148914691236517205))) 4) 3689348814741910323) + (bitop .and .u64 (IntKind.wrap .u64 ((bitop .and .u64 (Int.fdiv v1 2) 6148914691236517205) + (bitop .and .u64 v1 6148914691236517205))) 3689348814741910323))))) 1085102592571150095) 256))) + (Int.fdiv (IntKind.wrap .u64 ((bitop .and .u64 (IntKind.wrap .u64 ((Int.fdiv (IntKind.wrap .u64 ((bitop .and .u64 (Int.fdiv (IntKind.wrap .u64 ((bitop .and .u64 (Int.fdiv v1 2) 6148914691236517205) + (bitop .and .u64 v1 6148914691236517205))) 4) 3689348814741910323) + (bitop .and .u64 (IntKind.wrap .u64 ((bitop .and .u64 (Int.fdiv v1 2) 6148914691236517205) + (bitop .and .u64 v1 6148914691236517205))) 3689348814741910323))) 16) + (IntKind.wrap .u64 ((bitop .and .u64 (Int.fdiv (IntKind.wrap .u64 ((bitop .and .u64 (Int.fdiv v1 2) 6148914691236517205) + (bitop .and .u64 v1 6148914691236517205))) 4) 3689348814741910323) + (bitop .and .u64 (IntKind.wrap .u64 ((bitop .and .u64 (Int.fdiv v1 2) 6148914691236517205) + (bitop .and .u64 v1 6148914691236517205))) 3689348814741910323))))) 1085102592571150095) + (Int.fdiv (bitop .and .u64 (IntKind.wrap .u64 ((Int.fdiv (IntKind.wrap .u64 ((bitop .and .u64 (Int.fdiv (IntKind.wrap .u64 ((bitop .and .u64 (Int.fdiv v1 2) 6148914691236517205) + (bitop .and .u64 v1 6148914691236517205))) 4) 3689348814741910323) + (bitop .and .u64 (IntKind.wrap .u64 ((bitop .and .u64 (Int.fdiv v1 2) 6148914691236517205) + (bitop .and .u64 v1 6148914691236517205))) 3689348814741910323))) 16) + (IntKind.wrap .u64 ((bitop .and .u64 (Int.fdiv (IntKind.wrap .u64 ((bitop .and .u64 (Int.fdiv v1 2) 6148914691236517205) + (bitop .and .u64 v1 6148914691236517205))) 4) 3689348814741910323) + (bitop .and .u64 (IntKind.wrap .u64 ((bitop .and .u64 (Int.fdiv v1 2) 6148914691236517205) + (bitop .and .u64 v1 6148914691236517205))) 3689348814741910323))))) 1085102592571150095) 256))) 65536))) 4294967296)))) 127), ())
noncomputable def f77 (v1 : Int) : Option (Int × Unit) :=
 ((f91 v1)).bind fun y2 =>
 some (y2.1, ())
noncomputable def f37 (v1 : Int) (v2 : Int) : Option (Int × Unit) :=
 ((f76 v1 v2)).bind fun y3 =>
 cond (!y3.1) (
  some (0, ())) (
  ((f77 (IntKind.wrap .u64 v2))).bind fun y4 =>
  some (y4.1, ()))
abbrev X12_5 : Type := (Unit × Int × Int × Int × Int × Int × Unit) × ((Int × Int × Int × Int × Int × Int × Int × Int × Int × Int × Int × Bool × Int × (List (Int × (Int × Int))) × (List (Int × (Int × (Int × (Int × Int))))) × (List (Int × (Int × Int))) × Unit) × Unit) × (Unit)
abbrev Y12_5 : Type := (Int × Int × Int × Unit) × (Unit) × (Unit)
abbrev Z12_5 : Type := Unit × Unit × Unit
noncomputable def t12_5 (v1 : Int) (v2 : Int) (v3 : Int) (v4 : Int) (v5 : Int) (v6 : Int) (v7 : Int) (v8 : Int) (v9 : Int) (v10 : Int) (v11 : Int) (v12 : Int) (v13 : Int) (v14 : Int) (v15 : Int) (v16 : Int) (v17 : Bool) (v18 : Int) (v19 : (List (Int × (Int × Int)))) (v20 : (List (Int × (Int × (Int × (Int × Int)))))) (v21 : (List (Int × (Int × Int)))) : Option (R3 X12_5 Y12_5 Z12_5) :=
 cond (decide (v5 < v4)) (
  ((f35 v19 v5)).bind fun y22 =>
  cond (decide (y22.1 = (-1))) (
   some (R3.next (((), (v1, (v2, (v3, (v4, ((IntKind.wrap .i64 (v5 + 1)), ())))))), (((v6, (v7, (v8, (v9, (v10, (v11, (v12, (v13, (v14, (v15, (v16, (v17, (v18, (v19, (v20, (v21, ())))))))))))))))), ()), ())))) (
   ((f36 v6 v7 v8 v9 v10 v11 v12 v13 v20 [] v5)).bind fun y23 =>
   ((f36 v6 v7 v8 v9 v10 v11 v12 v13 v20 v21 v5)).bind fun y24 =>
   ((f37 y23.1.1 y23.1.2)).bind fun y25 =>
   ((f37 y24.1.1 y24.1.2)).bind fun y26 =>
   ((f37 y23.1.1 y23.1.2)).bind fun y27 =>
   ((f14 v19 v5)).bind fun y28 =>
   cond y28.1 (
    ((f37 y24.1.1 y24.1.2)).bind fun y29 =>
    some (R3.next (((), ((IntKind.wrap .i64 (v1 + y25.1)), ((IntKind.wrap .i64 (v2 + (IntKind.wrap .i64 (y26.1 - y27.1)))), ((IntKind.wrap .i64 (v3 + (IntKind.wrap .i64 (y24.1.1 - y29.1)))), (v4, ((IntKind.wrap .i64 (v5 + 1)), ())))))), (((v6, (v7, (v8, (v9, (v10, (v11, (v12, (v13, (v14, (v15, (v16, (v17, (v18, (v19, (v20, (v21, ())))))))))))))))), ()), ())))) (
    some (R3.next (((), ((IntKind.wrap .i64 (v1 + y25.1)), ((IntKind.wrap .i64 (v2 + (IntKind.wrap .i64 (y26.1 - y27.1)))), (v3, (v4, ((IntKind.wrap .i64 (v5 + 1)), ())))))), (((v6, (v7, (v8, (v9, (v10, (v11, (v12, (v13, (v14, (v15, (v16, (v17, (v18, (v19, (v20, (v21, ())))))))))))))))), ()), ())))))) (
  some (R3.out ((v1, (v2, (v3, ()))), ((), ()))))
noncomputable def u12_5 (z : X12_5) : Option (R3 X12_5 Y12_5 Z12_5) := t12_5 z.1.2.1 z.1.2.2.1 z.1.2.2.2.1 z.1.2.2.2.2.1 z.1.2.2.2.2.2.1 z.2.1.1.1 z.2.1.1.2.1 z.2.1.1.2.2.1 z.2.1.1.2.2.2.1 z.2.1.1.2.2.2.2.1 z.2.1.1.2.2.2.2.2.1 z.2.1.1.2.2.2.2.2.2.1 z.2.1.1.2.2.2.2.2.2.2.1 z.2.1.1.2.2.2.2.2.2.2.2.1 z.2.1.1.2.2.2.2.2.2.2.2.2.1 z.2.1.1.2.2.2.2.2.2.2.2.2.2.1 z.2.1.1.2.2.2.2.2.2.2.2.2.2.2.1 z.2.1.1.2.2.2.2.2.2.2.2.2.2.2.2.1 z.2.1.1.2.2.2.2.2.2.2.2.2.2.2.2.2.1 z.2.1.1.2.2.2.2.2.2.2.2.2.2.2.2.2.2.1 z.2.1.1.2.2.2.2.2.2.2.2.2.2.2.2.2.2.2.1
noncomputable def f12 (v1 : Int) (v2 : Int) (v3 : Int) (v4 : Int) (v5 : Int) (v6 : Int) (v7 : Int) (v8 : Int) (v9 : Int) (v10 : Int) (v11 : Int) (v12 : Bool) (v13 : Int) (v14 : (List (Int × (Int × Int)))) (v15 : (List (Int × (Int × (Int × (Int × Int)))))) (v16 : (List (Int × (Int × Int)))) : Option (Int × (Int × (Int × Unit))) :=
 ((f11 v1 v2 v3 v4 v5 v6 v7 v8 v9 v10 v11 v12 v13 v14 v15 v16)).bind fun y17 =>
 cond (!y17.1) (
  some (0, (0, (0, ())))) (
  ((f34 v3 v4)).bind fun y18 =>
  ((iter big u12_5 (((), (0, (0, (0, (y18.1, (0, ())))))), (((v1, (v2, (v3, (v4, (v5, (v6, (v7, (v8, (v9, (v10, (v11, (v12, (v13, (v14, (v15, (v16, ())))))))))))))))), ()), ())))).bind fun r => match r with
  | .inl y19 =>
    some (y19.1.1, (y19.1.2.1, (y19.1.2.2.1, ())))
  | .inr z20 =>
    none)
noncomputable def f39 (v1 : Int) (v2 : Int) (v3 : Int) (v4 : Int) (v5 : Int) (v6 : Int) (v7 : Int) (v8 : Int) (v9 : Int) (v10 : Int) (v11 : Int) (v12 : Int) (v13 : Int) : Option ((Int × (Int × Int)) × (Bool × Unit)) :=
 ((f21 v1 v2 v3 v4 v5 v6 v7 v8 v9)).bind fun y14 =>
 ((f23 v1 v2 v3 v4 v5 v6 v7 v8 v10 v11)).bind fun y15 =>
 cond (decide (0 ≤ v12)) (
  cond (decide (v12 ≤ 1073741824)) (
   cond (decide (v13 = (-1))) (
    cond y14.2.1 (
     cond y15.2.1 (
      some ((y15.1.1, (y15.1.2.1, y15.1.2.2)), (true, ()))) (
      some ((y15.1.1, (y15.1.2.1, y15.1.2.2)), (false, ())))) (
     some ((y15.1.1, (y15.1.2.1, y15.1.2.2)), (false, ())))) (
    cond (decide (v12 ≤ v13)) (
     cond y14.2.1 (
      cond y15.2.1 (
       some ((y15.1.1, (y15.1.2.1, y15.1.2.2)), ((decide (v13 ≤ 1073741824)), ()))) (
       some ((y15.1.1, (y15.1.2.1, y15.1.2.2)), (false, ())))) (
      some ((y15.1.1, (y15.1.2.1, y15.1.2.2)), (false, ())))) (
     cond y14.2.1 (
      cond y15.2.1 (
       some ((y15.1.1, (y15.1.2.1, y15.1.2.2)), (false, ()))) (
       some ((y15.1.1, (y15.1.2.1, y15.1.2.2)), (false, ())))) (
      some ((y15.1.1, (y15.1.2.1, y15.1.2.2)), (false, ())))))) (
   cond y14.2.1 (
    cond y15.2.1 (
     some ((y15.1.1, (y15.1.2.1, y15.1.2.2)), (false, ()))) (
     some ((y15.1.1, (y15.1.2.1, y15.1.2.2)), (false, ())))) (
    some ((y15.1.1, (y15.1.2.1, y15.1.2.2)), (false, ()))))) (
  cond y14.2.1 (
   cond y15.2.1 (
    some ((y15.1.1, (y15.1.2.1, y15.1.2.2)), (false, ()))) (
    some ((y15.1.1, (y15.1.2.1, y15.1.2.2)), (false, ())))) (
   some ((y15.1.1, (y15.1.2.1, y15.1.2.2)), (false, ()))))
noncomputable def f40 (v1 : Int) (v2 : Int) (v3 : Int) : Option (Int × (Bool × Unit)) :=
 cond (decide (v3 < 0)) (
  some (0, (false, ()))) (
  ((f34 v1 v2)).bind fun y4 =>
  cond (decide (y4.1 ≤ v3)) (
   some (0, (false, ()))) (
   some ((bitop .or .i64 v1 v3), (true, ()))))
abbrev X43_5 : Type := (Int × Int × Unit) × (Unit) × ((List ByteArray) × Unit)
abbrev Y43_5 : Type := (Unit) × (Unit) × ((List ByteArray) × Unit)
abbrev Z43_5 : Type := Unit × Unit × Unit
noncomputable def t43_5 (v1 : Int) (v2 : Int) (v3 : (List ByteArray)) : Option (R3 X43_5 Y43_5 Z43_5) :=
 cond (decide (v2 < 4)) (
  cond (!(decide ((IntKind.wrap .i64 (24 - (IntKind.wrap .i64 (8 * v2)))) < 0))) (
   ((fItoa (bitop .and .i64 (Int.fdiv v1 ((2 : Int) ^ ((min (Int.toNat (IntKind.wrap .i64 (24 - (IntKind.wrap .i64 (8 * v2))))) 64) : Nat))) 255))).bind fun y4 =>
   cond ((decide (((v3.length + 1) * 16) ≤ 140737488355328)) && (decide ((v3.length + 1) ≤ 9223372036854775807))) (
    some (R3.next ((v1, ((IntKind.wrap .i64 (v2 + 1)), ())), ((), ((v3 ++ [y4.1]), ()))))) (
    none)) (
   none)) (
  some (R3.out ((), ((), (v3, ())))))
noncomputable def u43_5 (z : X43_5) : Option (R3 X43_5 Y43_5 Z43_5) := t43_5 z.1.1 z.1.2.1 z.2.2.1
noncomputable def f43 (v1 : Int) : Option (ByteArray × Unit) :=
 cond (decide (v1 < 0)) (
  some ((⟨#[]⟩ : ByteArray), ())) (
  cond (decide (4294967296 ≤ v1)) (
   some ((⟨#[]⟩ : ByteArray), ())) (
   ((iter big u43_5 ((v1, (0, ())), ((), ([], ()))))).bind fun r => match r with
   | .inl y2 =>
     ((fJoin y2.2.2.1 (⟨#[46]⟩ : ByteArray))).bind fun y4 =>
     some (y4.1, ())
   | .inr z3 =>
     none))
noncomputable def f16 (v1 : Int) (v2 : Int) (v3 : Int) (v4 : Int) (v5 : Int) (v6 : Int) (v7 : Int) (v8 : Int) (v9 : Int) (v10 : Int) (v11 : Int) (v12 : Int) (v13 : Int) : Option (ByteArray × Unit) :=
 ((f39 v1 v2 v3 v4 v5 v6 v7 v8 v9 v10 v11 v12 v13)).bind fun y14 =>
 cond (!y14.2.1) (
  some ((⟨#[]⟩ : ByteArray), ())) (
  ((f40 v1 v2 v9)).bind fun y15 =>
  ((f40 v3 v4 v10)).bind fun y16 =>
  cond (!(decide (v13 = (-1)))) (
   ((fItoa v13)).bind fun y17 =>
   ((f43 y15.1)).bind fun y18 =>
   ((f43 y16.1)).bind fun y19 =>
   ((fItoa y14.1.2.1)).bind fun y20 =>
   cond (!(decide (9223372036854775807 < (((y20.1.size + 1) : Nat) : Int)))) (
    ((fItoa y14.1.2.2)).bind fun y21 =>
    cond (!(decide (9223372036854775807 < ((((y20.1 ++ (⟨#[45]⟩ : ByteArray)).size + y21.1.size) : Nat) : Int)))) (
     ((fItoa v12)).bind fun y22 =>
     ((fJoin [y18.1, y19.1, ((y20.1 ++ (⟨#[45]⟩ : ByteArray)) ++ y21.1), y22.1, y17.1] (⟨#[32]⟩ : ByteArray))).bind fun y23 =>
     some (y23.1, ())) (
     none)) (
    none)) (
   ((f43 y15.1)).bind fun y24 =>
   ((f43 y16.1)).bind fun y25 =>
   ((fItoa y14.1.2.1)).bind fun y26 =>
   cond (!(decide (9223372036854775807 < (((y26.1.size + 1) : Nat) : Int)))) (
    ((fItoa y14.1.2.2)).bind fun y27 =>
    cond (!(decide (9223372036854775807 < ((((y26.1 ++ (⟨#[45]⟩ : ByteArray)).size + y27.1.size) : Nat) : Int)))) (
     ((fItoa v12)).bind fun y28 =>
     ((fJoin [y24.1, y25.1, ((y26.1 ++ (⟨#[45]⟩ : ByteArray)) ++ y27.1), y28.1, (⟨#[45]⟩ : ByteArray)] (⟨#[32]⟩ : ByteArray))).bind fun y29 =>
     some (y29.1, ())) (
     none)) (
    none)))
abbrev X15_78_1_0 : Type := (Unit × Unit × (List (Int × (Int × (Int × (Int × Int))))) × Int × Int × Unit) × ((Int × Int × Int × Int × Int × Int × Int × Int × Unit) × (Unit × Unit) × (Int × Int × Int × Int × Int × Int × Int × Int × Unit) × ((List (Int × (Int × (Int × (Int × Int))))) × Unit) × (Unit × Unit × Unit × Unit × Unit × Unit × Unit × Unit × Unit × Unit × Unit × Unit × Unit × Unit × Unit × Unit × Unit) × Unit) × ((List ByteArray) × Unit)
abbrev Y15_78_1_0 : Type := (Unit) × ((Int × Int × Int × Int × Int × Int × Int × Int × Unit) × (Unit × Unit) × (Int × Int × Int × Int × Int × Int × Int × Int × Unit) × ((List (Int × (Int × (Int × (Int × Int))))) × Unit) × (Unit × Unit × Unit × Unit × Unit × Unit × Unit × Unit × Unit × Unit × Unit × Unit × Unit × Unit × Unit × Unit × Unit) × Unit) × ((List ByteArray) × Unit)
abbrev Z15_78_1_0 : Type := (Unit) × ((Int × Int × Int × Int × Int × Int × Int × Int × Unit) × (Unit × Unit) × (Int × Int × Int × Int × Int × Int × Int × Int × Unit) × ((List (Int × (Int × (Int × (Int × Int))))) × Unit) × (Unit × Unit × Unit × Unit × Unit × Unit × Unit × Unit × Unit × Unit × Unit × Unit × Unit × Unit × Unit × Unit × Unit) × Unit) × ((List ByteArray) × Unit)
noncomputable def t15_78_1_0 (v1 : (List (Int × (Int × (Int × (Int × Int)))))) (v2 : Int) (v3 : Int) (v4 : Int) (v5 : Int) (v6 : Int) (v7 : Int) (v8 : Int) (v9 : Int) (v10 : Int) (v11 : Int) (v12 : Int) (v13 : Int) (v14 : Int) (v15 : Int) (v16 : Int) (v17 : Int) (v18 : Int) (v19 : Int) (v20 : (List (Int × (Int × (Int × (Int × Int)))))) (v21 : (List ByteArray)) : Option (R3 X15_78_1_0 Y15_78_1_0 Z15_78_1_0) :=
 cond (decide (v3 < v2)) (
  cond ((decide (0 ≤ v3)) && (decide (v3 < ((v1.length : Nat) : Int)))) (
   ((f16 v12 v13 v14 v15 v16 v17 v18 v19 (rd (.pair (.int .i64) (.pair (.int .i64) (.pair (.int .i64) (.pair (.int .i64) (.int .i64))))) v1 (Int.toNat v3)).1 (rd (.pair (.int .i64) (.pair (.int .i64) (.pair (.int .i64) (.pair (.int .i64) (.int .i64))))) v1 (Int.toNat v3)).2.1 (rd (.pair (.int .i64) (.pair (.int .i64) (.pair (.int .i64) (.pair (.int .i64) (.int .i64))))) v1 (Int.toNat v3)).2.2.1 (rd (.pair (.int .i64) (.pair (.int .i64) (.pair (.int .i64) (.pair (.int .i64) (.int .i64))))) v1 (Int.toNat v3)).2.2.2.1 (rd (.pair (.int .i64) (.pair (.int .i64) (.pair (.int .i64) (.pair (.int .i64) (.int .i64))))) v1 (Int.toNat v3)).2.2.2.2)).bind fun y22 =>
   cond (!(y22.1.toList == (⟨#[]⟩ : ByteArray).toList)) (
    cond ((decide (((v21.length + 1) * 16) ≤ 140737488355328)) && (decide ((v21.length + 1) ≤ 9223372036854775807))) (
     some (R3.next (((), ((), (v1, (v2, ((IntKind.wrap .i64 (v3 + 1)), ()))))), (((v4, (v5, (v6, (v7, (v8, (v9, (v10, (v11, ())))))))), (((), ()), ((v12, (v13, (v14, (v15, (v16, (v17, (v18, (v19, ())))))))), ((v20, ()), (((), ((), ((), ((), ((), ((), ((), ((), ((), ((), ((), ((), ((), ((), ((), ((), ())))))))))))))))), ()))))), ((v21 ++ [y22.1]), ()))))) (
     none)) (
    some (R3.next (((), ((), (v1, (v2, ((IntKind.wrap .i64 (v3 + 1)), ()))))), (((v4, (v5, (v6, (v7, (v8, (v9, (v10, (v11, ())))))))), (((), ()), ((v12, (v13, (v14, (v15, (v16, (v17, (v18, (v19, ())))))))), ((v20, ()), (((), ((), ((), ((), ((), ((), ((), ((), ((), ((), ((), ((), ((), ((), ((), ((), ())))))))))))))))), ()))))), (v21, ())))))) (
   none)) (
  some (R3.out ((), (((v4, (v5, (v6, (v7, (v8, (v9, (v10, (v11, ())))))))), (((), ()), ((v12, (v13, (v14, (v15, (v16, (v17, (v18, (v19, ())))))))), ((v20, ()), (((), ((), ((), ((), ((), ((), ((), ((), ((), ((), ((), ((), ((), ((), ((), ((), ())))))))))))))))), ()))))), (v21, ())))))
noncomputable def u15_78_1_0 (z : X15_78_1_0) : Option (R3 X15_78_1_0 Y15_78_1_0 Z15_78_1_0) := t15_78_1_0 z.1.2.2.1 z.1.2.2.2.1 z.1.2.2.2.2.1 z.2.1.1.1 z.2.1.1.2.1 z.2.1.1.2.2.1 z.2.1.1.2.2.2.1 z.2.1.1.2.2.2.2.1 z.2.1.1.2.2.2.2.2.1 z.2.1.1.2.2.2.2.2.2.1 z.2.1.1.2.2.2.2.2.2.2.1 z.2.1.2.2.1.1 z.2.1.2.2.1.2.1 z.2.1.2.2.1.2.2.1 z.2.1.2.2.1.2.2.2.1 z.2.1.2.2.1.2.2.2.2.1 z.2.1.2.2.1.2.2.2.2.2.1 z.2.1.2.2.1.2.2.2.2.2.2.1 z.2.1.2.2.1.2.2.2.2.2.2.2.1 z.2.1.2.2.2.1.1 z.2.2.1
noncomputable def f15 (v1 : Int) (v2 : Int) (v3 : Int) (v4 : Int) (v5 : Int) (v6 : Int) (v7 : Int) (v8 : Int) (v9 : (List (Int × (Int × (Int × (Int × Int)))))) : Option ((List ByteArray) × Unit) :=
 ((iter big u15_78_1_0 (((), ((), (v9, (((v9.length : Nat) : Int), (0, ()))))), (((v1, (v2, (v3, (v4, (v5, (v6, (v7, (v8, ())))))))), (((), ()), ((v1, (v2, (v3, (v4, (v5, (v6, (v7, (v8, ())))))))), ((v9, ()), (((), ((), ((), ((), ((), ((), ((), ((), ((), ((), ((), ((), ((), ((), ((), ((), ())))))))))))))))), ()))))), ([], ()))))).bind fun r => match r with
 | .inl y10 =>
   some (y10.2.2.1, ())
 | .inr z11 =>
   some (z11.2.2.1, ())
noncomputable def f98 (v1 : Int) : Option (Bool × Unit) :=
 cond (decide (48 ≤ v1)) (
  some ((decide (v1 ≤ 57)), ())) (
  some (false, ()))
abbrev X84_3 : Type := (ByteArray × Int × Int × Unit × Unit) × ((ByteArray × Nat) × Unit) × (Unit)
abbrev Y84_3 : Type := (ByteArray × Int × Int × Unit) × (Unit) × (Unit)
abbrev Z84_3 : Type := (Int × Bool × Unit) × (Unit) × (Unit)
noncomputable def t84_3 (v1 : ByteArray) (v2 : Int) (v3 : Int) (v4 : ByteArray) (v5 : Nat) : Option (R3 X84_3 Y84_3 Z84_3) :=
 cond (decide (v5 < v4.size)) (
  ((f98 (((Utf8.decode v4 v5).1 : Nat) : Int))).bind fun y6 =>
  cond (!y6.1) (
   some (R3.ret ((0, (false, ())), ((), ())))) (
   cond (decide (3 ≤ ((v5 : Nat) : Int))) (
    some (R3.ret ((0, (false, ())), ((), ())))) (
    cond (decide (0 < ((v5 : Nat) : Int))) (
     cond (decide (0 < ((v1.size : Nat) : Int))) (
      cond (decide ((bt v1 0) = 48)) (
       some (R3.ret ((0, (false, ())), ((), ())))) (
       some (R3.next ((v1, (v2, ((IntKind.wrap .i64 ((IntKind.wrap .i64 (10 * v3)) + (IntKind.wrap .i64 (IntKind.wrap .i32 ((((Utf8.decode v4 v5).1 : Nat) : Int) - 48))))), ((), ())))), (((v4, (v5 + (Utf8.decode v4 v5).2)), ()), ()))))) (
      none)) (
     some (R3.next ((v1, (v2, ((IntKind.wrap .i64 ((IntKind.wrap .i64 (10 * v3)) + (IntKind.wrap .i64 (IntKind.wrap .i32 ((((Utf8.decode v4 v5).1 : Nat) : Int) - 48))))), ((), ())))), (((v4, (v5 + (Utf8.decode v4 v5).2)), ()), ()))))))) (
  some (R3.out ((v1, (v2, (v3, ()))), ((), ()))))
noncomputable def u84_3 (z : X84_3) : Option (R3 X84_3 Y84_3 Z84_3) := t84_3 z.1.1 z.1.2.1 z.1.2.2.1 z.2.1.1.1 z.2.1.1.2
noncomputable def f84 (v1 : ByteArray) (v2 : Int) : Option (Int × (Bool × Unit)) :=
 ((iter big u84_3 ((v1, (v2, (0, ((), ())))), (((v1, 0), ()), ())))).bind fun r => match r with
 | .inl y3 =>
   cond (!(y3.1.1.toList == (⟨#[]⟩ : ByteArray).toList)) (
    some (y3.1.2.2.1, ((decide (y3.1.2.2.1 ≤ y3.1.2.1)), ()))) (
    some (y3.1.2.2.1, (false, ())))
 | .inr z4 =>
   some (z4.1.1, (z4.1.2.1, ()))
abbrev X45_6 : Type := (Int × Int × Int × Unit) × (Unit) × ((List ByteArray) × Unit)
abbrev Y45_6 : Type := (Int × Unit) × (Unit) × (Unit)
abbrev Z45_6 : Type := (Int × Bool × Unit) × (Unit) × (Unit)
noncomputable def t45_6 (v1 : Int) (v2 : Int) (v3 : Int) (v4 : (List ByteArray)) : Option (R3 X45_6 Y45_6 Z45_6) :=
 cond (decide (v3 < v2)) (
  cond ((decide (0 ≤ v3)) && (decide (v3 < ((v4.length : Nat) : Int)))) (
   cond (decide ((Int.toNat v3) < v4.length)) (
    ((f84 (rd .str v4 (Int.toNat v3)) 255)).bind fun y5 =>
    cond (!y5.2.1) (
     some (R3.ret ((0, (false, ())), ((), ())))) (
     some (R3.next (((bitop .or .i64 (IntKind.wrap .i64 (v1 * 256)) y5.1), (v2, ((IntKind.wrap .i64 (v3 + 1)), ()))), ((), (v4, ())))))) (
    none)) (
   none)) (
  some (R3.out ((v1, ()), ((), ()))))
noncomputable def u45_6 (z : X45_6) : Option (R3 X45_6 Y45_6 Z45_6) := t45_6 z.1.1 z.1.2.1 z.1.2.2.1 z.2.2.1
noncomputable def f45 (v1 : ByteArray) : Option (Int × (Bool × Unit)) :=
 ((fSplit v1 (⟨#[46]⟩ : ByteArray))).bind fun y2 =>
 cond (!(decide (((y2.1.length : Nat) : Int) = 4))) (
  some (0, (false, ()))) (
  ((iter big u45_6 ((0, (((y2.1.length : Nat) : Int), (0, ()))), ((), (y2.1, ()))))).bind fun r => match r with
  | .inl y3 =>
    some (y3.1.1, (true, ()))
  | .inr z4 =>
    some (z4.1.1, (z4.1.2.1, ())))
abbrev X47_3 : Type := (ByteArray × Int × Unit × Unit) × ((ByteArray × Nat) × Unit) × (Unit)
abbrev Y47_3 : Type := (ByteArray × Int × Unit) × (Unit) × (Unit)
abbrev Z47_3 : Type := (Int × Bool × Unit) × (Unit) × (Unit)
noncomputable def t47_3 (v1 : ByteArray) (v2 : Int) (v3 : ByteArray) (v4 : Nat) : Option (R3 X47_3 Y47_3 Z47_3) :=
 cond (decide (v4 < v3.size)) (
  cond (decide ((((Utf8.decode v3 v4).1 : Nat) : Int) < 48)) (
   some (R3.ret ((0, (false, ())), ((), ())))) (
   cond (decide (57 < (((Utf8.decode v3 v4).1 : Nat) : Int))) (
    some (R3.ret ((0, (false, ())), ((), ())))) (
    cond (decide (10 ≤ ((v4 : Nat) : Int))) (
     some (R3.ret ((0, (false, ())), ((), ())))) (
     cond (decide (0 < ((v4 : Nat) : Int))) (
      cond (decide (0 < ((v1.size : Nat) : Int))) (
       cond (decide ((bt v1 0) = 48)) (
        some (R3.ret ((0, (false, ())), ((), ())))) (
        some (R3.next ((v1, ((IntKind.wrap .i64 ((IntKind.wrap .i64 (10 * v2)) + (IntKind.wrap .i64 (IntKind.wrap .i32 ((((Utf8.decode v3 v4).1 : Nat) : Int) - 48))))), ((), ()))), (((v3, (v4 + (Utf8.decode v3 v4).2)), ()), ()))))) (
       none)) (
      some (R3.next ((v1, ((IntKind.wrap .i64 ((IntKind.wrap .i64 (10 * v2)) + (IntKind.wrap .i64 (IntKind.wrap .i32 ((((Utf8.decode v3 v4).1 : Nat) : Int) - 48))))), ((), ()))), (((v3, (v4 + (Utf8.decode v3 v4).2)), ()), ())))))))) (
  some (R3.out ((v1, (v2, ())), ((), ()))))
noncomputable def u47_3 (z : X47_3) : Option (R3 X47_3 Y47_3 Z47_3) := t47_3 z.1.1 z.1.2.1 z.2.1.1.1 z.2.1.1.2
noncomputable def f47 (v1 : ByteArray) : Option (Int × (Bool × Unit)) :=
 ((iter big u47_3 ((v1, (0, ((), ()))), (((v1, 0), ()), ())))).bind fun r => match r with
 | .inl y2 =>
   some (y2.1.2.1, ((!(y2.1.1.toList == (⟨#[]⟩ : ByteArray).toList)), ()))
 | .inr z3 =>
   some (z3.1.1, (z3.1.2.1, ()))
noncomputable def f17 (v1 : Int) (v2 : Int) (v3 : Int) (v4 : Int) (v5 : Int) (v6 : Int) (v7 : Int) (v8 : Int) (v9 : ByteArray) : Option ((Int × (Int × (Int × (Int × Int)))) × (Bool × Unit)) :=
 ((fSplit v9 (⟨#[32]⟩ : ByteArray))).bind fun y10 =>
 cond (!(decide (((y10.1.length : Nat) : Int) = 5))) (
  some ((0, (0, (0, (0, 0)))), (false, ()))) (
  cond (decide (0 < ((y10.1.length : Nat) : Int))) (
   cond (decide (0 < y10.1.length)) (
    ((f45 (rd .str y10.1 0))).bind fun y11 =>
    cond (decide (1 < ((y10.1.length : Nat) : Int))) (
     cond (decide (1 < y10.1.length)) (
      ((f45 (rd .str y10.1 1))).bind fun y12 =>
      cond (decide (2 < ((y10.1.length : Nat) : Int))) (
       cond (decide (2 < y10.1.length)) (
        ((fCut (rd .str y10.1 2) (⟨#[45]⟩ : ByteArray))).bind fun y13 =>
        ((f47 y13.1)).bind fun y14 =>
        cond (decide (3 < ((y10.1.length : Nat) : Int))) (
         cond (decide (3 < y10.1.length)) (
          ((f47 (rd .str y10.1 3))).bind fun y15 =>
          cond (decide (4 < ((y10.1.length : Nat) : Int))) (
           cond (decide (4 < y10.1.length)) (
            ((f47 (rd .str y10.1 4))).bind fun y16 =>
            cond (decide (4 < ((y10.1.length : Nat) : Int))) (
             cond (decide (4 < y10.1.length)) (
              cond ((rd .str y10.1 4).toList == (⟨#[45]⟩ : ByteArray).toList) (
               ((f48 v1 v2 y11.1)).bind fun y17 =>
               ((f48 v3 v4 y12.1)).bind fun y18 =>
               ((f26 v1 v2 v3 v4 v5 v6 v7 v8 y18.1 y14.1)).bind fun y19 =>
               cond (!y11.2.1) (
                some ((0, (0, (0, (0, 0)))), (false, ()))) (
                cond (!y12.2.1) (
                 some ((0, (0, (0, (0, 0)))), (false, ()))) (
                 cond (!y14.2.1) (
                  some ((0, (0, (0, (0, 0)))), (false, ()))) (
                  cond (!y15.2.1) (
                   some ((0, (0, (0, (0, 0)))), (false, ()))) (
                   ((f16 v1 v2 v3 v4 v5 v6 v7 v8 y17.1 y18.1 y19.1 y15.1 (-1))).bind fun y20 =>
                   cond (!(y20.1.toList == v9.toList)) (
                    some ((0, (0, (0, (0, 0)))), (false, ()))) (
                    some ((y17.1, (y18.1, (y19.1, (y15.1, (-1))))), (true, ())))))))) (
               ((f48 v1 v2 y11.1)).bind fun y21 =>
               ((f48 v3 v4 y12.1)).bind fun y22 =>
               ((f26 v1 v2 v3 v4 v5 v6 v7 v8 y22.1 y14.1)).bind fun y23 =>
               cond (!y11.2.1) (
                some ((0, (0, (0, (0, 0)))), (false, ()))) (
                cond (!y12.2.1) (
                 some ((0, (0, (0, (0, 0)))), (false, ()))) (
                 cond (!y14.2.1) (
                  some ((0, (0, (0, (0, 0)))), (false, ()))) (
                  cond (!y15.2.1) (
                   some ((0, (0, (0, (0, 0)))), (false, ()))) (
                   cond (!y16.2.1) (
                    some ((0, (0, (0, (0, 0)))), (false, ()))) (
                    ((f16 v1 v2 v3 v4 v5 v6 v7 v8 y21.1 y22.1 y23.1 y15.1 y16.1)).bind fun y24 =>
                    cond (!(y24.1.toList == v9.toList)) (
                     some ((0, (0, (0, (0, 0)))), (false, ()))) (
                     some ((y21.1, (y22.1, (y23.1, (y15.1, y16.1)))), (true, ())))))))))) (
              none)) (
             none)) (
            none)) (
           none)) (
          none)) (
         none)) (
        none)) (
       none)) (
      none)) (
     none)) (
    none)) (
   none))
noncomputable def f18  : Option (((Int × Int) × ((Int × Int) × (Int × (Int × (Int × Int))))) × Unit) :=
 some (((167772160, 31), ((184549376, 32), (1000, (1099, (20, 10))))), ())
noncomputable def f19 (v1 : Int) (v2 : Int) (v3 : Int) (v4 : Int) (v5 : Int) (v6 : Int) (v7 : Int) (v8 : Int) (v9 : Int) (v10 : Int) (v11 : Int) (v12 : Bool) : Option ((((Int × Int) × ((Int × Int) × (Int × (Int × (Int × Int))))) × ((Int × (Int × (Int × Bool))) × (Int × ((List (Int × (Int × Int))) × ((List (Int × (Int × (Int × (Int × Int))))) × (List (Int × (Int × Int)))))))) × (Bool × Unit)) :=
 ((f11 v1 v2 v3 v4 v5 v6 v7 v8 v9 v10 v11 v12 0 [] [] [])).bind fun y13 =>
 cond (!y13.1) (
  some ((((0, 0), ((0, 0), (0, (0, (0, 0))))), ((0, (0, (0, false))), (0, ([], ([], []))))), (false, ()))) (
  some ((((v1, v2), ((v3, v4), (v5, (v6, (v7, v8))))), ((v9, (v10, (v11, v12))), (0, ([], ([], []))))), (true, ())))
noncomputable def f7  : Option (Bool × Unit) :=
 (f18).bind fun y1 =>
 ((f16 y1.1.1.1 y1.1.1.2 y1.1.2.1.1 y1.1.2.1.2 y1.1.2.2.1 y1.1.2.2.2.1 y1.1.2.2.2.2.1 y1.1.2.2.2.2.2 1 0 0 3 7)).bind fun y2 =>
 ((f17 y1.1.1.1 y1.1.1.2 y1.1.2.1.1 y1.1.2.1.2 y1.1.2.2.1 y1.1.2.2.2.1 y1.1.2.2.2.2.1 y1.1.2.2.2.2.2 y2.1)).bind fun y3 =>
 ((f19 y1.1.1.1 y1.1.1.2 y1.1.2.1.1 y1.1.2.1.2 y1.1.2.2.1 y1.1.2.2.2.1 y1.1.2.2.2.2.1 y1.1.2.2.2.2.2 1 9 0 false)).bind fun y4 =>
 ((f12 y4.1.1.1.1 y4.1.1.1.2 y4.1.1.2.1.1 y4.1.1.2.1.2 y4.1.1.2.2.1 y4.1.1.2.2.2.1 y4.1.1.2.2.2.2.1 y4.1.1.2.2.2.2.2 y4.1.2.1.1 y4.1.2.1.2.1 y4.1.2.1.2.2.1 y4.1.2.1.2.2.2 y4.1.2.2.1 y4.1.2.2.2.1 y4.1.2.2.2.2.1 y4.1.2.2.2.2.2)).bind fun y5 =>
 cond (y2.1.toList == (⟨#[49, 48, 46, 48, 46, 48, 46, 49, 32, 49, 49, 46, 48, 46, 48, 46, 48, 32, 49, 48, 56, 48, 45, 49, 48, 56, 57, 32, 51, 32, 55]⟩ : ByteArray).toList) (
  cond y3.2.1 (
   cond ((decide (y3.1.1 = 1)) && ((decide (y3.1.2.1 = 0)) && ((decide (y3.1.2.2.1 = 0)) && ((decide (y3.1.2.2.2.1 = 3)) && ((decide (y3.1.2.2.2.2 = 7)) && true))))) (
    ((f15 y1.1.1.1 y1.1.1.2 y1.1.2.1.1 y1.1.2.1.2 y1.1.2.2.1 y1.1.2.2.2.1 y1.1.2.2.2.2.1 y1.1.2.2.2.2.2 [(1, (0, (0, (3, 7))))])).bind fun y6 =>
    cond (decide (((y6.1.length : Nat) : Int) = 1)) (
     ((f9 y4.1.1.1.1 y4.1.1.1.2 y4.1.1.2.1.1 y4.1.1.2.1.2 y4.1.1.2.2.1 y4.1.1.2.2.2.1 y4.1.1.2.2.2.2.1 y4.1.1.2.2.2.2.2 y4.1.2.1.1 y4.1.2.1.2.1 y4.1.2.1.2.2.1 y4.1.2.1.2.2.2 y4.1.2.2.1 y4.1.2.2.2.1 y4.1.2.2.2.2.1 y4.1.2.2.2.2.2 1)).bind fun y7 =>
     cond (decide (((y7.1.length : Nat) : Int) = 1)) (
      ((f10 y4.1.1.1.1 y4.1.1.1.2 y4.1.1.2.1.1 y4.1.1.2.1.2 y4.1.1.2.2.1 y4.1.1.2.2.2.1 y4.1.1.2.2.2.2.1 y4.1.1.2.2.2.2.2 y4.1.2.1.1 y4.1.2.1.2.1 y4.1.2.1.2.2.1 y4.1.2.1.2.2.2 y4.1.2.2.1 y4.1.2.2.2.1 y4.1.2.2.2.2.1 y4.1.2.2.2.2.2 0 1000)).bind fun y8 =>
      cond (decide (y8.1 = 0)) (
       some ((decide ((IntKind.wrap .i64 ((IntKind.wrap .i64 (y5.1 + y5.2.1)) + y5.2.2.1)) = 0)), ())) (
       some (false, ()))) (
      some (false, ()))) (
     some (false, ()))) (
    some (false, ()))) (
   some (false, ()))) (
  some (false, ()))
noncomputable def f20 (v1 : (List (Int × (Int × (Int × (Int × Int)))))) (v2 : (List (Int × (Int × Int)))) : Option (Bool × Unit) :=
 cond (decide (((v1.length : Nat) : Int) ≤ 40)) (
  some ((decide (((v2.length : Nat) : Int) ≤ 40)), ())) (
  some (false, ()))
noncomputable def f8 (v1 : Int) (v2 : Int) (v3 : Int) (v4 : Int) (v5 : Int) (v6 : Int) (v7 : Int) (v8 : Int) (v9 : Int) (v10 : Int) (v11 : Int) (v12 : Bool) (v13 : Int) (v14 : (List (Int × (Int × Int)))) (v15 : (List (Int × (Int × (Int × (Int × Int)))))) (v16 : (List (Int × (Int × Int)))) : Option (Bool × Unit) :=
 ((f20 v15 v16)).bind fun y17 =>
 cond y17.1 (
  some ((decide (((v14.length : Nat) : Int) ≤ 6)), ())) (
  some (false, ()))
abbrev X3_14 : Type := (Int × Int × Unit × Bool × Int × Unit) × ((Int × Int × Int × Int × Int × Int × Int × Int × Int × Int × Int × Bool × Int × (List (Int × (Int × Int))) × (List (Int × (Int × (Int × (Int × Int))))) × (List (Int × (Int × Int))) × Unit) × Unit) × ((List (Int × (Int × Int))) × Unit)
abbrev Y3_14 : Type := (Unit × Bool × Unit) × ((Int × Int × Int × Int × Int × Int × Int × Int × Int × Int × Int × Bool × Int × (List (Int × (Int × Int))) × (List (Int × (Int × (Int × (Int × Int))))) × (List (Int × (Int × Int))) × Unit) × Unit) × (Unit)
abbrev Z3_14 : Type := Unit × Unit × Unit
noncomputable def t3_14 (v1 : Int) (v2 : Int) (v3 : Bool) (v4 : Int) (v5 : Int) (v6 : Int) (v7 : Int) (v8 : Int) (v9 : Int) (v10 : Int) (v11 : Int) (v12 : Int) (v13 : Int) (v14 : Int) (v15 : Int) (v16 : Bool) (v17 : Int) (v18 : (List (Int × (Int × Int)))) (v19 : (List (Int × (Int × (Int × (Int × Int)))))) (v20 : (List (Int × (Int × Int)))) (v21 : (List (Int × (Int × Int)))) : Option (R3 X3_14 Y3_14 Z3_14) :=
 cond (decide (v4 < ((v21.length : Nat) : Int))) (
  cond v3 (
   some (R3.next ((v1, (v2, ((), (true, ((IntKind.wrap .i64 (v4 + 1)), ()))))), (((v5, (v6, (v7, (v8, (v9, (v10, (v11, (v12, (v13, (v14, (v15, (v16, (v17, (v18, (v19, (v20, ())))))))))))))))), ()), (v21, ()))))) (
   cond ((decide (0 ≤ v4)) && (decide (v4 < ((v21.length : Nat) : Int)))) (
    cond (decide ((Int.toNat v4) < v21.length)) (
     cond (decide ((rd (.pair (.int .i64) (.pair (.int .i64) (.int .i64))) v21 (Int.toNat v4)).1 = v1)) (
      cond ((decide (0 ≤ v4)) && (decide (v4 < ((v21.length : Nat) : Int)))) (
       cond (decide ((Int.toNat v4) < v21.length)) (
        cond (decide ((rd (.pair (.int .i64) (.pair (.int .i64) (.int .i64))) v21 (Int.toNat v4)).2.1 ≤ v2)) (
         cond ((decide (0 ≤ v4)) && (decide (v4 < ((v21.length : Nat) : Int)))) (
          cond (decide ((Int.toNat v4) < v21.length)) (
           some (R3.next ((v1, (v2, ((), ((decide (v2 ≤ (rd (.pair (.int .i64) (.pair (.int .i64) (.int .i64))) v21 (Int.toNat v4)).2.2)), ((IntKind.wrap .i64 (v4 + 1)), ()))))), (((v5, (v6, (v7, (v8, (v9, (v10, (v11, (v12, (v13, (v14, (v15, (v16, (v17, (v18, (v19, (v20, ())))))))))))))))), ()), (v21, ()))))) (
           none)) (
          none)) (
         some (R3.next ((v1, (v2, ((), (false, ((IntKind.wrap .i64 (v4 + 1)), ()))))), (((v5, (v6, (v7, (v8, (v9, (v10, (v11, (v12, (v13, (v14, (v15, (v16, (v17, (v18, (v19, (v20, ())))))))))))))))), ()), (v21, ())))))) (
        none)) (
       none)) (
      some (R3.next ((v1, (v2, ((), (false, ((IntKind.wrap .i64 (v4 + 1)), ()))))), (((v5, (v6, (v7, (v8, (v9, (v10, (v11, (v12, (v13, (v14, (v15, (v16, (v17, (v18, (v19, (v20, ())))))))))))))))), ()), (v21, ())))))) (
     none)) (
    none))) (
  some (R3.out (((), (v3, ())), (((v5, (v6, (v7, (v8, (v9, (v10, (v11, (v12, (v13, (v14, (v15, (v16, (v17, (v18, (v19, (v20, ())))))))))))))))), ()), ()))))
noncomputable def u3_14 (z : X3_14) : Option (R3 X3_14 Y3_14 Z3_14) := t3_14 z.1.1 z.1.2.1 z.1.2.2.2.1 z.1.2.2.2.2.1 z.2.1.1.1 z.2.1.1.2.1 z.2.1.1.2.2.1 z.2.1.1.2.2.2.1 z.2.1.1.2.2.2.2.1 z.2.1.1.2.2.2.2.2.1 z.2.1.1.2.2.2.2.2.2.1 z.2.1.1.2.2.2.2.2.2.2.1 z.2.1.1.2.2.2.2.2.2.2.2.1 z.2.1.1.2.2.2.2.2.2.2.2.2.1 z.2.1.1.2.2.2.2.2.2.2.2.2.2.1 z.2.1.1.2.2.2.2.2.2.2.2.2.2.2.1 z.2.1.1.2.2.2.2.2.2.2.2.2.2.2.2.1 z.2.1.1.2.2.2.2.2.2.2.2.2.2.2.2.2.1 z.2.1.1.2.2.2.2.2.2.2.2.2.2.2.2.2.2.1 z.2.1.1.2.2.2.2.2.2.2.2.2.2.2.2.2.2.2.1 z.2.2.1
noncomputable def f3 (v1 : Int) (v2 : Int) (v3 : Int) (v4 : Int) (v5 : Int) (v6 : Int) (v7 : Int) (v8 : Int) (v9 : Int) (v10 : Int) (v11 : Int) (v12 : Bool) (v13 : Int) (v14 : (List (Int × (Int × Int)))) (v15 : (List (Int × (Int × (Int × (Int × Int)))))) (v16 : (List (Int × (Int × Int)))) (v17 : Int) (v18 : Int) (v19 : Int) (v20 : Int) : Option (Bool × Unit) :=
 (f7).bind fun y21 =>
 ((f8 v1 v2 v3 v4 v5 v6 v7 v8 v9 v10 v11 v12 v13 v14 v15 v16)).bind fun y22 =>
 cond (!y21.1) (
  some (y21.1, ())) (
  cond (!y22.1) (
   some (y21.1, ())) (
   ((f9 v1 v2 v3 v4 v5 v6 v7 v8 v9 v10 v11 v12 v13 v14 v15 v16 v17)).bind fun y23 =>
   cond (decide (0 ≤ v18)) (
    cond (decide (v18 < ((y23.1.length : Nat) : Int))) (
     cond ((decide (0 ≤ v18)) && (decide (v18 < ((y23.1.length : Nat) : Int)))) (
      cond (decide ((Int.toNat v18) < y23.1.length)) (
       cond ((decide (0 ≤ v18)) && (decide (v18 < ((y23.1.length : Nat) : Int)))) (
        cond (decide ((Int.toNat v18) < y23.1.length)) (
         ((f10 v1 v2 v3 v4 v5 v6 v7 v8 v9 v10 v11 v12 v13 v14 v15 v16 (rd (.pair (.int .i64) (.pair (.int .i64) (.int .i64))) y23.1 (Int.toNat v18)).1 (rd (.pair (.int .i64) (.pair (.int .i64) (.int .i64))) y23.1 (Int.toNat v18)).2.1)).bind fun y24 =>
         cond (!(decide (y24.1 = v17))) (
          some (false, ())) (
          cond ((decide (0 ≤ v18)) && (decide (v18 < ((y23.1.length : Nat) : Int)))) (
           cond (decide ((Int.toNat v18) < y23.1.length)) (
            cond ((decide (0 ≤ v18)) && (decide (v18 < ((y23.1.length : Nat) : Int)))) (
             cond (decide ((Int.toNat v18) < y23.1.length)) (
              ((f10 v1 v2 v3 v4 v5 v6 v7 v8 v9 v10 v11 v12 v13 v14 v15 v16 (rd (.pair (.int .i64) (.pair (.int .i64) (.int .i64))) y23.1 (Int.toNat v18)).1 (rd (.pair (.int .i64) (.pair (.int .i64) (.int .i64))) y23.1 (Int.toNat v18)).2.2)).bind fun y25 =>
              cond (!(decide (y25.1 = v17))) (
               some (false, ())) (
               ((f10 v1 v2 v3 v4 v5 v6 v7 v8 v9 v10 v11 v12 v13 v14 v15 v16 v19 v20)).bind fun y26 =>
               cond (decide (y26.1 < 0)) (
                some ((decide (y26.1 = (-1))), ())) (
                ((f9 v1 v2 v3 v4 v5 v6 v7 v8 v9 v10 v11 v12 v13 v14 v15 v16 y26.1)).bind fun y27 =>
                ((iter big u3_14 ((v19, (v20, ((), (false, (0, ()))))), (((v1, (v2, (v3, (v4, (v5, (v6, (v7, (v8, (v9, (v10, (v11, (v12, (v13, (v14, (v15, (v16, ())))))))))))))))), ()), (y27.1, ()))))).bind fun r => match r with
                | .inl y28 =>
                  cond y28.1.2.1 (
                   ((f11 y28.2.1.1.1 y28.2.1.1.2.1 y28.2.1.1.2.2.1 y28.2.1.1.2.2.2.1 y28.2.1.1.2.2.2.2.1 y28.2.1.1.2.2.2.2.2.1 y28.2.1.1.2.2.2.2.2.2.1 y28.2.1.1.2.2.2.2.2.2.2.1 y28.2.1.1.2.2.2.2.2.2.2.2.1 y28.2.1.1.2.2.2.2.2.2.2.2.2.1 y28.2.1.1.2.2.2.2.2.2.2.2.2.2.1 y28.2.1.1.2.2.2.2.2.2.2.2.2.2.2.1 y28.2.1.1.2.2.2.2.2.2.2.2.2.2.2.2.1 y28.2.1.1.2.2.2.2.2.2.2.2.2.2.2.2.2.1 y28.2.1.1.2.2.2.2.2.2.2.2.2.2.2.2.2.2.1 y28.2.1.1.2.2.2.2.2.2.2.2.2.2.2.2.2.2.2.1)).bind fun y30 =>
                   some (y30.1, ())) (
                   some (false, ()))
                | .inr z29 =>
                  none))) (
              none)) (
             none)) (
            none)) (
           none))) (
         none)) (
        none)) (
       none)) (
      none)) (
     ((f10 v1 v2 v3 v4 v5 v6 v7 v8 v9 v10 v11 v12 v13 v14 v15 v16 v19 v20)).bind fun y31 =>
     cond (decide (y31.1 < 0)) (
      some ((decide (y31.1 = (-1))), ())) (
      ((f9 v1 v2 v3 v4 v5 v6 v7 v8 v9 v10 v11 v12 v13 v14 v15 v16 y31.1)).bind fun y32 =>
      ((iter big u3_14 ((v19, (v20, ((), (false, (0, ()))))), (((v1, (v2, (v3, (v4, (v5, (v6, (v7, (v8, (v9, (v10, (v11, (v12, (v13, (v14, (v15, (v16, ())))))))))))))))), ()), (y32.1, ()))))).bind fun r => match r with
      | .inl y33 =>
        cond y33.1.2.1 (
         ((f11 y33.2.1.1.1 y33.2.1.1.2.1 y33.2.1.1.2.2.1 y33.2.1.1.2.2.2.1 y33.2.1.1.2.2.2.2.1 y33.2.1.1.2.2.2.2.2.1 y33.2.1.1.2.2.2.2.2.2.1 y33.2.1.1.2.2.2.2.2.2.2.1 y33.2.1.1.2.2.2.2.2.2.2.2.1 y33.2.1.1.2.2.2.2.2.2.2.2.2.1 y33.2.1.1.2.2.2.2.2.2.2.2.2.2.1 y33.2.1.1.2.2.2.2.2.2.2.2.2.2.2.1 y33.2.1.1.2.2.2.2.2.2.2.2.2.2.2.2.1 y33.2.1.1.2.2.2.2.2.2.2.2.2.2.2.2.2.1 y33.2.1.1.2.2.2.2.2.2.2.2.2.2.2.2.2.2.1 y33.2.1.1.2.2.2.2.2.2.2.2.2.2.2.2.2.2.2.1)).bind fun y35 =>
         some (y35.1, ())) (
         some (false, ()))
      | .inr z34 =>
        none))) (
    ((f10 v1 v2 v3 v4 v5 v6 v7 v8 v9 v10 v11 v12 v13 v14 v15 v16 v19 v20)).bind fun y36 =>
    cond (decide (y36.1 < 0)) (
     some ((decide (y36.1 = (-1))), ())) (
     ((f9 v1 v2 v3 v4 v5 v6 v7 v8 v9 v10 v11 v12 v13 v14 v15 v16 y36.1)).bind fun y37 =>
     ((iter big u3_14 ((v19, (v20, ((), (false, (0, ()))))), (((v1, (v2, (v3, (v4, (v5, (v6, (v7, (v8, (v9, (v10, (v11, (v12, (v13, (v14, (v15, (v16, ())))))))))))))))), ()), (y37.1, ()))))).bind fun r => match r with
     | .inl y38 =>
       cond y38.1.2.1 (
        ((f11 y38.2.1.1.1 y38.2.1.1.2.1 y38.2.1.1.2.2.1 y38.2.1.1.2.2.2.1 y38.2.1.1.2.2.2.2.1 y38.2.1.1.2.2.2.2.2.1 y38.2.1.1.2.2.2.2.2.2.1 y38.2.1.1.2.2.2.2.2.2.2.1 y38.2.1.1.2.2.2.2.2.2.2.2.1 y38.2.1.1.2.2.2.2.2.2.2.2.2.1 y38.2.1.1.2.2.2.2.2.2.2.2.2.2.1 y38.2.1.1.2.2.2.2.2.2.2.2.2.2.2.1 y38.2.1.1.2.2.2.2.2.2.2.2.2.2.2.2.1 y38.2.1.1.2.2.2.2.2.2.2.2.2.2.2.2.2.1 y38.2.1.1.2.2.2.2.2.2.2.2.2.2.2.2.2.2.1 y38.2.1.1.2.2.2.2.2.2.2.2.2.2.2.2.2.2.2.1)).bind fun y40 =>
        some (y40.1, ())) (
        some (false, ()))
     | .inr z39 =>
       none))))
abbrev X4_11 : Type := (Unit × Int × Int × Int × Int × Bool × Int × Unit) × ((Int × Int × Int × Int × Int × Int × Int × Int × Int × Int × Int × Bool × Int × (List (Int × (Int × Int))) × (List (Int × (Int × (Int × (Int × Int))))) × (List (Int × (Int × Int))) × Unit) × Unit) × (Unit)
abbrev Y4_11 : Type := (Unit × Int × Int × Int × Int × Bool × Unit) × ((Int × Int × Int × Int × Int × Int × Int × Int × Int × Int × Int × Bool × Int × (List (Int × (Int × Int))) × (List (Int × (Int × (Int × (Int × Int))))) × (List (Int × (Int × Int))) × Unit) × Unit) × (Unit)
abbrev Z4_11 : Type := Unit × Unit × Unit
noncomputable def t4_11 (v1 : Int) (v2 : Int) (v3 : Int) (v4 : Int) (v5 : Bool) (v6 : Int) (v7 : Int) (v8 : Int) (v9 : Int) (v10 : Int) (v11 : Int) (v12 : Int) (v13 : Int) (v14 : Int) (v15 : Int) (v16 : Int) (v17 : Int) (v18 : Bool) (v19 : Int) (v20 : (List (Int × (Int × Int)))) (v21 : (List (Int × (Int × (Int × (Int × Int)))))) (v22 : (List (Int × (Int × Int)))) : Option (R3 X4_11 Y4_11 Z4_11) :=
 cond (decide (v6 < ((v20.length : Nat) : Int))) (
  cond ((decide (0 ≤ v6)) && (decide (v6 < ((v20.length : Nat) : Int)))) (
   ((f13 v7 v8 v9 v10 v11 v12 v13 v14)).bind fun y23 =>
   cond v5 (
    some (R3.next (((), (v1, (v2, (v3, ((IntKind.wrap .i64 (v4 + (IntKind.wrap .i64 ((rd (.pair (.int .i64) (.pair (.int .i64) (.int .i64))) v20 (Int.toNat v6)).2.1 * y23.1)))), (true, ((IntKind.wrap .i64 (v6 + 1)), ()))))))), (((v7, (v8, (v9, (v10, (v11, (v12, (v13, (v14, (v15, (v16, (v17, (v18, (v19, (v20, (v21, (v22, ())))))))))))))))), ()), ())))) (
    cond ((decide (0 ≤ v6)) && (decide (v6 < ((v20.length : Nat) : Int)))) (
     ((f14 v20 (rd (.pair (.int .i64) (.pair (.int .i64) (.int .i64))) v20 (Int.toNat v6)).1)).bind fun y24 =>
     some (R3.next (((), (v1, (v2, (v3, ((IntKind.wrap .i64 (v4 + (IntKind.wrap .i64 ((rd (.pair (.int .i64) (.pair (.int .i64) (.int .i64))) v20 (Int.toNat v6)).2.1 * y23.1)))), ((!y24.1), ((IntKind.wrap .i64 (v6 + 1)), ()))))))), (((v7, (v8, (v9, (v10, (v11, (v12, (v13, (v14, (v15, (v16, (v17, (v18, (v19, (v20, (v21, (v22, ())))))))))))))))), ()), ())))) (
     none))) (
   none)) (
  some (R3.out (((), (v1, (v2, (v3, (v4, (v5, ())))))), (((v7, (v8, (v9, (v10, (v11, (v12, (v13, (v14, (v15, (v16, (v17, (v18, (v19, (v20, (v21, (v22, ())))))))))))))))), ()), ()))))
noncomputable def u4_11 (z : X4_11) : Option (R3 X4_11 Y4_11 Z4_11) := t4_11 z.1.2.1 z.1.2.2.1 z.1.2.2.2.1 z.1.2.2.2.2.1 z.1.2.2.2.2.2.1 z.1.2.2.2.2.2.2.1 z.2.1.1.1 z.2.1.1.2.1 z.2.1.1.2.2.1 z.2.1.1.2.2.2.1 z.2.1.1.2.2.2.2.1 z.2.1.1.2.2.2.2.2.1 z.2.1.1.2.2.2.2.2.2.1 z.2.1.1.2.2.2.2.2.2.2.1 z.2.1.1.2.2.2.2.2.2.2.2.1 z.2.1.1.2.2.2.2.2.2.2.2.2.1 z.2.1.1.2.2.2.2.2.2.2.2.2.2.1 z.2.1.1.2.2.2.2.2.2.2.2.2.2.2.1 z.2.1.1.2.2.2.2.2.2.2.2.2.2.2.2.1 z.2.1.1.2.2.2.2.2.2.2.2.2.2.2.2.2.1 z.2.1.1.2.2.2.2.2.2.2.2.2.2.2.2.2.2.1 z.2.1.1.2.2.2.2.2.2.2.2.2.2.2.2.2.2.2.1
noncomputable def f4 (v1 : Int) (v2 : Int) (v3 : Int) (v4 : Int) (v5 : Int) (v6 : Int) (v7 : Int) (v8 : Int) (v9 : Int) (v10 : Int) (v11 : Int) (v12 : Bool) (v13 : Int) (v14 : (List (Int × (Int × Int)))) (v15 : (List (Int × (Int × (Int × (Int × Int)))))) (v16 : (List (Int × (Int × Int)))) : Option (Bool × Unit) :=
 (f7).bind fun y17 =>
 ((f8 v1 v2 v3 v4 v5 v6 v7 v8 v9 v10 v11 v12 v13 v14 v15 v16)).bind fun y18 =>
 cond (!y17.1) (
  some (y17.1, ())) (
  cond (!y18.1) (
   some (y17.1, ())) (
   ((f12 v1 v2 v3 v4 v5 v6 v7 v8 v9 v10 v11 v12 v13 v14 v15 v16)).bind fun y19 =>
   ((f11 v1 v2 v3 v4 v5 v6 v7 v8 v9 v10 v11 v12 v13 v14 v15 v16)).bind fun y20 =>
   cond (!y20.1) (
    cond (decide (y19.1 = 0)) (
     cond (decide (y19.2.1 = 0)) (
      some ((decide (y19.2.2.1 = 0)), ())) (
      some (false, ()))) (
     some (false, ()))) (
    ((iter big u4_11 (((), (y19.1, (y19.2.1, (y19.2.2.1, (0, (false, (0, ()))))))), (((v1, (v2, (v3, (v4, (v5, (v6, (v7, (v8, (v9, (v10, (v11, (v12, (v13, (v14, (v15, (v16, ())))))))))))))))), ()), ())))).bind fun r => match r with
    | .inl y21 =>
      cond (decide (y21.1.2.1 = ((y21.2.1.1.2.2.2.2.2.2.2.2.2.2.2.2.2.2.1.length : Nat) : Int))) (
       cond (decide (0 ≤ y21.1.2.2.1)) (
        cond (decide (y21.1.2.2.1 ≤ ((y21.2.1.1.2.2.2.2.2.2.2.2.2.2.2.2.2.2.2.1.length : Nat) : Int))) (
         cond (decide (0 ≤ y21.1.2.2.2.1)) (
          cond (decide ((IntKind.wrap .i64 ((IntKind.wrap .i64 (y21.1.2.1 + y21.1.2.2.1)) + y21.1.2.2.2.1)) ≤ y21.1.2.2.2.2.1)) (
           cond y21.1.2.2.2.2.2.1 (
            some (true, ())) (
            some ((decide ((IntKind.wrap .i64 ((IntKind.wrap .i64 (y21.1.2.1 + y21.1.2.2.1)) + y21.1.2.2.2.1)) = y21.1.2.2.2.2.1)), ()))) (
           some (false, ()))) (
          some (false, ()))) (
         some (false, ()))) (
        some (false, ()))) (
       some (false, ()))
    | .inr z22 =>
      none)))
abbrev X5_7 : Type := ((List (Int × (Int × (Int × (Int × Int))))) × Int × Unit × Int × Int × Unit) × ((Int × Int × Int × Int × Int × Int × Int × Int × Unit) × Unit) × ((List ByteArray) × Unit)
abbrev Y5_7 : Type := ((List (Int × (Int × (Int × (Int × Int))))) × Int × Unit × Int × Unit) × ((Int × Int × Int × Int × Int × Int × Int × Int × Unit) × Unit) × ((List ByteArray) × Unit)
abbrev Z5_7 : Type := (Bool × Unit) × (Unit) × (Unit)
noncomputable def t5_7 (v1 : (List (Int × (Int × (Int × (Int × Int)))))) (v2 : Int) (v3 : Int) (v4 : Int) (v5 : Int) (v6 : Int) (v7 : Int) (v8 : Int) (v9 : Int) (v10 : Int) (v11 : Int) (v12 : Int) (v13 : (List ByteArray)) : Option (R3 X5_7 Y5_7 Z5_7) :=
 cond (decide (v4 < ((v1.length : Nat) : Int))) (
  cond ((decide (0 ≤ v4)) && (decide (v4 < ((v1.length : Nat) : Int)))) (
   ((f16 v5 v6 v7 v8 v9 v10 v11 v12 (rd (.pair (.int .i64) (.pair (.int .i64) (.pair (.int .i64) (.pair (.int .i64) (.int .i64))))) v1 (Int.toNat v4)).1 (rd (.pair (.int .i64) (.pair (.int .i64) (.pair (.int .i64) (.pair (.int .i64) (.int .i64))))) v1 (Int.toNat v4)).2.1 (rd (.pair (.int .i64) (.pair (.int .i64) (.pair (.int .i64) (.pair (.int .i64) (.int .i64))))) v1 (Int.toNat v4)).2.2.1 (rd (.pair (.int .i64) (.pair (.int .i64) (.pair (.int .i64) (.pair (.int .i64) (.int .i64))))) v1 (Int.toNat v4)).2.2.2.1 (rd (.pair (.int .i64) (.pair (.int .i64) (.pair (.int .i64) (.pair (.int .i64) (.int .i64))))) v1 (Int.toNat v4)).2.2.2.2)).bind fun y14 =>
   cond (y14.1.toList == (⟨#[]⟩ : ByteArray).toList) (
    some (R3.next ((v1, (v2, ((), (v3, ((IntKind.wrap .i64 (v4 + 1)), ()))))), (((v5, (v6, (v7, (v8, (v9, (v10, (v11, (v12, ())))))))), ()), (v13, ()))))) (
    cond (decide (((v13.length : Nat) : Int) ≤ v3)) (
     some (R3.ret ((false, ()), ((), ())))) (
     cond ((decide (0 ≤ v3)) && (decide (v3 < ((v13.length : Nat) : Int)))) (
      cond (decide ((Int.toNat v3) < v13.length)) (
       cond (!((rd .str v13 (Int.toNat v3)).toList == y14.1.toList)) (
        some (R3.ret ((false, ()), ((), ())))) (
        some (R3.next ((v1, (v2, ((), ((IntKind.wrap .i64 (v3 + 1)), ((IntKind.wrap .i64 (v4 + 1)), ()))))), (((v5, (v6, (v7, (v8, (v9, (v10, (v11, (v12, ())))))))), ()), (v13, ())))))) (
       none)) (
      none)))) (
   none)) (
  some (R3.out ((v1, (v2, ((), (v3, ())))), (((v5, (v6, (v7, (v8, (v9, (v10, (v11, (v12, ())))))))), ()), (v13, ())))))
noncomputable def u5_7 (z : X5_7) : Option (R3 X5_7 Y5_7 Z5_7) := t5_7 z.1.1 z.1.2.1 z.1.2.2.2.1 z.1.2.2.2.2.1 z.2.1.1.1 z.2.1.1.2.1 z.2.1.1.2.2.1 z.2.1.1.2.2.2.1 z.2.1.1.2.2.2.2.1 z.2.1.1.2.2.2.2.2.1 z.2.1.1.2.2.2.2.2.2.1 z.2.1.1.2.2.2.2.2.2.2.1 z.2.2.1
abbrev X5_19 : Type := ((List (Int × (Int × (Int × (Int × Int))))) × Unit × Bool × Bool × Int × Unit) × ((Int × Int × Int × Int × Int × Unit) × Unit) × (Unit)
abbrev Y5_19 : Type := (Bool × Bool × Unit) × (Unit) × (Unit)
abbrev Z5_19 : Type := Unit × Unit × Unit
noncomputable def t5_19 (v1 : (List (Int × (Int × (Int × (Int × Int)))))) (v2 : Bool) (v3 : Bool) (v4 : Int) (v5 : Int) (v6 : Int) (v7 : Int) (v8 : Int) (v9 : Int) : Option (R3 X5_19 Y5_19 Z5_19) :=
 cond (decide (v4 < ((v1.length : Nat) : Int))) (
  cond v3 (
   some (R3.next ((v1, ((), (v2, (true, ((IntKind.wrap .i64 (v4 + 1)), ()))))), (((v5, (v6, (v7, (v8, (v9, ()))))), ()), ())))) (
   cond ((decide (0 ≤ v4)) && (decide (v4 < ((v1.length : Nat) : Int)))) (
    some (R3.next ((v1, ((), (v2, (((decide ((rd (.pair (.int .i64) (.pair (.int .i64) (.pair (.int .i64) (.pair (.int .i64) (.int .i64))))) v1 (Int.toNat v4)).1 = v5)) && ((decide ((rd (.pair (.int .i64) (.pair (.int .i64) (.pair (.int .i64) (.pair (.int .i64) (.int .i64))))) v1 (Int.toNat v4)).2.1 = v6)) && ((decide ((rd (.pair (.int .i64) (.pair (.int .i64) (.pair (.int .i64) (.pair (.int .i64) (.int .i64))))) v1 (Int.toNat v4)).2.2.1 = v7)) && ((decide ((rd (.pair (.int .i64) (.pair (.int .i64) (.pair (.int .i64) (.pair (.int .i64) (.int .i64))))) v1 (Int.toNat v4)).2.2.2.1 = v8)) && ((decide ((rd (.pair (.int .i64) (.pair (.int .i64) (.pair (.int .i64) (.pair (.int .i64) (.int .i64))))) v1 (Int.toNat v4)).2.2.2.2 = v9)) && true))))), ((IntKind.wrap .i64 (v4 + 1)), ()))))), (((v5, (v6, (v7, (v8, (v9, ()))))), ()), ())))) (
    none))) (
  some (R3.out ((v2, (v3, ())), ((), ()))))
noncomputable def u5_19 (z : X5_19) : Option (R3 X5_19 Y5_19 Z5_19) := t5_19 z.1.1 z.1.2.2.1 z.1.2.2.2.1 z.1.2.2.2.2.1 z.2.1.1.1 z.2.1.1.2.1 z.2.1.1.2.2.1 z.2.1.1.2.2.2.1 z.2.1.1.2.2.2.2.1
noncomputable def f5 (v1 : Int) (v2 : Int) (v3 : Int) (v4 : Int) (v5 : Int) (v6 : Int) (v7 : Int) (v8 : Int) (v9 : (List (Int × (Int × (Int × (Int × Int)))))) (v10 : Int) : Option (Bool × Unit) :=
 (f7).bind fun y11 =>
 cond (!y11.1) (
  some (y11.1, ())) (
  cond (decide (100 < ((v9.length : Nat) : Int))) (
   some (y11.1, ())) (
   ((f15 v1 v2 v3 v4 v5 v6 v7 v8 v9)).bind fun y12 =>
   ((iter big u5_7 ((v9, (v10, ((), (0, (0, ()))))), (((v1, (v2, (v3, (v4, (v5, (v6, (v7, (v8, ())))))))), ()), (y12.1, ()))))).bind fun r => match r with
   | .inl y13 =>
     cond (!(decide (y13.1.2.2.2.1 = ((y13.2.2.1.length : Nat) : Int)))) (
      some ((decide (y13.1.2.2.2.1 = ((y13.2.2.1.length : Nat) : Int))), ())) (
      cond (decide (y13.1.2.1 < 0)) (
       some ((decide (y13.1.2.2.2.1 = ((y13.2.2.1.length : Nat) : Int))), ())) (
       cond (decide (((y13.2.2.1.length : Nat) : Int) ≤ y13.1.2.1)) (
        some ((decide (y13.1.2.2.2.1 = ((y13.2.2.1.length : Nat) : Int))), ())) (
        cond ((decide (0 ≤ y13.1.2.1)) && (decide (y13.1.2.1 < ((y13.2.2.1.length : Nat) : Int)))) (
         cond (decide ((Int.toNat y13.1.2.1) < y13.2.2.1.length)) (
          ((f17 y13.2.1.1.1 y13.2.1.1.2.1 y13.2.1.1.2.2.1 y13.2.1.1.2.2.2.1 y13.2.1.1.2.2.2.2.1 y13.2.1.1.2.2.2.2.2.1 y13.2.1.1.2.2.2.2.2.2.1 y13.2.1.1.2.2.2.2.2.2.2.1 (rd .str y13.2.2.1 (Int.toNat y13.1.2.1)))).bind fun y15 =>
          ((iter big u5_19 ((y13.1.1, ((), (y15.2.1, (false, (0, ()))))), (((y15.1.1, (y15.1.2.1, (y15.1.2.2.1, (y15.1.2.2.2.1, (y15.1.2.2.2.2, ()))))), ()), ())))).bind fun r => match r with
          | .inl y16 =>
            cond y16.1.1 (
             some (y16.1.2.1, ())) (
             some (false, ()))
          | .inr z17 =>
            none) (
          none)) (
         none))))
   | .inr z14 =>
     some (z14.1.1, ())))
abbrev X6_8 : Type := (Int × Unit × Int × Int × Unit) × ((Int × Int × Int × Int × Int × Int × Int × Int × Int × Int × Int × Bool × Int × (List (Int × (Int × Int))) × (List (Int × (Int × (Int × (Int × Int))))) × (List (Int × (Int × Int))) × Unit) × Unit) × ((List (Int × (Int × Int))) × Unit)
abbrev Y6_8 : Type := (Unit × Int × Unit) × ((Int × Int × Int × Int × Int × Int × Int × Int × Int × Int × Int × Bool × Int × (List (Int × (Int × Int))) × (List (Int × (Int × (Int × (Int × Int))))) × (List (Int × (Int × Int))) × Unit) × Unit) × ((List (Int × (Int × Int))) × Unit)
abbrev Z6_8 : Type := Unit × Unit × Unit
noncomputable def t6_8 (v1 : Int) (v2 : Int) (v3 : Int) (v4 : Int) (v5 : Int) (v6 : Int) (v7 : Int) (v8 : Int) (v9 : Int) (v10 : Int) (v11 : Int) (v12 : Int) (v13 : Int) (v14 : Int) (v15 : Bool) (v16 : Int) (v17 : (List (Int × (Int × Int)))) (v18 : (List (Int × (Int × (Int × (Int × Int)))))) (v19 : (List (Int × (Int × Int)))) (v20 : (List (Int × (Int × Int)))) : Option (R3 X6_8 Y6_8 Z6_8) :=
 cond (decide (v3 < ((v18.length : Nat) : Int))) (
  cond ((decide (0 ≤ v3)) && (decide (v3 < ((v18.length : Nat) : Int)))) (
   cond (decide ((rd (.pair (.int .i64) (.pair (.int .i64) (.pair (.int .i64) (.pair (.int .i64) (.int .i64))))) v18 (Int.toNat v3)).1 = v1)) (
    some (R3.next ((v1, ((), ((IntKind.wrap .i64 (v2 + 1)), ((IntKind.wrap .i64 (v3 + 1)), ())))), (((v4, (v5, (v6, (v7, (v8, (v9, (v10, (v11, (v12, (v13, (v14, (v15, (v16, (v17, (v18, (v19, ())))))))))))))))), ()), (v20, ()))))) (
    some (R3.next ((v1, ((), (v2, ((IntKind.wrap .i64 (v3 + 1)), ())))), (((v4, (v5, (v6, (v7, (v8, (v9, (v10, (v11, (v12, (v13, (v14, (v15, (v16, (v17, (v18, (v19, ())))))))))))))))), ()), (v20, ())))))) (
   none)) (
  some (R3.out (((), (v2, ())), (((v4, (v5, (v6, (v7, (v8, (v9, (v10, (v11, (v12, (v13, (v14, (v15, (v16, (v17, (v18, (v19, ())))))))))))))))), ()), (v20, ())))))
noncomputable def u6_8 (z : X6_8) : Option (R3 X6_8 Y6_8 Z6_8) := t6_8 z.1.1 z.1.2.2.1 z.1.2.2.2.1 z.2.1.1.1 z.2.1.1.2.1 z.2.1.1.2.2.1 z.2.1.1.2.2.2.1 z.2.1.1.2.2.2.2.1 z.2.1.1.2.2.2.2.2.1 z.2.1.1.2.2.2.2.2.2.1 z.2.1.1.2.2.2.2.2.2.2.1 z.2.1.1.2.2.2.2.2.2.2.2.1 z.2.1.1.2.2.2.2.2.2.2.2.2.1 z.2.1.1.2.2.2.2.2.2.2.2.2.2.1 z.2.1.1.2.2.2.2.2.2.2.2.2.2.2.1 z.2.1.1.2.2.2.2.2.2.2.2.2.2.2.2.1 z.2.1.1.2.2.2.2.2.2.2.2.2.2.2.2.2.1 z.2.1.1.2.2.2.2.2.2.2.2.2.2.2.2.2.2.1 z.2.1.1.2.2.2.2.2.2.2.2.2.2.2.2.2.2.2.1 z.2.2.1
abbrev X6_13 : Type := (Unit × Int × Int × Unit) × ((Int × Int × Int × Int × Int × Int × Int × Int × Int × Int × Int × Bool × Int × (List (Int × (Int × Int))) × (List (Int × (Int × (Int × (Int × Int))))) × (List (Int × (Int × Int))) × Unit) × Unit) × ((List (Int × (Int × Int))) × Unit)
abbrev Y6_13 : Type := (Int × Unit) × (Unit) × ((List (Int × (Int × Int))) × Unit)
abbrev Z6_13 : Type := (Bool × Unit) × (Unit) × (Unit)
noncomputable def t6_13 (v1 : Int) (v2 : Int) (v3 : Int) (v4 : Int) (v5 : Int) (v6 : Int) (v7 : Int) (v8 : Int) (v9 : Int) (v10 : Int) (v11 : Int) (v12 : Int) (v13 : Int) (v14 : Bool) (v15 : Int) (v16 : (List (Int × (Int × Int)))) (v17 : (List (Int × (Int × (Int × (Int × Int)))))) (v18 : (List (Int × (Int × Int)))) (v19 : (List (Int × (Int × Int)))) : Option (R3 X6_13 Y6_13 Z6_13) :=
 cond (decide (v2 < ((v19.length : Nat) : Int))) (
  cond ((decide (0 ≤ v2)) && (decide (v2 < ((v19.length : Nat) : Int)))) (
   cond (decide ((Int.toNat v2) < v19.length)) (
    cond (decide ((rd (.pair (.int .i64) (.pair (.int .i64) (.int .i64))) v19 (Int.toNat v2)).2.1 < v7)) (
     some (R3.ret ((false, ()), ((), ())))) (
     cond ((decide (0 ≤ v2)) && (decide (v2 < ((v19.length : Nat) : Int)))) (
      cond (decide ((Int.toNat v2) < v19.length)) (
       cond (decide (v8 < (rd (.pair (.int .i64) (.pair (.int .i64) (.int .i64))) v19 (Int.toNat v2)).2.2)) (
        some (R3.ret ((false, ()), ((), ())))) (
        cond ((decide (0 ≤ v2)) && (decide (v2 < ((v19.length : Nat) : Int)))) (
         cond (decide ((Int.toNat v2) < v19.length)) (
          cond ((decide (0 ≤ v2)) && (decide (v2 < ((v19.length : Nat) : Int)))) (
           cond (decide ((Int.toNat v2) < v19.length)) (
            cond (decide ((rd (.pair (.int .i64) (.pair (.int .i64) (.int .i64))) v19 (Int.toNat v2)).2.2 < (rd (.pair (.int .i64) (.pair (.int .i64) (.int .i64))) v19 (Int.toNat v2)).2.1)) (
             some (R3.ret ((false, ()), ((), ())))) (
             cond ((decide (0 ≤ v2)) && (decide (v2 < ((v19.length : Nat) : Int)))) (
              cond (decide ((Int.toNat v2) < v19.length)) (
               cond (decide ((rd (.pair (.int .i64) (.pair (.int .i64) (.int .i64))) v19 (Int.toNat v2)).1 < 0)) (
                some (R3.ret ((false, ()), ((), ())))) (
                cond ((decide (0 ≤ v2)) && (decide (v2 < ((v19.length : Nat) : Int)))) (
                 cond (decide ((Int.toNat v2) < v19.length)) (
                  cond (decide (3 < (rd (.pair (.int .i64) (.pair (.int .i64) (.int .i64))) v19 (Int.toNat v2)).1)) (
                   some (R3.ret ((false, ()), ((), ())))) (
                   some (R3.next (((), (v1, ((IntKind.wrap .i64 (v2 + 1)), ()))), (((v3, (v4, (v5, (v6, (v7, (v8, (v9, (v10, (v11, (v12, (v13, (v14, (v15, (v16, (v17, (v18, ())))))))))))))))), ()), (v19, ())))))) (
                  none)) (
                 none))) (
               none)) (
              none))) (
            none)) (
           none)) (
          none)) (
         none))) (
       none)) (
      none))) (
    none)) (
   none)) (
  some (R3.out ((v1, ()), ((), (v19, ())))))
noncomputable def u6_13 (z : X6_13) : Option (R3 X6_13 Y6_13 Z6_13) := t6_13 z.1.2.1 z.1.2.2.1 z.2.1.1.1 z.2.1.1.2.1 z.2.1.1.2.2.1 z.2.1.1.2.2.2.1 z.2.1.1.2.2.2.2.1 z.2.1.1.2.2.2.2.2.1 z.2.1.1.2.2.2.2.2.2.1 z.2.1.1.2.2.2.2.2.2.2.1 z.2.1.1.2.2.2.2.2.2.2.2.1 z.2.1.1.2.2.2.2.2.2.2.2.2.1 z.2.1.1.2.2.2.2.2.2.2.2.2.2.1 z.2.1.1.2.2.2.2.2.2.2.2.2.2.2.1 z.2.1.1.2.2.2.2.2.2.2.2.2.2.2.2.1 z.2.1.1.2.2.2.2.2.2.2.2.2.2.2.2.2.1 z.2.1.1.2.2.2.2.2.2.2.2.2.2.2.2.2.2.1 z.2.1.1.2.2.2.2.2.2.2.2.2.2.2.2.2.2.2.1 z.2.2.1
noncomputable def f6 (v1 : Int) (v2 : Int) (v3 : Int) (v4 : Int) (v5 : Int) (v6 : Int) (v7 : Int) (v8 : Int) (v9 : Int) (v10 : Int) (v11 : Int) (v12 : Bool) (v13 : Int) (v14 : (List (Int × (Int × Int)))) (v15 : (List (Int × (Int × (Int × (Int × Int)))))) (v16 : (List (Int × (Int × Int)))) (v17 : Int) : Option (Bool × Unit) :=
 (f7).bind fun y18 =>
 ((f8 v1 v2 v3 v4 v5 v6 v7 v8 v9 v10 v11 v12 v13 v14 v15 v16)).bind fun y19 =>
 cond (!y18.1) (
  cond y18.1 (
   cond (!y19.1) (
    some (true, ())) (
    ((f9 v1 v2 v3 v4 v5 v6 v7 v8 v9 v10 v11 v12 v13 v14 v15 v16 v17)).bind fun y20 =>
    some ((decide (((y20.1.length : Nat) : Int) = 0)), ()))) (
   some (false, ()))) (
  cond (!y19.1) (
   cond y18.1 (
    cond (!y19.1) (
     some (true, ())) (
     ((f9 v1 v2 v3 v4 v5 v6 v7 v8 v9 v10 v11 v12 v13 v14 v15 v16 v17)).bind fun y21 =>
     some ((decide (((y21.1.length : Nat) : Int) = 0)), ()))) (
    some (false, ()))) (
   ((f11 v1 v2 v3 v4 v5 v6 v7 v8 v9 v10 v11 v12 v13 v14 v15 v16)).bind fun y22 =>
   cond (!y22.1) (
    cond y18.1 (
     cond (!y19.1) (
      some (true, ())) (
      ((f9 v1 v2 v3 v4 v5 v6 v7 v8 v9 v10 v11 v12 v13 v14 v15 v16 v17)).bind fun y23 =>
      some ((decide (((y23.1.length : Nat) : Int) = 0)), ()))) (
     some (false, ()))) (
    ((f9 v1 v2 v3 v4 v5 v6 v7 v8 v9 v10 v11 v12 v13 v14 v15 v16 v17)).bind fun y24 =>
    ((iter big u6_8 ((v17, ((), (0, (0, ())))), (((v1, (v2, (v3, (v4, (v5, (v6, (v7, (v8, (v9, (v10, (v11, (v12, (v13, (v14, (v15, (v16, ())))))))))))))))), ()), (y24.1, ()))))).bind fun r => match r with
    | .inl y25 =>
      ((iter big u6_13 (((), (y25.1.2.1, (0, ()))), (((y25.2.1.1.1, (y25.2.1.1.2.1, (y25.2.1.1.2.2.1, (y25.2.1.1.2.2.2.1, (y25.2.1.1.2.2.2.2.1, (y25.2.1.1.2.2.2.2.2.1, (y25.2.1.1.2.2.2.2.2.2.1, (y25.2.1.1.2.2.2.2.2.2.2.1, (y25.2.1.1.2.2.2.2.2.2.2.2.1, (y25.2.1.1.2.2.2.2.2.2.2.2.2.1, (y25.2.1.1.2.2.2.2.2.2.2.2.2.2.1, (y25.2.1.1.2.2.2.2.2.2.2.2.2.2.2.1, (y25.2.1.1.2.2.2.2.2.2.2.2.2.2.2.2.1, (y25.2.1.1.2.2.2.2.2.2.2.2.2.2.2.2.2.1, (y25.2.1.1.2.2.2.2.2.2.2.2.2.2.2.2.2.2.1, (y25.2.1.1.2.2.2.2.2.2.2.2.2.2.2.2.2.2.2.1, ())))))))))))))))), ()), (y25.2.2.1, ()))))).bind fun r => match r with
      | .inl y27 =>
        cond (decide (((y27.2.2.1.length : Nat) : Int) = 0)) (
         cond (decide (y27.1.1 = 0)) (
          some (true, ())) (
          some ((decide (((y27.2.2.1.length : Nat) : Int) = (IntKind.wrap .i64 (y27.1.1 + 1)))), ()))) (
         some ((decide (((y27.2.2.1.length : Nat) : Int) = (IntKind.wrap .i64 (y27.1.1 + 1)))), ()))
      | .inr z28 =>
        some (z28.1.1, ())
    | .inr z26 =>
      none)))
end Go.Proofs.Zz
