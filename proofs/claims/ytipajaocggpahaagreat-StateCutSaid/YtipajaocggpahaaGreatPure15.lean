/- What the functions come to, told of data. -/
import Derived.Test.YtipajaocggpahaaGreatLib15
namespace Go.Proofs.Zz
open Go Go.Sy
set_option linter.unusedVariables false
set_option maxRecDepth 100000
noncomputable def f69 (v1 : Int) (v2 : Int) (v3 : Int) : Option (Bool × Unit) :=
 cond (decide (v2 ≤ v1)) (
  some ((decide (v1 ≤ v3)), ())) (
  some (false, ()))
noncomputable def f99 (v1 : Int) (v2 : Int) : Option (Bool × Unit) :=
 cond (decide (0 ≤ v2)) (
  cond (decide (v2 ≤ 32)) (
   cond (decide (0 ≤ v1)) (
    cond (decide (v1 < 4294967296)) (
     cond (!(decide ((IntKind.wrap .i64 (32 - v2)) < 0))) (
      some ((decide ((bitop .and .i64 v1 (IntKind.wrap .i64 ((IntKind.wrap .i64 (1 * ((2 : Int) ^ ((min (Int.toNat (IntKind.wrap .i64 (32 - v2))) 64) : Nat)))) - 1))) = 0)), ())) (
      none)) (
     some (false, ()))) (
    some (false, ()))) (
   some (false, ()))) (
  some (false, ()))
noncomputable def f71 (v1 : Int) (v2 : Int) : Option (Int × Unit) :=
 ((f99 v1 v2)).bind fun y3 =>
 cond (!y3.1) (
  some (0, ())) (
  cond (!(decide ((IntKind.wrap .i64 (32 - v2)) < 0))) (
   some ((IntKind.wrap .i64 (1 * ((2 : Int) ^ ((min (Int.toNat (IntKind.wrap .i64 (32 - v2))) 64) : Nat)))), ())) (
   none))
noncomputable def f100 (v1 : Int) (v2 : Int) (v3 : Int) : Option (Int × Unit) :=
 ((f99 v1 v2)).bind fun y4 =>
 cond (!y4.1) (
  some ((-1), ())) (
  cond (decide (v3 < 0)) (
   some ((-1), ())) (
   cond (decide (4294967296 ≤ v3)) (
    some ((-1), ())) (
    cond (!(decide ((IntKind.wrap .i64 (32 - v2)) < 0))) (
     cond (!(decide ((Int.fdiv (bitop .xor .i64 v3 v1) ((2 : Int) ^ ((min (Int.toNat (IntKind.wrap .i64 (32 - v2))) 64) : Nat))) = 0))) (
      some ((-1), ())) (
      some ((IntKind.wrap .i64 (v3 - v1)), ()))) (
     none))))
noncomputable def f73 (v1 : Int) (v2 : Int) (v3 : Int) (v4 : Int) : Option (Bool × Unit) :=
 ((f99 v1 v2)).bind fun y5 =>
 cond y5.1 (
  ((f99 v3 v4)).bind fun y6 =>
  cond y6.1 (
   ((f100 v1 v2 v3)).bind fun y7 =>
   cond (!(decide (y7.1 = (-1)))) (
    some (true, ())) (
    ((f100 v3 v4 v1)).bind fun y8 =>
    some ((!(decide (y8.1 = (-1)))), ()))) (
   some (false, ()))) (
  some (false, ()))
noncomputable def f77 (v1 : Int) (v2 : Int) (v3 : Int) (v4 : Int) (v5 : Int) (v6 : Int) (v7 : Int) (v8 : Int) : Option (Int × Unit) :=
 some ((IntKind.wrap .i64 ((IntKind.wrap .i64 ((IntKind.wrap .i64 (v6 - v5)) + 1)) - v7)), ())
noncomputable def f78 (v1 : Int) (v2 : Int) (v3 : Int) (v4 : Int) (v5 : Int) (v6 : Int) (v7 : Int) (v8 : Int) : Option (Int × Unit) :=
 ((f71 v1 v2)).bind fun y9 =>
 ((f71 v3 v4)).bind fun y10 =>
 cond (decide ((cond (decide (y10.1 < y9.1)) y10.1 y9.1) = 0)) (
  some (0, ())) (
  cond (!(decide (y10.1 = 0))) (
   some ((IntKind.wrap .i64 ((IntKind.wrap .i64 (Int.tdiv (IntKind.wrap .i64 (y9.1 - 1)) y10.1)) + 1)), ())) (
   none))
noncomputable def f38 (v1 : Int) (v2 : Int) (v3 : Int) (v4 : Int) (v5 : Int) (v6 : Int) (v7 : Int) (v8 : Int) : Option (Bool × Unit) :=
 ((f71 v1 v2)).bind fun y9 =>
 ((f69 y9.1 1 32)).bind fun y10 =>
 cond y10.1 (
  ((f71 v3 v4)).bind fun y11 =>
  ((f69 y11.1 1 4)).bind fun y12 =>
  cond (!y12.1) (
   some (false, ())) (
   ((f73 v1 v2 v3 v4)).bind fun y13 =>
   cond (!(!y13.1)) (
    some (false, ())) (
    ((f69 v5 1 v6)).bind fun y14 =>
    cond y14.1 (
     cond (!(decide (v6 ≤ 65535))) (
      some (false, ())) (
      ((f69 v7 0 (IntKind.wrap .i64 (v6 - v5)))).bind fun y15 =>
      cond y15.1 (
       ((f69 v8 1 65535)).bind fun y16 =>
       cond y16.1 (
        cond (!(decide (v8 = 0))) (
         cond (!(decide ((IntKind.wrap .i64 (Int.tdiv v7 v8)) ≤ 8))) (
          some (false, ())) (
          ((f77 v1 v2 v3 v4 v5 v6 v7 v8)).bind fun y17 =>
          ((f78 v1 v2 v3 v4 v5 v6 v7 v8)).bind fun y18 =>
          cond (!(decide (y18.1 ≤ y17.1))) (
           some (false, ())) (
           some (true, ())))) (
         none)) (
        some (false, ()))) (
       some (false, ())))) (
     some (false, ()))))) (
  some (false, ()))
noncomputable def f40 (v1 : Int) (v2 : Int) (v3 : Int) : Option (Bool × Unit) :=
 cond (decide (v2 ≤ v1)) (
  some ((decide (v1 ≤ v3)), ())) (
  some (false, ()))
noncomputable def f39 (v1 : Int) (v2 : Int) (v3 : Int) (v4 : Bool) : Option (Bool × Unit) :=
 ((f40 v1 1 8)).bind fun y5 =>
 cond y5.1 (
  ((f40 v2 1 1048576)).bind fun y6 =>
  cond y6.1 (
   ((f40 v3 0 1048576)).bind fun y7 =>
   some (y7.1, ())) (
   some (false, ()))) (
  some (false, ()))
noncomputable def f82 (v1 : Int) (v2 : Int) (v3 : Int) (v4 : Int) (v5 : Int) (v6 : Int) : Option (Bool × Unit) :=
 cond (decide (v1 < (IntKind.wrap .i64 (v4 + v5)))) (
  some ((decide (v4 < (IntKind.wrap .i64 (v1 + v2)))), ())) (
  some (false, ()))
noncomputable def f83 (v1 : Int) (v2 : Int) (v3 : Int) (v4 : Int) : Option (Bool × Unit) :=
 cond (decide (0 ≤ v1)) (
  cond (decide (1 ≤ v2)) (
   cond (decide (v1 < v4)) (
    cond (decide (v2 ≤ (IntKind.wrap .i64 (v4 - v1)))) (
     cond (decide (0 ≤ v3)) (
      some ((decide (v3 < 2)), ())) (
      some (false, ()))) (
     some (false, ()))) (
    some (false, ()))) (
   some (false, ()))) (
  some (false, ()))
abbrev X41_4 : Type := ((List (Int × (Int × Int))) × Int × (List (Int × (Int × Int))) × Int × Int × Unit) × (Unit) × (Unit)
abbrev X41_102_2_0 : Type := ((List (Int × (Int × Int))) × Unit × Int × Int × Unit) × ((Int × Int × Int × Unit) × Unit) × (Unit)
abbrev Y41_102_2_0 : Type := (Unit) × ((Int × Int × Int × Unit) × Unit) × (Unit)
abbrev Z41_102_2_0 : Type := (Int × Unit) × ((Int × Int × Int × Unit) × Unit) × (Unit)
noncomputable def t41_102_2_0 (v1 : (List (Int × (Int × Int)))) (v2 : Int) (v3 : Int) (v4 : Int) (v5 : Int) (v6 : Int) : Option (R3 X41_102_2_0 Y41_102_2_0 Z41_102_2_0) :=
 cond (decide (v3 < v2)) (
  cond ((decide (0 ≤ v3)) && (decide (v3 < ((v1.length : Nat) : Int)))) (
   ((f82 v4 v5 v6 (rd (.pair (.int .i64) (.pair (.int .i64) (.int .i64))) v1 (Int.toNat v3)).1 (rd (.pair (.int .i64) (.pair (.int .i64) (.int .i64))) v1 (Int.toNat v3)).2.1 (rd (.pair (.int .i64) (.pair (.int .i64) (.int .i64))) v1 (Int.toNat v3)).2.2)).bind fun y7 =>
   cond y7.1 (
    some (R3.ret ((v3, ()), (((v4, (v5, (v6, ()))), ()), ())))) (
    some (R3.next ((v1, ((), (v2, ((IntKind.wrap .i64 (v3 + 1)), ())))), (((v4, (v5, (v6, ()))), ()), ()))))) (
   none)) (
  some (R3.out ((), (((v4, (v5, (v6, ()))), ()), ()))))
noncomputable def u41_102_2_0 (z : X41_102_2_0) : Option (R3 X41_102_2_0 Y41_102_2_0 Z41_102_2_0) := t41_102_2_0 z.1.1 z.1.2.2.1 z.1.2.2.2.1 z.2.1.1.1 z.2.1.1.2.1 z.2.1.1.2.2.1
abbrev Y41_4 : Type := (Unit) × (Unit) × (Unit)
abbrev Z41_4 : Type := (Bool × Unit) × (Unit) × (Unit)
noncomputable def t41_4 (v1 : (List (Int × (Int × Int)))) (v2 : Int) (v3 : (List (Int × (Int × Int)))) (v4 : Int) (v5 : Int) : Option (R3 X41_4 Y41_4 Z41_4) :=
 cond (decide (v5 < v4)) (
  cond ((decide (0 ≤ v5)) && (decide (v5 < ((v3.length : Nat) : Int)))) (
   ((f83 (rd (.pair (.int .i64) (.pair (.int .i64) (.int .i64))) v3 (Int.toNat v5)).1 (rd (.pair (.int .i64) (.pair (.int .i64) (.int .i64))) v3 (Int.toNat v5)).2.1 (rd (.pair (.int .i64) (.pair (.int .i64) (.int .i64))) v3 (Int.toNat v5)).2.2 v2)).bind fun y6 =>
   cond (!y6.1) (
    some (R3.ret ((false, ()), ((), ())))) (
    cond ((decide (0 ≤ v5)) && (decide (v5 ≤ ((v1.length : Nat) : Int)))) (
     ((iter big u41_102_2_0 (((List.drop 0 (List.take (Int.toNat v5) v1)), ((), ((((List.drop 0 (List.take (Int.toNat v5) v1)).length : Nat) : Int), (0, ())))), ((((rd (.pair (.int .i64) (.pair (.int .i64) (.int .i64))) v3 (Int.toNat v5)).1, ((rd (.pair (.int .i64) (.pair (.int .i64) (.int .i64))) v3 (Int.toNat v5)).2.1, ((rd (.pair (.int .i64) (.pair (.int .i64) (.int .i64))) v3 (Int.toNat v5)).2.2, ()))), ()), ())))).bind fun r => match r with
     | .inl y7 =>
       some (R3.next ((v1, (v2, (v3, (v4, ((IntKind.wrap .i64 (v5 + 1)), ()))))), ((), ())))
     | .inr z8 =>
       cond (decide (0 ≤ z8.1.1)) (
        some (R3.ret ((false, ()), ((), ())))) (
        some (R3.next ((v1, (v2, (v3, (v4, ((IntKind.wrap .i64 (v5 + 1)), ()))))), ((), ()))))) (
     none))) (
   none)) (
  some (R3.out ((), ((), ()))))
noncomputable def u41_4 (z : X41_4) : Option (R3 X41_4 Y41_4 Z41_4) := t41_4 z.1.1 z.1.2.1 z.1.2.2.1 z.1.2.2.2.1 z.1.2.2.2.2.1
noncomputable def f41 (v1 : (List (Int × (Int × Int)))) (v2 : Int) : Option (Bool × Unit) :=
 cond (decide (v2 < 0)) (
  some (false, ())) (
  cond (decide (4 < v2)) (
   some (false, ())) (
   cond (decide (3 < ((v1.length : Nat) : Int))) (
    some (false, ())) (
    ((iter big u41_4 ((v1, (v2, (v1, (((v1.length : Nat) : Int), (0, ()))))), ((), ())))).bind fun r => match r with
    | .inl y3 =>
      some (true, ())
    | .inr z4 =>
      some (z4.1.1, ()))))
noncomputable def f42 (v1 : Int) (v2 : Int) (v3 : Int) (v4 : Int) (v5 : Int) (v6 : Int) (v7 : Int) (v8 : Int) (v9 : Int) (v10 : Int) (v11 : Int) (v12 : Bool) (v13 : Int) (v14 : (List (Int × (Int × Int)))) (v15 : (List (Int × (Int × (Int × (Int × Int)))))) (v16 : (List (Int × (Int × Int)))) : Option (Int × Unit) :=
 ((f71 v3 v4)).bind fun y17 =>
 some (y17.1, ())
noncomputable def f103 (v1 : Int) (v2 : Int) (v3 : Int) (v4 : Int) (v5 : Int) (v6 : Int) (v7 : Int) (v8 : Int) : Option (Int × Unit) :=
 ((f38 v1 v2 v3 v4 v5 v6 v7 v8)).bind fun y9 =>
 cond (!y9.1) (
  some (0, ())) (
  ((f77 v1 v2 v3 v4 v5 v6 v7 v8)).bind fun y10 =>
  ((f78 v1 v2 v3 v4 v5 v6 v7 v8)).bind fun y11 =>
  cond (!(decide (y11.1 = 0))) (
   some ((IntKind.wrap .i64 (Int.tdiv y10.1 y11.1)), ())) (
   none))
noncomputable def f85 (v1 : Int) (v2 : Int) (v3 : Int) (v4 : Int) (v5 : Int) (v6 : Int) (v7 : Int) (v8 : Int) (v9 : Int) : Option ((Int × (Int × Int)) × (Bool × Unit)) :=
 ((f38 v1 v2 v3 v4 v5 v6 v7 v8)).bind fun y10 =>
 cond (!y10.1) (
  some ((0, (0, 0)), (false, ()))) (
  cond (decide (v9 < 0)) (
   some ((0, (0, 0)), (false, ()))) (
   ((f71 v1 v2)).bind fun y11 =>
   cond (decide (y11.1 ≤ v9)) (
    some ((0, (0, 0)), (false, ()))) (
    ((f78 v1 v2 v3 v4 v5 v6 v7 v8)).bind fun y12 =>
    ((f103 v1 v2 v3 v4 v5 v6 v7 v8)).bind fun y13 =>
    cond (!(decide (y12.1 = 0))) (
     cond (!(decide (y12.1 = 0))) (
      some (((IntKind.wrap .i64 (Int.tdiv v9 y12.1)), ((IntKind.wrap .i64 (v5 + (IntKind.wrap .i64 ((Int.tmod v9 y12.1) * y13.1)))), (IntKind.wrap .i64 ((IntKind.wrap .i64 ((IntKind.wrap .i64 (v5 + (IntKind.wrap .i64 ((Int.tmod v9 y12.1) * y13.1)))) + y13.1)) - 1)))), (true, ()))) (
      none)) (
     none))))
noncomputable def f104 (v1 : Int) (v2 : Int) (v3 : Int) (v4 : Int) (v5 : Int) (v6 : Int) (v7 : Int) (v8 : Int) : Option (Int × Unit) :=
 ((f38 v1 v2 v3 v4 v5 v6 v7 v8)).bind fun y9 =>
 cond (!y9.1) (
  some (0, ())) (
  cond (!(decide (v8 = 0))) (
   some ((IntKind.wrap .i64 (Int.tdiv v7 v8)), ())) (
   none))
noncomputable def f86 (v1 : Int) (v2 : Int) (v3 : Int) (v4 : Int) (v5 : Int) (v6 : Int) (v7 : Int) (v8 : Int) (v9 : Int) (v10 : Int) : Option ((Int × (Int × Int)) × (Bool × Unit)) :=
 cond (decide (v9 < 0)) (
  some ((0, (0, 0)), (false, ()))) (
  ((f71 v3 v4)).bind fun y11 =>
  cond (decide (y11.1 ≤ v9)) (
   some ((0, (0, 0)), (false, ()))) (
   cond (decide (v10 < 0)) (
    some ((0, (0, 0)), (false, ()))) (
    ((f104 v1 v2 v3 v4 v5 v6 v7 v8)).bind fun y12 =>
    cond (decide (y12.1 ≤ v10)) (
     some ((0, (0, 0)), (false, ()))) (
     some ((v9, ((IntKind.wrap .i64 ((IntKind.wrap .i64 ((IntKind.wrap .i64 (v6 - v7)) + 1)) + (IntKind.wrap .i64 (v10 * v8)))), (IntKind.wrap .i64 ((IntKind.wrap .i64 ((IntKind.wrap .i64 ((IntKind.wrap .i64 ((IntKind.wrap .i64 (v6 - v7)) + 1)) + (IntKind.wrap .i64 (v10 * v8)))) + v8)) - 1)))), (true, ()))))))
noncomputable def f106 (v1 : Int) (v2 : Int) (v3 : Int) (v4 : Int) : Option (Bool × Unit) :=
 cond (decide (0 ≤ v1)) (
  cond (decide (v1 ≤ 4)) (
   cond (decide (1 ≤ v2)) (
    cond (decide (v2 ≤ 4)) (
     cond (decide (v1 ≤ v4)) (
      some ((decide (v4 < (IntKind.wrap .i64 (v1 + v2)))), ())) (
      some (false, ()))) (
     some (false, ()))) (
    some (false, ()))) (
   some (false, ()))) (
  some (false, ()))
abbrev X87_102_2_0 : Type := ((List (Int × (Int × Int))) × Unit × Int × Int × Unit) × ((Int × Unit) × Unit) × (Unit)
abbrev Y87_102_2_0 : Type := (Unit) × ((Int × Unit) × Unit) × (Unit)
abbrev Z87_102_2_0 : Type := (Int × Unit) × ((Int × Unit) × Unit) × (Unit)
noncomputable def t87_102_2_0 (v1 : (List (Int × (Int × Int)))) (v2 : Int) (v3 : Int) (v4 : Int) : Option (R3 X87_102_2_0 Y87_102_2_0 Z87_102_2_0) :=
 cond (decide (v3 < v2)) (
  cond ((decide (0 ≤ v3)) && (decide (v3 < ((v1.length : Nat) : Int)))) (
   ((f106 (rd (.pair (.int .i64) (.pair (.int .i64) (.int .i64))) v1 (Int.toNat v3)).1 (rd (.pair (.int .i64) (.pair (.int .i64) (.int .i64))) v1 (Int.toNat v3)).2.1 (rd (.pair (.int .i64) (.pair (.int .i64) (.int .i64))) v1 (Int.toNat v3)).2.2 v4)).bind fun y5 =>
   cond y5.1 (
    some (R3.ret ((v3, ()), (((v4, ()), ()), ())))) (
    some (R3.next ((v1, ((), (v2, ((IntKind.wrap .i64 (v3 + 1)), ())))), (((v4, ()), ()), ()))))) (
   none)) (
  some (R3.out ((), (((v4, ()), ()), ()))))
noncomputable def u87_102_2_0 (z : X87_102_2_0) : Option (R3 X87_102_2_0 Y87_102_2_0 Z87_102_2_0) := t87_102_2_0 z.1.1 z.1.2.2.1 z.1.2.2.2.1 z.2.1.1.1
noncomputable def f87 (v1 : (List (Int × (Int × Int)))) (v2 : Int) : Option (Int × Unit) :=
 ((iter big u87_102_2_0 ((v1, ((), (((v1.length : Nat) : Int), (0, ())))), (((v2, ()), ()), ())))).bind fun r => match r with
 | .inl y3 =>
   some ((-1), ())
 | .inr z4 =>
   some (z4.1.1, ())
noncomputable def f88 (v1 : Int) (v2 : Int) (v3 : Int) (v4 : Int) : Option (Bool × Unit) :=
 cond (decide (v3 < v1)) (
  some (true, ())) (
  cond (decide (v1 = v3)) (
   some ((decide (v4 < v2)), ())) (
   some (false, ())))
abbrev X43_3 : Type := (Unit × Unit × (List (Int × (Int × (Int × (Int × Int))))) × Int × Int × Unit) × ((Int × Int × Int × Int × Int × Int × Int × Int × Int × Int × Int × Bool × Int × (List (Int × (Int × Int))) × (List (Int × (Int × (Int × (Int × Int))))) × (List (Int × (Int × Int))) × Unit) × (List (Int × Int)) × Unit) × (Unit)
abbrev Y43_3 : Type := (Unit × Unit) × ((Int × Int × Int × Int × Int × Int × Int × Int × Int × Int × Int × Bool × Int × (List (Int × (Int × Int))) × (List (Int × (Int × (Int × (Int × Int))))) × (List (Int × (Int × Int))) × Unit) × Unit) × (Unit)
abbrev Z43_3 : Type := (Bool × Unit) × (Unit) × (Unit)
noncomputable def t43_3 (v1 : (List (Int × (Int × (Int × (Int × Int)))))) (v2 : Int) (v3 : Int) (v4 : Int) (v5 : Int) (v6 : Int) (v7 : Int) (v8 : Int) (v9 : Int) (v10 : Int) (v11 : Int) (v12 : Int) (v13 : Int) (v14 : Int) (v15 : Bool) (v16 : Int) (v17 : (List (Int × (Int × Int)))) (v18 : (List (Int × (Int × (Int × (Int × Int)))))) (v19 : (List (Int × (Int × Int)))) (v20 : (List (Int × Int))) : Option (R3 X43_3 Y43_3 Z43_3) :=
 cond (decide (v3 < v2)) (
  cond ((decide (0 ≤ v3)) && (decide (v3 < ((v1.length : Nat) : Int)))) (
   ((f85 v4 v5 v6 v7 v8 v9 v10 v11 (rd (.pair (.int .i64) (.pair (.int .i64) (.pair (.int .i64) (.pair (.int .i64) (.int .i64))))) v1 (Int.toNat v3)).1)).bind fun y21 =>
   ((f86 v4 v5 v6 v7 v8 v9 v10 v11 (rd (.pair (.int .i64) (.pair (.int .i64) (.pair (.int .i64) (.pair (.int .i64) (.int .i64))))) v1 (Int.toNat v3)).2.1 (rd (.pair (.int .i64) (.pair (.int .i64) (.pair (.int .i64) (.pair (.int .i64) (.int .i64))))) v1 (Int.toNat v3)).2.2.1)).bind fun y22 =>
   cond (!y21.2.1) (
    some (R3.ret ((false, ()), ((), ())))) (
    cond (!y22.2.1) (
     some (R3.ret ((false, ()), ((), ())))) (
     ((f87 v17 (rd (.pair (.int .i64) (.pair (.int .i64) (.pair (.int .i64) (.pair (.int .i64) (.int .i64))))) v1 (Int.toNat v3)).2.1)).bind fun y23 =>
     cond (decide (y23.1 = (-1))) (
      some (R3.ret ((false, ()), ((), ())))) (
      cond v15 (
       cond (!(decide (y21.1.1 = (rd (.pair (.int .i64) (.pair (.int .i64) (.pair (.int .i64) (.pair (.int .i64) (.int .i64))))) v1 (Int.toNat v3)).2.1))) (
        some (R3.ret ((false, ()), ((), ())))) (
        cond (decide (v12 < (mVal (mPut v20 (rd (.pair (.int .i64) (.pair (.int .i64) (.pair (.int .i64) (.pair (.int .i64) (.int .i64))))) v1 (Int.toNat v3)).1 (IntKind.wrap .i64 ((mVal v20 (rd (.pair (.int .i64) (.pair (.int .i64) (.pair (.int .i64) (.pair (.int .i64) (.int .i64))))) v1 (Int.toNat v3)).1) + 1))) (rd (.pair (.int .i64) (.pair (.int .i64) (.pair (.int .i64) (.pair (.int .i64) (.int .i64))))) v1 (Int.toNat v3)).1))) (
         some (R3.ret ((false, ()), ((), ())))) (
         cond (decide ((rd (.pair (.int .i64) (.pair (.int .i64) (.pair (.int .i64) (.pair (.int .i64) (.int .i64))))) v1 (Int.toNat v3)).2.2.2.1 < 0)) (
          some (R3.ret ((false, ()), ((), ())))) (
          cond (decide ((rd (.pair (.int .i64) (.pair (.int .i64) (.pair (.int .i64) (.pair (.int .i64) (.int .i64))))) v1 (Int.toNat v3)).2.2.2.2 < (rd (.pair (.int .i64) (.pair (.int .i64) (.pair (.int .i64) (.pair (.int .i64) (.int .i64))))) v1 (Int.toNat v3)).2.2.2.1)) (
           some (R3.ret ((false, ()), ((), ())))) (
           cond (decide (v16 < (rd (.pair (.int .i64) (.pair (.int .i64) (.pair (.int .i64) (.pair (.int .i64) (.int .i64))))) v1 (Int.toNat v3)).2.2.2.2)) (
            some (R3.ret ((false, ()), ((), ())))) (
            cond (decide ((rd (.pair (.int .i64) (.pair (.int .i64) (.pair (.int .i64) (.pair (.int .i64) (.int .i64))))) v1 (Int.toNat v3)).2.2.2.2 ≤ (IntKind.wrap .i64 (v16 - v13)))) (
             some (R3.ret ((false, ()), ((), ())))) (
             cond (decide (0 < v3)) (
              cond ((decide (0 ≤ (IntKind.wrap .i64 (v3 - 1)))) && (decide ((IntKind.wrap .i64 (v3 - 1)) < ((v18.length : Nat) : Int)))) (
               cond ((decide (0 ≤ (IntKind.wrap .i64 (v3 - 1)))) && (decide ((IntKind.wrap .i64 (v3 - 1)) < ((v18.length : Nat) : Int)))) (
                ((f88 (rd (.pair (.int .i64) (.pair (.int .i64) (.pair (.int .i64) (.pair (.int .i64) (.int .i64))))) v1 (Int.toNat v3)).2.1 (rd (.pair (.int .i64) (.pair (.int .i64) (.pair (.int .i64) (.pair (.int .i64) (.int .i64))))) v1 (Int.toNat v3)).2.2.1 (rd (.pair (.int .i64) (.pair (.int .i64) (.pair (.int .i64) (.pair (.int .i64) (.int .i64))))) v18 (Int.toNat (IntKind.wrap .i64 (v3 - 1)))).2.1 (rd (.pair (.int .i64) (.pair (.int .i64) (.pair (.int .i64) (.pair (.int .i64) (.int .i64))))) v18 (Int.toNat (IntKind.wrap .i64 (v3 - 1)))).2.2.1)).bind fun y24 =>
                cond (!y24.1) (
                 some (R3.ret ((false, ()), ((), ())))) (
                 some (R3.next (((), ((), (v1, (v2, ((IntKind.wrap .i64 (v3 + 1)), ()))))), (((v4, (v5, (v6, (v7, (v8, (v9, (v10, (v11, (v12, (v13, (v14, (v15, (v16, (v17, (v18, (v19, ())))))))))))))))), ((mPut v20 (rd (.pair (.int .i64) (.pair (.int .i64) (.pair (.int .i64) (.pair (.int .i64) (.int .i64))))) v1 (Int.toNat v3)).1 (IntKind.wrap .i64 ((mVal v20 (rd (.pair (.int .i64) (.pair (.int .i64) (.pair (.int .i64) (.pair (.int .i64) (.int .i64))))) v1 (Int.toNat v3)).1) + 1))), ())), ()))))) (
                none)) (
               none)) (
              some (R3.next (((), ((), (v1, (v2, ((IntKind.wrap .i64 (v3 + 1)), ()))))), (((v4, (v5, (v6, (v7, (v8, (v9, (v10, (v11, (v12, (v13, (v14, (v15, (v16, (v17, (v18, (v19, ())))))))))))))))), ((mPut v20 (rd (.pair (.int .i64) (.pair (.int .i64) (.pair (.int .i64) (.pair (.int .i64) (.int .i64))))) v1 (Int.toNat v3)).1 (IntKind.wrap .i64 ((mVal v20 (rd (.pair (.int .i64) (.pair (.int .i64) (.pair (.int .i64) (.pair (.int .i64) (.int .i64))))) v1 (Int.toNat v3)).1) + 1))), ())), ()))))))))))) (
       cond (decide (v12 < (mVal (mPut v20 (rd (.pair (.int .i64) (.pair (.int .i64) (.pair (.int .i64) (.pair (.int .i64) (.int .i64))))) v1 (Int.toNat v3)).1 (IntKind.wrap .i64 ((mVal v20 (rd (.pair (.int .i64) (.pair (.int .i64) (.pair (.int .i64) (.pair (.int .i64) (.int .i64))))) v1 (Int.toNat v3)).1) + 1))) (rd (.pair (.int .i64) (.pair (.int .i64) (.pair (.int .i64) (.pair (.int .i64) (.int .i64))))) v1 (Int.toNat v3)).1))) (
        some (R3.ret ((false, ()), ((), ())))) (
        cond (decide ((rd (.pair (.int .i64) (.pair (.int .i64) (.pair (.int .i64) (.pair (.int .i64) (.int .i64))))) v1 (Int.toNat v3)).2.2.2.1 < 0)) (
         some (R3.ret ((false, ()), ((), ())))) (
         cond (decide ((rd (.pair (.int .i64) (.pair (.int .i64) (.pair (.int .i64) (.pair (.int .i64) (.int .i64))))) v1 (Int.toNat v3)).2.2.2.2 < (rd (.pair (.int .i64) (.pair (.int .i64) (.pair (.int .i64) (.pair (.int .i64) (.int .i64))))) v1 (Int.toNat v3)).2.2.2.1)) (
          some (R3.ret ((false, ()), ((), ())))) (
          cond (decide (v16 < (rd (.pair (.int .i64) (.pair (.int .i64) (.pair (.int .i64) (.pair (.int .i64) (.int .i64))))) v1 (Int.toNat v3)).2.2.2.2)) (
           some (R3.ret ((false, ()), ((), ())))) (
           cond (decide ((rd (.pair (.int .i64) (.pair (.int .i64) (.pair (.int .i64) (.pair (.int .i64) (.int .i64))))) v1 (Int.toNat v3)).2.2.2.2 ≤ (IntKind.wrap .i64 (v16 - v13)))) (
            some (R3.ret ((false, ()), ((), ())))) (
            cond (decide (0 < v3)) (
             cond ((decide (0 ≤ (IntKind.wrap .i64 (v3 - 1)))) && (decide ((IntKind.wrap .i64 (v3 - 1)) < ((v18.length : Nat) : Int)))) (
              cond ((decide (0 ≤ (IntKind.wrap .i64 (v3 - 1)))) && (decide ((IntKind.wrap .i64 (v3 - 1)) < ((v18.length : Nat) : Int)))) (
               ((f88 (rd (.pair (.int .i64) (.pair (.int .i64) (.pair (.int .i64) (.pair (.int .i64) (.int .i64))))) v1 (Int.toNat v3)).2.1 (rd (.pair (.int .i64) (.pair (.int .i64) (.pair (.int .i64) (.pair (.int .i64) (.int .i64))))) v1 (Int.toNat v3)).2.2.1 (rd (.pair (.int .i64) (.pair (.int .i64) (.pair (.int .i64) (.pair (.int .i64) (.int .i64))))) v18 (Int.toNat (IntKind.wrap .i64 (v3 - 1)))).2.1 (rd (.pair (.int .i64) (.pair (.int .i64) (.pair (.int .i64) (.pair (.int .i64) (.int .i64))))) v18 (Int.toNat (IntKind.wrap .i64 (v3 - 1)))).2.2.1)).bind fun y25 =>
               cond (!y25.1) (
                some (R3.ret ((false, ()), ((), ())))) (
                some (R3.next (((), ((), (v1, (v2, ((IntKind.wrap .i64 (v3 + 1)), ()))))), (((v4, (v5, (v6, (v7, (v8, (v9, (v10, (v11, (v12, (v13, (v14, (v15, (v16, (v17, (v18, (v19, ())))))))))))))))), ((mPut v20 (rd (.pair (.int .i64) (.pair (.int .i64) (.pair (.int .i64) (.pair (.int .i64) (.int .i64))))) v1 (Int.toNat v3)).1 (IntKind.wrap .i64 ((mVal v20 (rd (.pair (.int .i64) (.pair (.int .i64) (.pair (.int .i64) (.pair (.int .i64) (.int .i64))))) v1 (Int.toNat v3)).1) + 1))), ())), ()))))) (
               none)) (
              none)) (
             some (R3.next (((), ((), (v1, (v2, ((IntKind.wrap .i64 (v3 + 1)), ()))))), (((v4, (v5, (v6, (v7, (v8, (v9, (v10, (v11, (v12, (v13, (v14, (v15, (v16, (v17, (v18, (v19, ())))))))))))))))), ((mPut v20 (rd (.pair (.int .i64) (.pair (.int .i64) (.pair (.int .i64) (.pair (.int .i64) (.int .i64))))) v1 (Int.toNat v3)).1 (IntKind.wrap .i64 ((mVal v20 (rd (.pair (.int .i64) (.pair (.int .i64) (.pair (.int .i64) (.pair (.int .i64) (.int .i64))))) v1 (Int.toNat v3)).1) + 1))), ())), ())))))))))))))) (
   none)) (
  some (R3.out (((), ()), (((v4, (v5, (v6, (v7, (v8, (v9, (v10, (v11, (v12, (v13, (v14, (v15, (v16, (v17, (v18, (v19, ())))))))))))))))), ()), ()))))
noncomputable def u43_3 (z : X43_3) : Option (R3 X43_3 Y43_3 Z43_3) := t43_3 z.1.2.2.1 z.1.2.2.2.1 z.1.2.2.2.2.1 z.2.1.1.1 z.2.1.1.2.1 z.2.1.1.2.2.1 z.2.1.1.2.2.2.1 z.2.1.1.2.2.2.2.1 z.2.1.1.2.2.2.2.2.1 z.2.1.1.2.2.2.2.2.2.1 z.2.1.1.2.2.2.2.2.2.2.1 z.2.1.1.2.2.2.2.2.2.2.2.1 z.2.1.1.2.2.2.2.2.2.2.2.2.1 z.2.1.1.2.2.2.2.2.2.2.2.2.2.1 z.2.1.1.2.2.2.2.2.2.2.2.2.2.2.1 z.2.1.1.2.2.2.2.2.2.2.2.2.2.2.2.1 z.2.1.1.2.2.2.2.2.2.2.2.2.2.2.2.2.1 z.2.1.1.2.2.2.2.2.2.2.2.2.2.2.2.2.2.1 z.2.1.1.2.2.2.2.2.2.2.2.2.2.2.2.2.2.2.1 z.2.1.2.1
noncomputable def f43 (v1 : Int) (v2 : Int) (v3 : Int) (v4 : Int) (v5 : Int) (v6 : Int) (v7 : Int) (v8 : Int) (v9 : Int) (v10 : Int) (v11 : Int) (v12 : Bool) (v13 : Int) (v14 : (List (Int × (Int × Int)))) (v15 : (List (Int × (Int × (Int × (Int × Int)))))) (v16 : (List (Int × (Int × Int)))) : Option (Bool × Unit) :=
 ((iter big u43_3 (((), ((), (v15, (((v15.length : Nat) : Int), (0, ()))))), (((v1, (v2, (v3, (v4, (v5, (v6, (v7, (v8, (v9, (v10, (v11, (v12, (v13, (v14, (v15, (v16, ())))))))))))))))), ([], ())), ())))).bind fun r => match r with
 | .inl y17 =>
   some ((decide (((y17.2.1.1.2.2.2.2.2.2.2.2.2.2.2.2.2.2.1.length : Nat) : Int) ≤ 32)), ())
 | .inr z18 =>
   some (z18.1.1, ())
noncomputable def f118 (v1 : Int) (v2 : Int) (v3 : Int) (v4 : Int) (v5 : Int) : Option (((Int × Int) × (Int × (Int × (Int × (Int × Int))))) × Unit) :=
 some (((v2, v3), (v1, (v2, (v3, (v4, v5))))), ())
noncomputable def f108 (v1 : Int) (v2 : Int) (v3 : Int) (v4 : Int) (v5 : Int) : Option ((Int × Int) × Unit) :=
 ((f118 v1 v2 v3 v4 v5)).bind fun y6 =>
 some ((y6.1.1.1, y6.1.1.2), ())
abbrev X89_52_2_0 : Type := ((List (Int × (Int × (Int × (Int × Int))))) × Unit × Int × Int × Unit) × ((Int × Int × Unit) × (Unit × Unit) × Unit) × (Unit)
abbrev Y89_52_2_0 : Type := (Unit) × ((Int × Int × Unit) × (Unit × Unit) × Unit) × (Unit)
abbrev Z89_52_2_0 : Type := (Int × Unit) × ((Int × Int × Unit) × (Unit × Unit) × Unit) × (Unit)
noncomputable def t89_52_2_0 (v1 : (List (Int × (Int × (Int × (Int × Int)))))) (v2 : Int) (v3 : Int) (v4 : Int) (v5 : Int) : Option (R3 X89_52_2_0 Y89_52_2_0 Z89_52_2_0) :=
 cond (decide (v3 < v2)) (
  cond ((decide (0 ≤ v3)) && (decide (v3 < ((v1.length : Nat) : Int)))) (
   ((f108 (rd (.pair (.int .i64) (.pair (.int .i64) (.pair (.int .i64) (.pair (.int .i64) (.int .i64))))) v1 (Int.toNat v3)).1 (rd (.pair (.int .i64) (.pair (.int .i64) (.pair (.int .i64) (.pair (.int .i64) (.int .i64))))) v1 (Int.toNat v3)).2.1 (rd (.pair (.int .i64) (.pair (.int .i64) (.pair (.int .i64) (.pair (.int .i64) (.int .i64))))) v1 (Int.toNat v3)).2.2.1 (rd (.pair (.int .i64) (.pair (.int .i64) (.pair (.int .i64) (.pair (.int .i64) (.int .i64))))) v1 (Int.toNat v3)).2.2.2.1 (rd (.pair (.int .i64) (.pair (.int .i64) (.pair (.int .i64) (.pair (.int .i64) (.int .i64))))) v1 (Int.toNat v3)).2.2.2.2)).bind fun y6 =>
   cond ((decide (y6.1.1 = v4)) && ((decide (y6.1.2 = v5)) && true)) (
    some (R3.ret ((v3, ()), (((v4, (v5, ())), (((), ()), ())), ())))) (
    some (R3.next ((v1, ((), (v2, ((IntKind.wrap .i64 (v3 + 1)), ())))), (((v4, (v5, ())), (((), ()), ())), ()))))) (
   none)) (
  some (R3.out ((), (((v4, (v5, ())), (((), ()), ())), ()))))
noncomputable def u89_52_2_0 (z : X89_52_2_0) : Option (R3 X89_52_2_0 Y89_52_2_0 Z89_52_2_0) := t89_52_2_0 z.1.1 z.1.2.2.1 z.1.2.2.2.1 z.2.1.1.1 z.2.1.1.2.1
noncomputable def f89 (v1 : (List (Int × (Int × (Int × (Int × Int)))))) (v2 : Int) (v3 : Int) : Option (Int × Unit) :=
 ((iter big u89_52_2_0 ((v1, ((), (((v1.length : Nat) : Int), (0, ())))), (((v2, (v3, ())), (((), ()), ())), ())))).bind fun r => match r with
 | .inl y4 =>
   some ((-1), ())
 | .inr z5 =>
   some (z5.1.1, ())
abbrev X44_2 : Type := (Unit × (List (Int × (Int × Int))) × Int × Int × Unit) × ((Int × Int × Int × Int × Int × Int × Int × Int × Int × Int × Int × Bool × Int × (List (Int × (Int × Int))) × (List (Int × (Int × (Int × (Int × Int))))) × (List (Int × (Int × Int))) × Unit) × Unit) × (Unit)
abbrev Y44_2 : Type := (Unit) × (Unit) × (Unit)
abbrev Z44_2 : Type := (Bool × Unit) × (Unit) × (Unit)
noncomputable def t44_2 (v1 : (List (Int × (Int × Int)))) (v2 : Int) (v3 : Int) (v4 : Int) (v5 : Int) (v6 : Int) (v7 : Int) (v8 : Int) (v9 : Int) (v10 : Int) (v11 : Int) (v12 : Int) (v13 : Int) (v14 : Int) (v15 : Bool) (v16 : Int) (v17 : (List (Int × (Int × Int)))) (v18 : (List (Int × (Int × (Int × (Int × Int)))))) (v19 : (List (Int × (Int × Int)))) : Option (R3 X44_2 Y44_2 Z44_2) :=
 cond (decide (v3 < v2)) (
  cond ((decide (0 ≤ v3)) && (decide (v3 < ((v1.length : Nat) : Int)))) (
   ((f86 v4 v5 v6 v7 v8 v9 v10 v11 (rd (.pair (.int .i64) (.pair (.int .i64) (.int .i64))) v1 (Int.toNat v3)).1 (rd (.pair (.int .i64) (.pair (.int .i64) (.int .i64))) v1 (Int.toNat v3)).2.1)).bind fun y20 =>
   cond (!y20.2.1) (
    some (R3.ret ((false, ()), ((), ())))) (
    ((f40 (rd (.pair (.int .i64) (.pair (.int .i64) (.int .i64))) v1 (Int.toNat v3)).2.2 (IntKind.wrap .i64 (v16 + 1)) (IntKind.wrap .i64 (v16 + 1048576)))).bind fun y21 =>
    cond (!y21.1) (
     some (R3.ret ((false, ()), ((), ())))) (
     ((f89 v18 (rd (.pair (.int .i64) (.pair (.int .i64) (.int .i64))) v1 (Int.toNat v3)).1 (rd (.pair (.int .i64) (.pair (.int .i64) (.int .i64))) v1 (Int.toNat v3)).2.1)).bind fun y22 =>
     cond (!(decide (y22.1 = (-1)))) (
      some (R3.ret ((false, ()), ((), ())))) (
      cond (decide (0 < v3)) (
       cond ((decide (0 ≤ (IntKind.wrap .i64 (v3 - 1)))) && (decide ((IntKind.wrap .i64 (v3 - 1)) < ((v19.length : Nat) : Int)))) (
        cond ((decide (0 ≤ (IntKind.wrap .i64 (v3 - 1)))) && (decide ((IntKind.wrap .i64 (v3 - 1)) < ((v19.length : Nat) : Int)))) (
         ((f88 (rd (.pair (.int .i64) (.pair (.int .i64) (.int .i64))) v1 (Int.toNat v3)).1 (rd (.pair (.int .i64) (.pair (.int .i64) (.int .i64))) v1 (Int.toNat v3)).2.1 (rd (.pair (.int .i64) (.pair (.int .i64) (.int .i64))) v19 (Int.toNat (IntKind.wrap .i64 (v3 - 1)))).1 (rd (.pair (.int .i64) (.pair (.int .i64) (.int .i64))) v19 (Int.toNat (IntKind.wrap .i64 (v3 - 1)))).2.1)).bind fun y23 =>
         cond (!y23.1) (
          some (R3.ret ((false, ()), ((), ())))) (
          some (R3.next (((), (v1, (v2, ((IntKind.wrap .i64 (v3 + 1)), ())))), (((v4, (v5, (v6, (v7, (v8, (v9, (v10, (v11, (v12, (v13, (v14, (v15, (v16, (v17, (v18, (v19, ())))))))))))))))), ()), ()))))) (
         none)) (
        none)) (
       some (R3.next (((), (v1, (v2, ((IntKind.wrap .i64 (v3 + 1)), ())))), (((v4, (v5, (v6, (v7, (v8, (v9, (v10, (v11, (v12, (v13, (v14, (v15, (v16, (v17, (v18, (v19, ())))))))))))))))), ()), ())))))))) (
   none)) (
  some (R3.out ((), ((), ()))))
noncomputable def u44_2 (z : X44_2) : Option (R3 X44_2 Y44_2 Z44_2) := t44_2 z.1.2.1 z.1.2.2.1 z.1.2.2.2.1 z.2.1.1.1 z.2.1.1.2.1 z.2.1.1.2.2.1 z.2.1.1.2.2.2.1 z.2.1.1.2.2.2.2.1 z.2.1.1.2.2.2.2.2.1 z.2.1.1.2.2.2.2.2.2.1 z.2.1.1.2.2.2.2.2.2.2.1 z.2.1.1.2.2.2.2.2.2.2.2.1 z.2.1.1.2.2.2.2.2.2.2.2.2.1 z.2.1.1.2.2.2.2.2.2.2.2.2.2.1 z.2.1.1.2.2.2.2.2.2.2.2.2.2.2.1 z.2.1.1.2.2.2.2.2.2.2.2.2.2.2.2.1 z.2.1.1.2.2.2.2.2.2.2.2.2.2.2.2.2.1 z.2.1.1.2.2.2.2.2.2.2.2.2.2.2.2.2.2.1 z.2.1.1.2.2.2.2.2.2.2.2.2.2.2.2.2.2.2.1
noncomputable def f44 (v1 : Int) (v2 : Int) (v3 : Int) (v4 : Int) (v5 : Int) (v6 : Int) (v7 : Int) (v8 : Int) (v9 : Int) (v10 : Int) (v11 : Int) (v12 : Bool) (v13 : Int) (v14 : (List (Int × (Int × Int)))) (v15 : (List (Int × (Int × (Int × (Int × Int)))))) (v16 : (List (Int × (Int × Int)))) : Option (Bool × Unit) :=
 ((iter big u44_2 (((), (v16, (((v16.length : Nat) : Int), (0, ())))), (((v1, (v2, (v3, (v4, (v5, (v6, (v7, (v8, (v9, (v10, (v11, (v12, (v13, (v14, (v15, (v16, ())))))))))))))))), ()), ())))).bind fun r => match r with
 | .inl y17 =>
   some (true, ())
 | .inr z18 =>
   some (z18.1.1, ())
noncomputable def f14 (v1 : Int) (v2 : Int) (v3 : Int) (v4 : Int) (v5 : Int) (v6 : Int) (v7 : Int) (v8 : Int) (v9 : Int) (v10 : Int) (v11 : Int) (v12 : Bool) (v13 : Int) (v14 : (List (Int × (Int × Int)))) (v15 : (List (Int × (Int × (Int × (Int × Int)))))) (v16 : (List (Int × (Int × Int)))) : Option (Bool × Unit) :=
 ((f38 v1 v2 v3 v4 v5 v6 v7 v8)).bind fun y17 =>
 cond y17.1 (
  ((f39 v9 v10 v11 v12)).bind fun y18 =>
  cond y18.1 (
   ((f40 v13 0 1073741824)).bind fun y19 =>
   cond y19.1 (
    ((f42 v1 v2 v3 v4 v5 v6 v7 v8 v9 v10 v11 v12 v13 v14 v15 v16)).bind fun y20 =>
    ((f41 v14 y20.1)).bind fun y21 =>
    cond y21.1 (
     ((f43 v1 v2 v3 v4 v5 v6 v7 v8 v9 v10 v11 v12 v13 v14 v15 v16)).bind fun y22 =>
     cond y22.1 (
      ((f44 v1 v2 v3 v4 v5 v6 v7 v8 v9 v10 v11 v12 v13 v14 v15 v16)).bind fun y23 =>
      some (y23.1, ())) (
      some (false, ()))) (
     some (false, ()))) (
    some (false, ()))) (
   some (false, ()))) (
  some (false, ()))
noncomputable def f20 (v1 : Int) (v2 : Int) (v3 : Int) (v4 : Int) (v5 : Int) (v6 : Int) (v7 : Int) (v8 : Int) (v9 : Int) (v10 : Int) (v11 : Int) (v12 : Bool) (v13 : Int) (v14 : (List (Int × (Int × Int)))) (v15 : (List (Int × (Int × (Int × (Int × Int)))))) (v16 : (List (Int × (Int × Int)))) : Option ((((Int × Int) × ((Int × Int) × (Int × (Int × (Int × Int))))) × ((Int × (Int × (Int × Bool))) × (Int × ((List (Int × (Int × Int))) × ((List (Int × (Int × (Int × (Int × Int))))) × (List (Int × (Int × Int)))))))) × Unit) :=
 ((fClonePool v14)).bind fun y17 =>
 ((fCloneLease v15)).bind fun y18 =>
 ((fCloneHeld v16)).bind fun y19 =>
 some ((((v1, v2), ((v3, v4), (v5, (v6, (v7, v8))))), ((v9, (v10, (v11, v12))), (v13, (y17.1, (y18.1, y19.1))))), ())
abbrev X21_94_2_0 : Type := (Unit × Unit × Int × Int × Unit) × ((Int × Unit) × (List (Int × (Int × Int))) × Unit) × (Unit)
abbrev Y21_94_2_0 : Type := (Unit) × ((Int × Unit) × (List (Int × (Int × Int))) × Unit) × (Unit)
abbrev Z21_94_2_0 : Type := (Int × Unit) × ((Int × Unit) × (List (Int × (Int × Int))) × Unit) × (Unit)
noncomputable def t21_94_2_0 (v1 : Int) (v2 : Int) (v3 : Int) (v4 : (List (Int × (Int × Int)))) : Option (R3 X21_94_2_0 Y21_94_2_0 Z21_94_2_0) :=
 cond (decide (v2 < v1)) (
  cond ((decide (0 ≤ v2)) && (decide (v2 < ((v4.length : Nat) : Int)))) (
   cond (decide ((Int.toNat v2) < v4.length)) (
    cond (decide ((rd (.pair (.int .i64) (.pair (.int .i64) (.int .i64))) v4 (Int.toNat v2)).2.2 ≤ v3)) (
     some (R3.ret ((v2, ()), (((v3, ()), (v4, ())), ())))) (
     some (R3.next (((), ((), (v1, ((IntKind.wrap .i64 (v2 + 1)), ())))), (((v3, ()), (v4, ())), ()))))) (
    none)) (
   none)) (
  some (R3.out ((), (((v3, ()), (v4, ())), ()))))
noncomputable def u21_94_2_0 (z : X21_94_2_0) : Option (R3 X21_94_2_0 Y21_94_2_0 Z21_94_2_0) := t21_94_2_0 z.1.2.2.1 z.1.2.2.2.1 z.2.1.1.1 z.2.1.2.1
abbrev X21_50_5_0 : Type := (Unit × Unit × Int × Int × Unit) × ((Int × Unit) × (List (Int × (Int × Int))) × Unit) × (Unit)
abbrev Y21_50_5_0 : Type := (Unit × Int × Unit) × ((Int × Unit) × (List (Int × (Int × Int))) × Unit) × (Unit)
abbrev Z21_50_5_0 : Type := (Unit) × ((Int × Unit) × (List (Int × (Int × Int))) × Unit) × (Unit)
noncomputable def t21_50_5_0 (v1 : Int) (v2 : Int) (v3 : Int) (v4 : (List (Int × (Int × Int)))) : Option (R3 X21_50_5_0 Y21_50_5_0 Z21_50_5_0) :=
 cond (decide (v2 < ((v4.length : Nat) : Int))) (
  cond ((decide (0 ≤ v2)) && (decide (v2 < ((v4.length : Nat) : Int)))) (
   cond (decide ((Int.toNat v2) < v4.length)) (
    cond (!(decide ((rd (.pair (.int .i64) (.pair (.int .i64) (.int .i64))) v4 (Int.toNat v2)).2.2 ≤ v3))) (
     cond ((decide (0 ≤ v1)) && (decide (v1 < ((v4.length : Nat) : Int)))) (
      cond (decide ((Int.toNat v1) < v4.length)) (
       some (R3.next (((), ((), ((IntKind.wrap .i64 (v1 + 1)), ((IntKind.wrap .i64 (v2 + 1)), ())))), (((v3, ()), ((v4.set (Int.toNat v1) ((rd (.pair (.int .i64) (.pair (.int .i64) (.int .i64))) v4 (Int.toNat v2)).1, ((rd (.pair (.int .i64) (.pair (.int .i64) (.int .i64))) v4 (Int.toNat v2)).2.1, (rd (.pair (.int .i64) (.pair (.int .i64) (.int .i64))) v4 (Int.toNat v2)).2.2))), ())), ())))) (
       none)) (
      none)) (
     some (R3.next (((), ((), (v1, ((IntKind.wrap .i64 (v2 + 1)), ())))), (((v3, ()), (v4, ())), ()))))) (
    none)) (
   none)) (
  some (R3.out (((), (v1, ())), (((v3, ()), (v4, ())), ()))))
noncomputable def u21_50_5_0 (z : X21_50_5_0) : Option (R3 X21_50_5_0 Y21_50_5_0 Z21_50_5_0) := t21_50_5_0 z.1.2.2.1 z.1.2.2.2.1 z.2.1.1.1 z.2.1.2.1
noncomputable def f21 (v1 : (List (Int × (Int × Int)))) (v2 : Int) : Option ((List (Int × (Int × Int))) × Unit) :=
 ((fCloneHeld v1)).bind fun y3 =>
 ((iter big u21_94_2_0 (((), ((), (((y3.1.length : Nat) : Int), (0, ())))), (((v2, ()), (y3.1, ())), ())))).bind fun r => match r with
 | .inl y4 =>
   some (y4.2.1.2.1, ())
 | .inr z5 =>
   cond (decide (z5.1.1 = (-1))) (
    some (z5.2.1.2.1, ())) (
    ((iter big u21_50_5_0 (((), ((), (z5.1.1, ((IntKind.wrap .i64 (z5.1.1 + 1)), ())))), (((z5.2.1.1.1, ()), (z5.2.1.2.1, ())), ())))).bind fun r => match r with
    | .inl y6 =>
      cond (((decide (0 ≤ y6.1.2.1)) && (decide (y6.1.2.1 ≤ (((y6.2.1.2.1.length - 0) : Nat) : Int)))) && (decide ((0 + (((y6.2.1.2.1.length - 0) : Nat) : Int)) ≤ ((y6.2.1.2.1.length : Nat) : Int)))) (
       cond ((decide (0 ≤ y6.1.2.1)) && (decide ((0 + y6.1.2.1) ≤ (((((List.take (0 + (Int.toNat y6.1.2.1)) y6.2.1.2.1) ++ (List.replicate ((0 + (Int.toNat (((y6.2.1.2.1.length - 0) : Nat) : Int))) - (0 + (Int.toNat y6.1.2.1))) (0, (0, 0)))) ++ (List.drop ((0 + (Int.toNat y6.1.2.1)) + ((0 + (Int.toNat (((y6.2.1.2.1.length - 0) : Nat) : Int))) - (0 + (Int.toNat y6.1.2.1)))) y6.2.1.2.1)).length : Nat) : Int)))) (
        some ((List.take (0 + (Int.toNat y6.1.2.1)) (((List.take (0 + (Int.toNat y6.1.2.1)) y6.2.1.2.1) ++ (List.replicate ((0 + (Int.toNat (((y6.2.1.2.1.length - 0) : Nat) : Int))) - (0 + (Int.toNat y6.1.2.1))) (0, (0, 0)))) ++ (List.drop ((0 + (Int.toNat y6.1.2.1)) + ((0 + (Int.toNat (((y6.2.1.2.1.length - 0) : Nat) : Int))) - (0 + (Int.toNat y6.1.2.1)))) y6.2.1.2.1))), ())) (
        none)) (
       none)
    | .inr z7 =>
      none)
abbrev X10_6 : Type := (Int × Unit × Unit × Int × Int × Unit) × ((Int × Int × Int × Int × Int × Int × Int × Int × Int × Int × Int × Bool × Int × Unit × Unit × Unit × Unit) × (Int × Int × Int × Int × Int × Int × Int × Int × Int × Int × Int × Bool × Int × Unit × Unit × Unit × Unit) × Unit) × ((List (Int × (Int × Int))) × (List (Int × (Int × (Int × (Int × Int))))) × (List (Int × (Int × Int))) × (List (Int × (Int × Int))) × (List (Int × (Int × (Int × (Int × Int))))) × (List (Int × (Int × Int))) × Unit)
abbrev Y10_6 : Type := (Int × Unit × Unit × Unit) × ((Int × Int × Int × Int × Int × Int × Int × Int × Int × Int × Int × Bool × Int × Unit × Unit × Unit × Unit) × (Int × Int × Int × Int × Int × Int × Int × Int × Int × Int × Int × Bool × Int × Unit × Unit × Unit × Unit) × Unit) × ((List (Int × (Int × Int))) × (List (Int × (Int × (Int × (Int × Int))))) × (List (Int × (Int × Int))) × (List (Int × (Int × Int))) × (List (Int × (Int × (Int × (Int × Int))))) × (List (Int × (Int × Int))) × Unit)
abbrev Z10_6 : Type := Unit × Unit × Unit
noncomputable def t10_6 (v1 : Int) (v2 : Int) (v3 : Int) (v4 : Int) (v5 : Int) (v6 : Int) (v7 : Int) (v8 : Int) (v9 : Int) (v10 : Int) (v11 : Int) (v12 : Int) (v13 : Int) (v14 : Int) (v15 : Bool) (v16 : Int) (v17 : Int) (v18 : Int) (v19 : Int) (v20 : Int) (v21 : Int) (v22 : Int) (v23 : Int) (v24 : Int) (v25 : Int) (v26 : Int) (v27 : Int) (v28 : Bool) (v29 : Int) (v30 : (List (Int × (Int × Int)))) (v31 : (List (Int × (Int × (Int × (Int × Int)))))) (v32 : (List (Int × (Int × Int)))) (v33 : (List (Int × (Int × Int)))) (v34 : (List (Int × (Int × (Int × (Int × Int)))))) (v35 : (List (Int × (Int × Int)))) : Option (R3 X10_6 Y10_6 Z10_6) :=
 cond (decide (v3 < v2)) (
  cond ((decide (0 ≤ v3)) && (decide (v3 < ((v34.length : Nat) : Int)))) (
   cond (decide ((Int.toNat v3) < v34.length)) (
    some (R3.next ((v1, ((), ((), (v2, ((IntKind.wrap .i64 (v3 + 1)), ()))))), (((v4, (v5, (v6, (v7, (v8, (v9, (v10, (v11, (v12, (v13, (v14, (v15, (v16, ((), ((), ((), ())))))))))))))))), ((v17, (v18, (v19, (v20, (v21, (v22, (v23, (v24, (v25, (v26, (v27, (v28, (v29, ((), ((), ((), ())))))))))))))))), ())), (v30, (v31, (v32, (v33, ((v34.set (Int.toNat v3) ((rd (.pair (.int .i64) (.pair (.int .i64) (.pair (.int .i64) (.pair (.int .i64) (.int .i64))))) v34 (Int.toNat v3)).1, ((rd (.pair (.int .i64) (.pair (.int .i64) (.pair (.int .i64) (.pair (.int .i64) (.int .i64))))) v34 (Int.toNat v3)).2.1, ((rd (.pair (.int .i64) (.pair (.int .i64) (.pair (.int .i64) (.pair (.int .i64) (.int .i64))))) v34 (Int.toNat v3)).2.2.1, ((rd (.pair (.int .i64) (.pair (.int .i64) (.pair (.int .i64) (.pair (.int .i64) (.int .i64))))) v34 (Int.toNat v3)).2.2.2.1, v1))))), (v35, ())))))))))) (
    none)) (
   none)) (
  some (R3.out ((v1, ((), ((), ()))), (((v4, (v5, (v6, (v7, (v8, (v9, (v10, (v11, (v12, (v13, (v14, (v15, (v16, ((), ((), ((), ())))))))))))))))), ((v17, (v18, (v19, (v20, (v21, (v22, (v23, (v24, (v25, (v26, (v27, (v28, (v29, ((), ((), ((), ())))))))))))))))), ())), (v30, (v31, (v32, (v33, (v34, (v35, ()))))))))))
noncomputable def u10_6 (z : X10_6) : Option (R3 X10_6 Y10_6 Z10_6) := t10_6 z.1.1 z.1.2.2.2.1 z.1.2.2.2.2.1 z.2.1.1.1 z.2.1.1.2.1 z.2.1.1.2.2.1 z.2.1.1.2.2.2.1 z.2.1.1.2.2.2.2.1 z.2.1.1.2.2.2.2.2.1 z.2.1.1.2.2.2.2.2.2.1 z.2.1.1.2.2.2.2.2.2.2.1 z.2.1.1.2.2.2.2.2.2.2.2.1 z.2.1.1.2.2.2.2.2.2.2.2.2.1 z.2.1.1.2.2.2.2.2.2.2.2.2.2.1 z.2.1.1.2.2.2.2.2.2.2.2.2.2.2.1 z.2.1.1.2.2.2.2.2.2.2.2.2.2.2.2.1 z.2.1.2.1.1 z.2.1.2.1.2.1 z.2.1.2.1.2.2.1 z.2.1.2.1.2.2.2.1 z.2.1.2.1.2.2.2.2.1 z.2.1.2.1.2.2.2.2.2.1 z.2.1.2.1.2.2.2.2.2.2.1 z.2.1.2.1.2.2.2.2.2.2.2.1 z.2.1.2.1.2.2.2.2.2.2.2.2.1 z.2.1.2.1.2.2.2.2.2.2.2.2.2.1 z.2.1.2.1.2.2.2.2.2.2.2.2.2.2.1 z.2.1.2.1.2.2.2.2.2.2.2.2.2.2.2.1 z.2.1.2.1.2.2.2.2.2.2.2.2.2.2.2.2.1 z.2.2.1 z.2.2.2.1 z.2.2.2.2.1 z.2.2.2.2.2.1 z.2.2.2.2.2.2.1 z.2.2.2.2.2.2.2.1
noncomputable def f10 (v1 : Int) (v2 : Int) (v3 : Int) (v4 : Int) (v5 : Int) (v6 : Int) (v7 : Int) (v8 : Int) (v9 : Int) (v10 : Int) (v11 : Int) (v12 : Bool) (v13 : Int) (v14 : (List (Int × (Int × Int)))) (v15 : (List (Int × (Int × (Int × (Int × Int)))))) (v16 : (List (Int × (Int × Int)))) (v17 : Int) : Option ((((Int × Int) × ((Int × Int) × (Int × (Int × (Int × Int))))) × ((Int × (Int × (Int × Bool))) × (Int × ((List (Int × (Int × Int))) × ((List (Int × (Int × (Int × (Int × Int))))) × (List (Int × (Int × Int)))))))) × (Bool × Unit)) :=
 ((fClonePool v14)).bind fun y18 =>
 ((fCloneLease v15)).bind fun y19 =>
 ((fCloneHeld v16)).bind fun y20 =>
 ((f14 v1 v2 v3 v4 v5 v6 v7 v8 v9 v10 v11 v12 v13 v14 v15 v16)).bind fun y21 =>
 cond (!y21.1) (
  some ((((v1, v2), ((v3, v4), (v5, (v6, (v7, v8))))), ((v9, (v10, (v11, v12))), (v13, (y18.1, (y19.1, y20.1))))), (false, ()))) (
  cond (decide (v17 < v13)) (
   some ((((v1, v2), ((v3, v4), (v5, (v6, (v7, v8))))), ((v9, (v10, (v11, v12))), (v13, (y18.1, (y19.1, y20.1))))), (false, ()))) (
   cond (decide (1073741824 < v17)) (
    some ((((v1, v2), ((v3, v4), (v5, (v6, (v7, v8))))), ((v9, (v10, (v11, v12))), (v13, (y18.1, (y19.1, y20.1))))), (false, ()))) (
    ((iter big u10_6 ((v17, ((), ((), (((y19.1.length : Nat) : Int), (0, ()))))), (((0, (0, (0, (0, (0, (0, (0, (0, (0, (0, (0, (false, (0, ((), ((), ((), ())))))))))))))))), ((v1, (v2, (v3, (v4, (v5, (v6, (v7, (v8, (v9, (v10, (v11, (v12, (v17, ((), ((), ((), ())))))))))))))))), ())), ([], ([], ([], (y18.1, (y19.1, (y20.1, ())))))))))).bind fun r => match r with
    | .inl y22 =>
      ((f21 y22.2.2.2.2.2.2.2.1 y22.1.1)).bind fun y24 =>
      some ((((y22.2.1.2.1.1, y22.2.1.2.1.2.1), ((y22.2.1.2.1.2.2.1, y22.2.1.2.1.2.2.2.1), (y22.2.1.2.1.2.2.2.2.1, (y22.2.1.2.1.2.2.2.2.2.1, (y22.2.1.2.1.2.2.2.2.2.2.1, y22.2.1.2.1.2.2.2.2.2.2.2.1))))), ((y22.2.1.2.1.2.2.2.2.2.2.2.2.1, (y22.2.1.2.1.2.2.2.2.2.2.2.2.2.1, (y22.2.1.2.1.2.2.2.2.2.2.2.2.2.2.1, y22.2.1.2.1.2.2.2.2.2.2.2.2.2.2.2.1))), (y22.2.1.2.1.2.2.2.2.2.2.2.2.2.2.2.2.1, (y22.2.2.2.2.2.1, (y22.2.2.2.2.2.2.1, y24.1))))), (true, ()))
    | .inr z23 =>
      none)))
noncomputable def f24 (v1 : Int) (v2 : Int) : Option (Int × Unit) :=
 some ((IntKind.wrap .i64 ((IntKind.wrap .i64 (v1 * 8)) + v2)), ())
noncomputable def f53 (v1 : Int) : Option (Bool × Unit) :=
 cond (decide (0 ≤ v1)) (
  some ((decide (v1 ≤ 1099511627776)), ())) (
  some (false, ()))
abbrev X54_1 : Type := (Int × Unit) × (Unit) × ((List Int) × Unit)
abbrev Y54_1 : Type := (Int × Unit) × (Unit) × ((List Int) × Unit)
abbrev Z54_1 : Type := Unit × Unit × Unit
noncomputable def t54_1 (v1 : Int) (v2 : (List Int)) : Option (R3 X54_1 Y54_1 Z54_1) :=
 cond (decide (128 ≤ v1)) (
  cond ((decide (((v2.length + 1) * 1) ≤ 140737488355328)) && (decide ((v2.length + 1) ≤ 9223372036854775807))) (
   some (R3.next (((Int.fdiv v1 128), ()), ((), ((v2 ++ [(bitop .or .u8 (IntKind.wrap .u8 v1) 128)]), ()))))) (
   none)) (
  some (R3.out ((v1, ()), ((), (v2, ())))))
noncomputable def u54_1 (z : X54_1) : Option (R3 X54_1 Y54_1 Z54_1) := t54_1 z.1.1 z.2.2.1
noncomputable def f54 (v1 : (List Int)) (v2 : Int) : Option ((List Int) × Unit) :=
 ((iter big u54_1 ((v2, ()), ((), (v1, ()))))).bind fun r => match r with
 | .inl y3 =>
   cond ((decide (((y3.2.2.1.length + 1) * 1) ≤ 140737488355328)) && (decide ((y3.2.2.1.length + 1) ≤ 9223372036854775807))) (
    some ((y3.2.2.1 ++ [(IntKind.wrap .u8 y3.1.1)]), ())) (
    none)
 | .inr z4 =>
   none
noncomputable def g54 (v1 : (List Int)) (v2 : Int) : Option (List (Ty.T (.int .u8))) := (f54 v1 v2).map (·.1)
abbrev X25_5 : Type := ((List Int) × Int × Int × Unit) × (Unit) × ((List Int) × Unit)
abbrev Y25_5 : Type := (Unit) × (Unit) × ((List Int) × Unit)
abbrev Z25_5 : Type := (Bool × Unit) × (Unit) × ((List Int) × Unit)
noncomputable def t25_5 (v1 : (List Int)) (v2 : Int) (v3 : Int) (v4 : (List Int)) : Option (R3 X25_5 Y25_5 Z25_5) :=
 cond (decide (v3 < v2)) (
  cond ((decide (0 ≤ v3)) && (decide (v3 < ((v1.length : Nat) : Int)))) (
   ((f53 (rd (.int .i64) v1 (Int.toNat v3)))).bind fun y5 =>
   cond (!y5.1) (
    some (R3.ret ((false, ()), ((), ([], ()))))) (
    ((g54 v4 (rd (.int .i64) v1 (Int.toNat v3)))).bind fun y6 =>
    some (R3.next ((v1, (v2, ((IntKind.wrap .i64 (v3 + 1)), ()))), ((), (y6, ())))))) (
   none)) (
  some (R3.out ((), ((), (v4, ())))))
noncomputable def u25_5 (z : X25_5) : Option (R3 X25_5 Y25_5 Z25_5) := t25_5 z.1.1 z.1.2.1 z.1.2.2.1 z.2.2.1
noncomputable def f25 (v1 : (List Int)) : Option ((List Int) × (Bool × Unit)) :=
 cond (decide (400 < ((v1.length : Nat) : Int))) (
  some ([], (false, ()))) (
  ((iter big u25_5 ((v1, (((v1.length : Nat) : Int), (0, ()))), ((), ([], ()))))).bind fun r => match r with
  | .inl y2 =>
    some (y2.2.2.1, (true, ()))
  | .inr z3 =>
    some (z3.2.2.1, (z3.1.1, ())))
abbrev X26_6 : Type := ((List (Int × (Int × Int))) × Int × Int × Unit) × (Unit) × ((List Int) × Unit)
abbrev Y26_6 : Type := (Unit) × (Unit) × ((List Int) × Unit)
abbrev Z26_6 : Type := Unit × Unit × Unit
noncomputable def t26_6 (v1 : (List (Int × (Int × Int)))) (v2 : Int) (v3 : Int) (v4 : (List Int)) : Option (R3 X26_6 Y26_6 Z26_6) :=
 cond (decide (v3 < v2)) (
  cond ((decide (0 ≤ v3)) && (decide (v3 < ((v1.length : Nat) : Int)))) (
   cond ((decide (((v4.length + 3) * 8) ≤ 140737488355328)) && (decide ((v4.length + 3) ≤ 9223372036854775807))) (
    some (R3.next ((v1, (v2, ((IntKind.wrap .i64 (v3 + 1)), ()))), ((), ((v4 ++ [(rd (.pair (.int .i64) (.pair (.int .i64) (.int .i64))) v1 (Int.toNat v3)).1, (rd (.pair (.int .i64) (.pair (.int .i64) (.int .i64))) v1 (Int.toNat v3)).2.1, (rd (.pair (.int .i64) (.pair (.int .i64) (.int .i64))) v1 (Int.toNat v3)).2.2]), ()))))) (
    none)) (
   none)) (
  some (R3.out ((), ((), (v4, ())))))
noncomputable def u26_6 (z : X26_6) : Option (R3 X26_6 Y26_6 Z26_6) := t26_6 z.1.1 z.1.2.1 z.1.2.2.1 z.2.2.1
noncomputable def f26 (v1 : Int) (v2 : Int) (v3 : Int) (v4 : Int) (v5 : Int) (v6 : Int) (v7 : Int) (v8 : Int) (v9 : Int) (v10 : Int) (v11 : Int) (v12 : Bool) (v13 : Int) (v14 : (List (Int × (Int × Int)))) (v15 : (List (Int × (Int × (Int × (Int × Int)))))) (v16 : (List (Int × (Int × Int)))) : Option ((List Int) × Unit) :=
 cond v12 (
  cond (decide (11 < 15)) (
   cond (decide (11 < 15)) (
    ((iter big u26_6 ((v14, (((v14.length : Nat) : Int), (0, ()))), ((), ([v1, v2, v3, v4, v5, v6, v7, v8, v9, v10, v11, 1, v13, ((v15.length : Nat) : Int), ((v16.length : Nat) : Int)], ()))))).bind fun r => match r with
    | .inl y17 =>
      some (y17.2.2.1, ())
    | .inr z18 =>
      none) (
    none)) (
   none)) (
  ((iter big u26_6 ((v14, (((v14.length : Nat) : Int), (0, ()))), ((), ([v1, v2, v3, v4, v5, v6, v7, v8, v9, v10, v11, 0, v13, ((v15.length : Nat) : Int), ((v16.length : Nat) : Int)], ()))))).bind fun r => match r with
  | .inl y19 =>
    some (y19.2.2.1, ())
  | .inr z20 =>
    none)
noncomputable def f55 (v1 : Int) (v2 : Int) : Option (Int × Unit) :=
 cond (decide (v1 < 0)) (
  some ((-1), ())) (
  cond (decide (400 < v1)) (
   some ((-1), ())) (
   cond (decide (v2 < 0)) (
    some ((-1), ())) (
    cond (decide (32 < v2)) (
     some ((-1), ())) (
     some ((IntKind.wrap .i64 (Int.tdiv (IntKind.wrap .i64 ((IntKind.wrap .i64 ((IntKind.wrap .i64 (v1 * v2)) + 8)) - 1)) 8)), ())))))
abbrev X27_95_2_0 : Type := ((List Int) × Unit × Int × Int × Unit) × ((Int × Unit) × Unit) × (Unit)
abbrev Y27_95_2_0 : Type := (Unit) × ((Int × Unit) × Unit) × (Unit)
abbrev Z27_95_2_0 : Type := (Int × Unit) × ((Int × Unit) × Unit) × (Unit)
noncomputable def t27_95_2_0 (v1 : (List Int)) (v2 : Int) (v3 : Int) (v4 : Int) : Option (R3 X27_95_2_0 Y27_95_2_0 Z27_95_2_0) :=
 cond (decide (v3 < v2)) (
  cond ((decide (0 ≤ v3)) && (decide (v3 < ((v1.length : Nat) : Int)))) (
   cond (decide ((rd (.int .i64) v1 (Int.toNat v3)) < 0)) (
    some (R3.ret ((v3, ()), (((v4, ()), ()), ())))) (
    cond (!(decide (v4 < 0))) (
     cond (!(decide ((Int.fdiv (rd (.int .i64) v1 (Int.toNat v3)) ((2 : Int) ^ ((min (Int.toNat v4) 64) : Nat))) = 0))) (
      some (R3.ret ((v3, ()), (((v4, ()), ()), ())))) (
      some (R3.next ((v1, ((), (v2, ((IntKind.wrap .i64 (v3 + 1)), ())))), (((v4, ()), ()), ()))))) (
     none))) (
   none)) (
  some (R3.out ((), (((v4, ()), ()), ()))))
noncomputable def u27_95_2_0 (z : X27_95_2_0) : Option (R3 X27_95_2_0 Y27_95_2_0 Z27_95_2_0) := t27_95_2_0 z.1.1 z.1.2.2.1 z.1.2.2.2.1 z.2.1.1.1
abbrev X27_9 : Type := (Unit × Int × Int × (List Int) × Int × Int × Unit) × ((Int × Unit) × Unit) × ((List Int) × Unit)
abbrev X27_13 : Type := (Unit × Int × Int × (List Int) × Int × Int × Unit) × ((Int × Unit) × Unit) × ((List Int) × Unit)
abbrev Y27_13 : Type := (Unit × Int × Int × (List Int) × Int × Int × Unit) × ((Int × Unit) × Unit) × ((List Int) × Unit)
abbrev Z27_13 : Type := Unit × Unit × Unit
noncomputable def t27_13 (v1 : Int) (v2 : Int) (v3 : (List Int)) (v4 : Int) (v5 : Int) (v6 : Int) (v7 : (List Int)) : Option (R3 X27_13 Y27_13 Z27_13) :=
 cond (decide (8 ≤ v2)) (
  cond ((decide (((v7.length + 1) * 1) ≤ 140737488355328)) && (decide ((v7.length + 1) ≤ 9223372036854775807))) (
   some (R3.next (((), ((Int.fdiv v1 256), ((IntKind.wrap .i64 (v2 - 8)), (v3, (v4, (v5, ())))))), (((v6, ()), ()), ((v7 ++ [(IntKind.wrap .u8 v1)]), ()))))) (
   none)) (
  some (R3.out (((), (v1, (v2, (v3, (v4, (v5, ())))))), (((v6, ()), ()), (v7, ())))))
noncomputable def u27_13 (z : X27_13) : Option (R3 X27_13 Y27_13 Z27_13) := t27_13 z.1.2.1 z.1.2.2.1 z.1.2.2.2.1 z.1.2.2.2.2.1 z.1.2.2.2.2.2.1 z.2.1.1.1 z.2.2.1
abbrev Y27_9 : Type := (Int × Int × Unit) × (Unit) × ((List Int) × Unit)
abbrev Z27_9 : Type := Unit × Unit × Unit
noncomputable def t27_9 (v1 : Int) (v2 : Int) (v3 : (List Int)) (v4 : Int) (v5 : Int) (v6 : Int) (v7 : (List Int)) : Option (R3 X27_9 Y27_9 Z27_9) :=
 cond (decide (v5 < v4)) (
  cond ((decide (0 ≤ v5)) && (decide (v5 < ((v3.length : Nat) : Int)))) (
   cond (!(decide (v2 < 0))) (
    ((iter big u27_13 (((), ((bitop .or .u64 v1 (IntKind.wrap .u64 ((IntKind.wrap .u64 (rd (.int .i64) v3 (Int.toNat v5))) * ((2 : Int) ^ ((min (Int.toNat v2) 64) : Nat))))), ((IntKind.wrap .i64 (v2 + v6)), (v3, (v4, (v5, ())))))), (((v6, ()), ()), (v7, ()))))).bind fun r => match r with
    | .inl y8 =>
      some (R3.next (((), (y8.1.2.1, (y8.1.2.2.1, (y8.1.2.2.2.1, (y8.1.2.2.2.2.1, ((IntKind.wrap .i64 (y8.1.2.2.2.2.2.1 + 1)), ())))))), (((y8.2.1.1.1, ()), ()), (y8.2.2.1, ()))))
    | .inr z9 =>
      some (R3.ret ((), ((), ())))) (
    none)) (
   none)) (
  some (R3.out ((v1, (v2, ())), ((), (v7, ())))))
noncomputable def u27_9 (z : X27_9) : Option (R3 X27_9 Y27_9 Z27_9) := t27_9 z.1.2.1 z.1.2.2.1 z.1.2.2.2.1 z.1.2.2.2.2.1 z.1.2.2.2.2.2.1 z.2.1.1.1 z.2.2.1
noncomputable def f27 (v1 : (List Int)) (v2 : Int) : Option ((List Int) × (Bool × Unit)) :=
 ((f55 ((v1.length : Nat) : Int) v2)).bind fun y3 =>
 cond (decide (y3.1 = (-1))) (
  some ([], (false, ()))) (
  ((iter big u27_95_2_0 ((v1, ((), (((v1.length : Nat) : Int), (0, ())))), (((v2, ()), ()), ())))).bind fun r => match r with
  | .inl y4 =>
    cond ((decide (0 ≤ y3.1)) && (decide ((y3.1 * 1) ≤ 140737488355328))) (
     ((iter big u27_9 (((), (0, (0, (v1, (((v1.length : Nat) : Int), (0, ())))))), (((y4.2.1.1.1, ()), ()), ([], ()))))).bind fun r => match r with
     | .inl y6 =>
       cond (decide (0 < y6.1.2.1)) (
        cond ((decide (((y6.2.2.1.length + 1) * 1) ≤ 140737488355328)) && (decide ((y6.2.2.1.length + 1) ≤ 9223372036854775807))) (
         some ((y6.2.2.1 ++ [(IntKind.wrap .u8 y6.1.1)]), (true, ()))) (
         none)) (
        some (y6.2.2.1, (true, ())))
     | .inr z7 =>
       none) (
     none)
  | .inr z5 =>
    cond (decide (0 ≤ z5.1.1)) (
     some ([], (false, ()))) (
     cond ((decide (0 ≤ y3.1)) && (decide ((y3.1 * 1) ≤ 140737488355328))) (
      ((iter big u27_9 (((), (0, (0, (v1, (((v1.length : Nat) : Int), (0, ())))))), (((z5.2.1.1.1, ()), ()), ([], ()))))).bind fun r => match r with
      | .inl y8 =>
        cond (decide (0 < y8.1.2.1)) (
         cond ((decide (((y8.2.2.1.length + 1) * 1) ≤ 140737488355328)) && (decide ((y8.2.2.1.length + 1) ≤ 9223372036854775807))) (
          some ((y8.2.2.1 ++ [(IntKind.wrap .u8 y8.1.1)]), (true, ()))) (
          none)) (
         some (y8.2.2.1, (true, ())))
      | .inr z9 =>
        none) (
      none)))
noncomputable def f59 (v1 : Int) : Option (Int × Unit) :=
 cond (decide (v1 < (-274877906944))) (
  some ((-1), ())) (
  cond (decide (274877906944 < v1)) (
   some ((-1), ())) (
   cond (decide (v1 < 0)) (
    some ((bitop .xor .i64 (-1) (IntKind.wrap .i64 (v1 * 2))), ())) (
    some ((IntKind.wrap .i64 (v1 * 2)), ()))))
noncomputable def f60 (v1 : Int) : Option (Bool × Unit) :=
 cond (decide (0 ≤ v1)) (
  some ((decide (v1 < 274877906944)), ())) (
  some (false, ()))
abbrev X28_5 : Type := ((List Int) × Unit × Int × Int × Unit) × ((Int × Unit) × Unit) × ((List Int) × Unit)
abbrev Y28_5 : Type := (Unit) × (Unit) × ((List Int) × Unit)
abbrev Z28_5 : Type := (Bool × Unit) × (Unit) × ((List Int) × Unit)
noncomputable def t28_5 (v1 : (List Int)) (v2 : Int) (v3 : Int) (v4 : Int) (v5 : (List Int)) : Option (R3 X28_5 Y28_5 Z28_5) :=
 cond (decide (v3 < v2)) (
  cond ((decide (0 ≤ v3)) && (decide (v3 < ((v1.length : Nat) : Int)))) (
   ((f60 (rd (.int .i64) v1 (Int.toNat v3)))).bind fun y6 =>
   cond (!y6.1) (
    some (R3.ret ((false, ()), ((), ([], ()))))) (
    cond ((decide (0 ≤ v3)) && (decide (v3 < ((v1.length : Nat) : Int)))) (
     ((f59 (IntKind.wrap .i64 ((rd (.int .i64) v1 (Int.toNat v3)) - v4)))).bind fun y7 =>
     cond ((decide (0 ≤ v3)) && (decide (v3 < ((v5.length : Nat) : Int)))) (
      cond (decide ((Int.toNat v3) < v5.length)) (
       some (R3.next ((v1, ((), (v2, ((IntKind.wrap .i64 (v3 + 1)), ())))), ((((rd (.int .i64) v1 (Int.toNat v3)), ()), ()), ((v5.set (Int.toNat v3) y7.1), ()))))) (
       none)) (
      none)) (
     none))) (
   none)) (
  some (R3.out ((), ((), (v5, ())))))
noncomputable def u28_5 (z : X28_5) : Option (R3 X28_5 Y28_5 Z28_5) := t28_5 z.1.1 z.1.2.2.1 z.1.2.2.2.1 z.2.1.1.1 z.2.2.1
noncomputable def f28 (v1 : (List Int)) : Option ((List Int) × (Bool × Unit)) :=
 cond (((decide (0 ≤ ((v1.length : Nat) : Int))) && (decide (((v1.length : Nat) : Int) ≤ ((v1.length : Nat) : Int)))) && (decide ((((v1.length : Nat) : Int) * 8) ≤ 140737488355328))) (
  ((iter big u28_5 ((v1, ((), (((v1.length : Nat) : Int), (0, ())))), (((0, ()), ()), ((List.replicate (Int.toNat ((v1.length : Nat) : Int)) 0), ()))))).bind fun r => match r with
  | .inl y2 =>
    ((f25 y2.2.2.1)).bind fun y4 =>
    some (y4.1, (y4.2.1, ()))
  | .inr z3 =>
    some (z3.2.2.1, (z3.1.1, ()))) (
  none)
abbrev X29_54_1_0 : Type := (Int × Unit) × (Unit) × ((List Int) × Unit)
abbrev Y29_54_1_0 : Type := (Int × Unit) × (Unit) × ((List Int) × Unit)
abbrev Z29_54_1_0 : Type := Unit × Unit × Unit
noncomputable def t29_54_1_0 (v1 : Int) (v2 : (List Int)) : Option (R3 X29_54_1_0 Y29_54_1_0 Z29_54_1_0) :=
 cond (decide (128 ≤ v1)) (
  cond ((decide (((v2.length + 1) * 1) ≤ 140737488355328)) && (decide ((v2.length + 1) ≤ 9223372036854775807))) (
   some (R3.next (((Int.fdiv v1 128), ()), ((), ((v2 ++ [(bitop .or .u8 (IntKind.wrap .u8 v1) 128)]), ()))))) (
   none)) (
  some (R3.out ((v1, ()), ((), (v2, ())))))
noncomputable def u29_54_1_0 (z : X29_54_1_0) : Option (R3 X29_54_1_0 Y29_54_1_0 Z29_54_1_0) := t29_54_1_0 z.1.1 z.2.2.1
noncomputable def f29 (v1 : Int) : Option ((List Int) × Unit) :=
 ((f53 v1)).bind fun y2 =>
 cond (!y2.1) (
  some ([], ())) (
  ((iter big u29_54_1_0 ((v1, ()), ((), ([], ()))))).bind fun r => match r with
  | .inl y3 =>
    cond ((decide (((y3.2.2.1.length + 1) * 1) ≤ 140737488355328)) && (decide ((y3.2.2.1.length + 1) ≤ 9223372036854775807))) (
     some ((y3.2.2.1 ++ [(IntKind.wrap .u8 y3.1.1)]), ())) (
     none)
  | .inr z4 =>
    none)
abbrev X11_52_2_0 : Type := ((List (Int × (Int × (Int × (Int × Int))))) × Unit × Int × Int × Unit) × ((Int × Int × Int × Int × Int × Int × Int × Int × Int × Int × Int × Bool × Int × (List (Int × (Int × Int))) × (List (Int × (Int × (Int × (Int × Int))))) × (List (Int × (Int × Int))) × Unit) × Unit) × (Unit)
abbrev Y11_52_2_0 : Type := (Unit) × ((Int × Int × Int × Int × Int × Int × Int × Int × Int × Int × Int × Bool × Int × (List (Int × (Int × Int))) × (List (Int × (Int × (Int × (Int × Int))))) × (List (Int × (Int × Int))) × Unit) × Unit) × (Unit)
abbrev Z11_52_2_0 : Type := (Int × Unit) × ((Int × Int × Int × Int × Int × Int × Int × Int × Int × Int × Int × Bool × Int × (List (Int × (Int × Int))) × (List (Int × (Int × (Int × (Int × Int))))) × (List (Int × (Int × Int))) × Unit) × Unit) × (Unit)
noncomputable def t11_52_2_0 (v1 : (List (Int × (Int × (Int × (Int × Int)))))) (v2 : Int) (v3 : Int) (v4 : Int) (v5 : Int) (v6 : Int) (v7 : Int) (v8 : Int) (v9 : Int) (v10 : Int) (v11 : Int) (v12 : Int) (v13 : Int) (v14 : Int) (v15 : Bool) (v16 : Int) (v17 : (List (Int × (Int × Int)))) (v18 : (List (Int × (Int × (Int × (Int × Int)))))) (v19 : (List (Int × (Int × Int)))) : Option (R3 X11_52_2_0 Y11_52_2_0 Z11_52_2_0) :=
 cond (decide (v3 < v2)) (
  cond ((decide (0 ≤ v3)) && (decide (v3 < ((v1.length : Nat) : Int)))) (
   cond (!(decide ((rd (.pair (.int .i64) (.pair (.int .i64) (.pair (.int .i64) (.pair (.int .i64) (.int .i64))))) v1 (Int.toNat v3)).2.2.2.2 = v16))) (
    some (R3.ret ((v3, ()), (((v4, (v5, (v6, (v7, (v8, (v9, (v10, (v11, (v12, (v13, (v14, (v15, (v16, (v17, (v18, (v19, ())))))))))))))))), ()), ())))) (
    some (R3.next ((v1, ((), (v2, ((IntKind.wrap .i64 (v3 + 1)), ())))), (((v4, (v5, (v6, (v7, (v8, (v9, (v10, (v11, (v12, (v13, (v14, (v15, (v16, (v17, (v18, (v19, ())))))))))))))))), ()), ()))))) (
   none)) (
  some (R3.out ((), (((v4, (v5, (v6, (v7, (v8, (v9, (v10, (v11, (v12, (v13, (v14, (v15, (v16, (v17, (v18, (v19, ())))))))))))))))), ()), ()))))
noncomputable def u11_52_2_0 (z : X11_52_2_0) : Option (R3 X11_52_2_0 Y11_52_2_0 Z11_52_2_0) := t11_52_2_0 z.1.1 z.1.2.2.1 z.1.2.2.2.1 z.2.1.1.1 z.2.1.1.2.1 z.2.1.1.2.2.1 z.2.1.1.2.2.2.1 z.2.1.1.2.2.2.2.1 z.2.1.1.2.2.2.2.2.1 z.2.1.1.2.2.2.2.2.2.1 z.2.1.1.2.2.2.2.2.2.2.1 z.2.1.1.2.2.2.2.2.2.2.2.1 z.2.1.1.2.2.2.2.2.2.2.2.2.1 z.2.1.1.2.2.2.2.2.2.2.2.2.2.1 z.2.1.1.2.2.2.2.2.2.2.2.2.2.2.1 z.2.1.1.2.2.2.2.2.2.2.2.2.2.2.2.1 z.2.1.1.2.2.2.2.2.2.2.2.2.2.2.2.2.1 z.2.1.1.2.2.2.2.2.2.2.2.2.2.2.2.2.2.1 z.2.1.1.2.2.2.2.2.2.2.2.2.2.2.2.2.2.2.1
abbrev X11_6 : Type := (Unit × (List (Int × (Int × (Int × (Int × Int))))) × Int × Int × Unit) × ((Int × Int × Int × Int × Int × Int × Int × Int × Int × Int × Int × Bool × Int × (List (Int × (Int × Int))) × (List (Int × (Int × (Int × (Int × Int))))) × (List (Int × (Int × Int))) × Unit) × Unit) × ((List Int) × (List Int) × (List Int) × (List Int) × Unit)
abbrev Y11_6 : Type := (Unit × Unit) × ((Int × Int × Int × Int × Int × Int × Int × Int × Int × Int × Int × Bool × Int × (List (Int × (Int × Int))) × (List (Int × (Int × (Int × (Int × Int))))) × (List (Int × (Int × Int))) × Unit) × Unit) × ((List Int) × (List Int) × (List Int) × (List Int) × Unit)
abbrev Z11_6 : Type := Unit × Unit × Unit
noncomputable def t11_6 (v1 : (List (Int × (Int × (Int × (Int × Int)))))) (v2 : Int) (v3 : Int) (v4 : Int) (v5 : Int) (v6 : Int) (v7 : Int) (v8 : Int) (v9 : Int) (v10 : Int) (v11 : Int) (v12 : Int) (v13 : Int) (v14 : Int) (v15 : Bool) (v16 : Int) (v17 : (List (Int × (Int × Int)))) (v18 : (List (Int × (Int × (Int × (Int × Int)))))) (v19 : (List (Int × (Int × Int)))) (v20 : (List Int)) (v21 : (List Int)) (v22 : (List Int)) (v23 : (List Int)) : Option (R3 X11_6 Y11_6 Z11_6) :=
 cond (decide (v3 < v2)) (
  cond ((decide (0 ≤ v3)) && (decide (v3 < ((v1.length : Nat) : Int)))) (
   ((f24 (rd (.pair (.int .i64) (.pair (.int .i64) (.pair (.int .i64) (.pair (.int .i64) (.int .i64))))) v1 (Int.toNat v3)).2.1 (rd (.pair (.int .i64) (.pair (.int .i64) (.pair (.int .i64) (.pair (.int .i64) (.int .i64))))) v1 (Int.toNat v3)).2.2.1)).bind fun y24 =>
   cond ((decide (((v20.length + 1) * 8) ≤ 140737488355328)) && (decide ((v20.length + 1) ≤ 9223372036854775807))) (
    cond ((decide (((v21.length + 1) * 8) ≤ 140737488355328)) && (decide ((v21.length + 1) ≤ 9223372036854775807))) (
     some (R3.next (((), (v1, (v2, ((IntKind.wrap .i64 (v3 + 1)), ())))), (((v4, (v5, (v6, (v7, (v8, (v9, (v10, (v11, (v12, (v13, (v14, (v15, (v16, (v17, (v18, (v19, ())))))))))))))))), ()), ((v20 ++ [(bitop .or .i64 (IntKind.wrap .i64 ((rd (.pair (.int .i64) (.pair (.int .i64) (.pair (.int .i64) (.pair (.int .i64) (.int .i64))))) v1 (Int.toNat v3)).1 * 32)) y24.1)]), ((v21 ++ [(rd (.pair (.int .i64) (.pair (.int .i64) (.pair (.int .i64) (.pair (.int .i64) (.int .i64))))) v1 (Int.toNat v3)).2.2.2.1]), (v22, (v23, ())))))))) (
     none)) (
    none)) (
   none)) (
  some (R3.out (((), ()), (((v4, (v5, (v6, (v7, (v8, (v9, (v10, (v11, (v12, (v13, (v14, (v15, (v16, (v17, (v18, (v19, ())))))))))))))))), ()), (v20, (v21, (v22, (v23, ()))))))))
noncomputable def u11_6 (z : X11_6) : Option (R3 X11_6 Y11_6 Z11_6) := t11_6 z.1.2.1 z.1.2.2.1 z.1.2.2.2.1 z.2.1.1.1 z.2.1.1.2.1 z.2.1.1.2.2.1 z.2.1.1.2.2.2.1 z.2.1.1.2.2.2.2.1 z.2.1.1.2.2.2.2.2.1 z.2.1.1.2.2.2.2.2.2.1 z.2.1.1.2.2.2.2.2.2.2.1 z.2.1.1.2.2.2.2.2.2.2.2.1 z.2.1.1.2.2.2.2.2.2.2.2.2.1 z.2.1.1.2.2.2.2.2.2.2.2.2.2.1 z.2.1.1.2.2.2.2.2.2.2.2.2.2.2.1 z.2.1.1.2.2.2.2.2.2.2.2.2.2.2.2.1 z.2.1.1.2.2.2.2.2.2.2.2.2.2.2.2.2.1 z.2.1.1.2.2.2.2.2.2.2.2.2.2.2.2.2.2.1 z.2.1.1.2.2.2.2.2.2.2.2.2.2.2.2.2.2.2.1 z.2.2.1 z.2.2.2.1 z.2.2.2.2.1 z.2.2.2.2.2.1
abbrev X11_11 : Type := (Unit × (List (Int × (Int × Int))) × Int × Int × Unit) × ((Int × Int × Int × Int × Int × Int × Int × Int × Int × Int × Int × Bool × Int × (List (Int × (Int × Int))) × (List (Int × (Int × (Int × (Int × Int))))) × (List (Int × (Int × Int))) × Unit) × Unit) × ((List Int) × (List Int) × (List Int) × (List Int) × Unit)
abbrev Y11_11 : Type := (Unit × Unit) × ((Int × Int × Int × Int × Int × Int × Int × Int × Int × Int × Int × Bool × Int × (List (Int × (Int × Int))) × (List (Int × (Int × (Int × (Int × Int))))) × (List (Int × (Int × Int))) × Unit) × Unit) × ((List Int) × (List Int) × (List Int) × (List Int) × Unit)
abbrev Z11_11 : Type := Unit × Unit × Unit
noncomputable def t11_11 (v1 : (List (Int × (Int × Int)))) (v2 : Int) (v3 : Int) (v4 : Int) (v5 : Int) (v6 : Int) (v7 : Int) (v8 : Int) (v9 : Int) (v10 : Int) (v11 : Int) (v12 : Int) (v13 : Int) (v14 : Int) (v15 : Bool) (v16 : Int) (v17 : (List (Int × (Int × Int)))) (v18 : (List (Int × (Int × (Int × (Int × Int)))))) (v19 : (List (Int × (Int × Int)))) (v20 : (List Int)) (v21 : (List Int)) (v22 : (List Int)) (v23 : (List Int)) : Option (R3 X11_11 Y11_11 Z11_11) :=
 cond (decide (v3 < v2)) (
  cond ((decide (0 ≤ v3)) && (decide (v3 < ((v1.length : Nat) : Int)))) (
   ((f24 (rd (.pair (.int .i64) (.pair (.int .i64) (.int .i64))) v1 (Int.toNat v3)).1 (rd (.pair (.int .i64) (.pair (.int .i64) (.int .i64))) v1 (Int.toNat v3)).2.1)).bind fun y24 =>
   cond ((decide (((v22.length + 1) * 8) ≤ 140737488355328)) && (decide ((v22.length + 1) ≤ 9223372036854775807))) (
    cond ((decide (((v23.length + 1) * 8) ≤ 140737488355328)) && (decide ((v23.length + 1) ≤ 9223372036854775807))) (
     some (R3.next (((), (v1, (v2, ((IntKind.wrap .i64 (v3 + 1)), ())))), (((v4, (v5, (v6, (v7, (v8, (v9, (v10, (v11, (v12, (v13, (v14, (v15, (v16, (v17, (v18, (v19, ())))))))))))))))), ()), (v20, (v21, ((v22 ++ [y24.1]), ((v23 ++ [(rd (.pair (.int .i64) (.pair (.int .i64) (.int .i64))) v1 (Int.toNat v3)).2.2]), ())))))))) (
     none)) (
    none)) (
   none)) (
  some (R3.out (((), ()), (((v4, (v5, (v6, (v7, (v8, (v9, (v10, (v11, (v12, (v13, (v14, (v15, (v16, (v17, (v18, (v19, ())))))))))))))))), ()), (v20, (v21, (v22, (v23, ()))))))))
noncomputable def u11_11 (z : X11_11) : Option (R3 X11_11 Y11_11 Z11_11) := t11_11 z.1.2.1 z.1.2.2.1 z.1.2.2.2.1 z.2.1.1.1 z.2.1.1.2.1 z.2.1.1.2.2.1 z.2.1.1.2.2.2.1 z.2.1.1.2.2.2.2.1 z.2.1.1.2.2.2.2.2.1 z.2.1.1.2.2.2.2.2.2.1 z.2.1.1.2.2.2.2.2.2.2.1 z.2.1.1.2.2.2.2.2.2.2.2.1 z.2.1.1.2.2.2.2.2.2.2.2.2.1 z.2.1.1.2.2.2.2.2.2.2.2.2.2.1 z.2.1.1.2.2.2.2.2.2.2.2.2.2.2.1 z.2.1.1.2.2.2.2.2.2.2.2.2.2.2.2.1 z.2.1.1.2.2.2.2.2.2.2.2.2.2.2.2.2.1 z.2.1.1.2.2.2.2.2.2.2.2.2.2.2.2.2.2.1 z.2.1.1.2.2.2.2.2.2.2.2.2.2.2.2.2.2.2.1 z.2.2.1 z.2.2.2.1 z.2.2.2.2.1 z.2.2.2.2.2.1
noncomputable def f11 (v1 : Int) (v2 : Int) (v3 : Int) (v4 : Int) (v5 : Int) (v6 : Int) (v7 : Int) (v8 : Int) (v9 : Int) (v10 : Int) (v11 : Int) (v12 : Bool) (v13 : Int) (v14 : (List (Int × (Int × Int)))) (v15 : (List (Int × (Int × (Int × (Int × Int)))))) (v16 : (List (Int × (Int × Int)))) : Option ((List Int) × (Bool × Unit)) :=
 ((f14 v1 v2 v3 v4 v5 v6 v7 v8 v9 v10 v11 v12 v13 v14 v15 v16)).bind fun y17 =>
 cond (!y17.1) (
  some ([], (false, ()))) (
  ((iter big u11_52_2_0 ((v15, ((), (((v15.length : Nat) : Int), (0, ())))), (((v1, (v2, (v3, (v4, (v5, (v6, (v7, (v8, (v9, (v10, (v11, (v12, (v13, (v14, (v15, (v16, ())))))))))))))))), ()), ())))).bind fun r => match r with
  | .inl y18 =>
    ((iter big u11_6 (((), (y18.2.1.1.2.2.2.2.2.2.2.2.2.2.2.2.2.2.1, (((y18.2.1.1.2.2.2.2.2.2.2.2.2.2.2.2.2.2.1.length : Nat) : Int), (0, ())))), (((y18.2.1.1.1, (y18.2.1.1.2.1, (y18.2.1.1.2.2.1, (y18.2.1.1.2.2.2.1, (y18.2.1.1.2.2.2.2.1, (y18.2.1.1.2.2.2.2.2.1, (y18.2.1.1.2.2.2.2.2.2.1, (y18.2.1.1.2.2.2.2.2.2.2.1, (y18.2.1.1.2.2.2.2.2.2.2.2.1, (y18.2.1.1.2.2.2.2.2.2.2.2.2.1, (y18.2.1.1.2.2.2.2.2.2.2.2.2.2.1, (y18.2.1.1.2.2.2.2.2.2.2.2.2.2.2.1, (y18.2.1.1.2.2.2.2.2.2.2.2.2.2.2.2.1, (y18.2.1.1.2.2.2.2.2.2.2.2.2.2.2.2.2.1, (y18.2.1.1.2.2.2.2.2.2.2.2.2.2.2.2.2.2.1, (y18.2.1.1.2.2.2.2.2.2.2.2.2.2.2.2.2.2.2.1, ())))))))))))))))), ()), ([], ([], ([], ([], ())))))))).bind fun r => match r with
    | .inl y20 =>
      ((iter big u11_11 (((), (y20.2.1.1.2.2.2.2.2.2.2.2.2.2.2.2.2.2.2.1, (((y20.2.1.1.2.2.2.2.2.2.2.2.2.2.2.2.2.2.2.1.length : Nat) : Int), (0, ())))), (((y20.2.1.1.1, (y20.2.1.1.2.1, (y20.2.1.1.2.2.1, (y20.2.1.1.2.2.2.1, (y20.2.1.1.2.2.2.2.1, (y20.2.1.1.2.2.2.2.2.1, (y20.2.1.1.2.2.2.2.2.2.1, (y20.2.1.1.2.2.2.2.2.2.2.1, (y20.2.1.1.2.2.2.2.2.2.2.2.1, (y20.2.1.1.2.2.2.2.2.2.2.2.2.1, (y20.2.1.1.2.2.2.2.2.2.2.2.2.2.1, (y20.2.1.1.2.2.2.2.2.2.2.2.2.2.2.1, (y20.2.1.1.2.2.2.2.2.2.2.2.2.2.2.2.1, (y20.2.1.1.2.2.2.2.2.2.2.2.2.2.2.2.2.1, (y20.2.1.1.2.2.2.2.2.2.2.2.2.2.2.2.2.2.1, (y20.2.1.1.2.2.2.2.2.2.2.2.2.2.2.2.2.2.2.1, ())))))))))))))))), ()), (y20.2.2.1, (y20.2.2.2.1, (y20.2.2.2.2.1, (y20.2.2.2.2.2.1, ())))))))).bind fun r => match r with
      | .inl y22 =>
        ((f26 y22.2.1.1.1 y22.2.1.1.2.1 y22.2.1.1.2.2.1 y22.2.1.1.2.2.2.1 y22.2.1.1.2.2.2.2.1 y22.2.1.1.2.2.2.2.2.1 y22.2.1.1.2.2.2.2.2.2.1 y22.2.1.1.2.2.2.2.2.2.2.1 y22.2.1.1.2.2.2.2.2.2.2.2.1 y22.2.1.1.2.2.2.2.2.2.2.2.2.1 y22.2.1.1.2.2.2.2.2.2.2.2.2.2.1 y22.2.1.1.2.2.2.2.2.2.2.2.2.2.2.1 y22.2.1.1.2.2.2.2.2.2.2.2.2.2.2.2.1 y22.2.1.1.2.2.2.2.2.2.2.2.2.2.2.2.2.1 y22.2.1.1.2.2.2.2.2.2.2.2.2.2.2.2.2.2.1 y22.2.1.1.2.2.2.2.2.2.2.2.2.2.2.2.2.2.2.1)).bind fun y24 =>
        ((f25 y24.1)).bind fun y25 =>
        ((f27 y22.2.2.1 10)).bind fun y26 =>
        ((f28 y22.2.2.2.1)).bind fun y27 =>
        ((f27 y22.2.2.2.2.1 5)).bind fun y28 =>
        ((f28 y22.2.2.2.2.2.1)).bind fun y29 =>
        ((f29 ((y25.1.length : Nat) : Int))).bind fun y30 =>
        cond ((decide ((y30.1.length * 1) ≤ 140737488355328)) && (decide (y30.1.length ≤ 9223372036854775807))) (
         cond ((decide (((y30.1.length + y25.1.length) * 1) ≤ 140737488355328)) && (decide ((y30.1.length + y25.1.length) ≤ 9223372036854775807))) (
          ((f29 ((y26.1.length : Nat) : Int))).bind fun y31 =>
          cond ((decide ((((y30.1 ++ y25.1).length + y31.1.length) * 1) ≤ 140737488355328)) && (decide (((y30.1 ++ y25.1).length + y31.1.length) ≤ 9223372036854775807))) (
           cond ((decide (((((y30.1 ++ y25.1) ++ y31.1).length + y26.1.length) * 1) ≤ 140737488355328)) && (decide ((((y30.1 ++ y25.1) ++ y31.1).length + y26.1.length) ≤ 9223372036854775807))) (
            ((f29 ((y27.1.length : Nat) : Int))).bind fun y32 =>
            cond ((decide ((((((y30.1 ++ y25.1) ++ y31.1) ++ y26.1).length + y32.1.length) * 1) ≤ 140737488355328)) && (decide (((((y30.1 ++ y25.1) ++ y31.1) ++ y26.1).length + y32.1.length) ≤ 9223372036854775807))) (
             cond ((decide (((((((y30.1 ++ y25.1) ++ y31.1) ++ y26.1) ++ y32.1).length + y27.1.length) * 1) ≤ 140737488355328)) && (decide ((((((y30.1 ++ y25.1) ++ y31.1) ++ y26.1) ++ y32.1).length + y27.1.length) ≤ 9223372036854775807))) (
              ((f29 ((y28.1.length : Nat) : Int))).bind fun y33 =>
              cond ((decide ((((((((y30.1 ++ y25.1) ++ y31.1) ++ y26.1) ++ y32.1) ++ y27.1).length + y33.1.length) * 1) ≤ 140737488355328)) && (decide (((((((y30.1 ++ y25.1) ++ y31.1) ++ y26.1) ++ y32.1) ++ y27.1).length + y33.1.length) ≤ 9223372036854775807))) (
               cond ((decide (((((((((y30.1 ++ y25.1) ++ y31.1) ++ y26.1) ++ y32.1) ++ y27.1) ++ y33.1).length + y28.1.length) * 1) ≤ 140737488355328)) && (decide ((((((((y30.1 ++ y25.1) ++ y31.1) ++ y26.1) ++ y32.1) ++ y27.1) ++ y33.1).length + y28.1.length) ≤ 9223372036854775807))) (
                ((f29 ((y29.1.length : Nat) : Int))).bind fun y34 =>
                cond ((decide ((((((((((y30.1 ++ y25.1) ++ y31.1) ++ y26.1) ++ y32.1) ++ y27.1) ++ y33.1) ++ y28.1).length + y34.1.length) * 1) ≤ 140737488355328)) && (decide (((((((((y30.1 ++ y25.1) ++ y31.1) ++ y26.1) ++ y32.1) ++ y27.1) ++ y33.1) ++ y28.1).length + y34.1.length) ≤ 9223372036854775807))) (
                 cond ((decide (((((((((((y30.1 ++ y25.1) ++ y31.1) ++ y26.1) ++ y32.1) ++ y27.1) ++ y33.1) ++ y28.1) ++ y34.1).length + y29.1.length) * 1) ≤ 140737488355328)) && (decide ((((((((((y30.1 ++ y25.1) ++ y31.1) ++ y26.1) ++ y32.1) ++ y27.1) ++ y33.1) ++ y28.1) ++ y34.1).length + y29.1.length) ≤ 9223372036854775807))) (
                  some ((((((((((y30.1 ++ y25.1) ++ y31.1) ++ y26.1) ++ y32.1) ++ y27.1) ++ y33.1) ++ y28.1) ++ y34.1) ++ y29.1), (true, ()))) (
                  none)) (
                 none)) (
                none)) (
               none)) (
              none)) (
             none)) (
            none)) (
           none)) (
          none)) (
         none)
      | .inr z23 =>
        none
    | .inr z21 =>
      none
  | .inr z19 =>
    cond (decide (0 ≤ z19.1.1)) (
     some ([], (false, ()))) (
     ((iter big u11_6 (((), (z19.2.1.1.2.2.2.2.2.2.2.2.2.2.2.2.2.2.1, (((z19.2.1.1.2.2.2.2.2.2.2.2.2.2.2.2.2.2.1.length : Nat) : Int), (0, ())))), (((z19.2.1.1.1, (z19.2.1.1.2.1, (z19.2.1.1.2.2.1, (z19.2.1.1.2.2.2.1, (z19.2.1.1.2.2.2.2.1, (z19.2.1.1.2.2.2.2.2.1, (z19.2.1.1.2.2.2.2.2.2.1, (z19.2.1.1.2.2.2.2.2.2.2.1, (z19.2.1.1.2.2.2.2.2.2.2.2.1, (z19.2.1.1.2.2.2.2.2.2.2.2.2.1, (z19.2.1.1.2.2.2.2.2.2.2.2.2.2.1, (z19.2.1.1.2.2.2.2.2.2.2.2.2.2.2.1, (z19.2.1.1.2.2.2.2.2.2.2.2.2.2.2.2.1, (z19.2.1.1.2.2.2.2.2.2.2.2.2.2.2.2.2.1, (z19.2.1.1.2.2.2.2.2.2.2.2.2.2.2.2.2.2.1, (z19.2.1.1.2.2.2.2.2.2.2.2.2.2.2.2.2.2.2.1, ())))))))))))))))), ()), ([], ([], ([], ([], ())))))))).bind fun r => match r with
     | .inl y35 =>
       ((iter big u11_11 (((), (y35.2.1.1.2.2.2.2.2.2.2.2.2.2.2.2.2.2.2.1, (((y35.2.1.1.2.2.2.2.2.2.2.2.2.2.2.2.2.2.2.1.length : Nat) : Int), (0, ())))), (((y35.2.1.1.1, (y35.2.1.1.2.1, (y35.2.1.1.2.2.1, (y35.2.1.1.2.2.2.1, (y35.2.1.1.2.2.2.2.1, (y35.2.1.1.2.2.2.2.2.1, (y35.2.1.1.2.2.2.2.2.2.1, (y35.2.1.1.2.2.2.2.2.2.2.1, (y35.2.1.1.2.2.2.2.2.2.2.2.1, (y35.2.1.1.2.2.2.2.2.2.2.2.2.1, (y35.2.1.1.2.2.2.2.2.2.2.2.2.2.1, (y35.2.1.1.2.2.2.2.2.2.2.2.2.2.2.1, (y35.2.1.1.2.2.2.2.2.2.2.2.2.2.2.2.1, (y35.2.1.1.2.2.2.2.2.2.2.2.2.2.2.2.2.1, (y35.2.1.1.2.2.2.2.2.2.2.2.2.2.2.2.2.2.1, (y35.2.1.1.2.2.2.2.2.2.2.2.2.2.2.2.2.2.2.1, ())))))))))))))))), ()), (y35.2.2.1, (y35.2.2.2.1, (y35.2.2.2.2.1, (y35.2.2.2.2.2.1, ())))))))).bind fun r => match r with
       | .inl y37 =>
         ((f26 y37.2.1.1.1 y37.2.1.1.2.1 y37.2.1.1.2.2.1 y37.2.1.1.2.2.2.1 y37.2.1.1.2.2.2.2.1 y37.2.1.1.2.2.2.2.2.1 y37.2.1.1.2.2.2.2.2.2.1 y37.2.1.1.2.2.2.2.2.2.2.1 y37.2.1.1.2.2.2.2.2.2.2.2.1 y37.2.1.1.2.2.2.2.2.2.2.2.2.1 y37.2.1.1.2.2.2.2.2.2.2.2.2.2.1 y37.2.1.1.2.2.2.2.2.2.2.2.2.2.2.1 y37.2.1.1.2.2.2.2.2.2.2.2.2.2.2.2.1 y37.2.1.1.2.2.2.2.2.2.2.2.2.2.2.2.2.1 y37.2.1.1.2.2.2.2.2.2.2.2.2.2.2.2.2.2.1 y37.2.1.1.2.2.2.2.2.2.2.2.2.2.2.2.2.2.2.1)).bind fun y39 =>
         ((f25 y39.1)).bind fun y40 =>
         ((f27 y37.2.2.1 10)).bind fun y41 =>
         ((f28 y37.2.2.2.1)).bind fun y42 =>
         ((f27 y37.2.2.2.2.1 5)).bind fun y43 =>
         ((f28 y37.2.2.2.2.2.1)).bind fun y44 =>
         ((f29 ((y40.1.length : Nat) : Int))).bind fun y45 =>
         cond ((decide ((y45.1.length * 1) ≤ 140737488355328)) && (decide (y45.1.length ≤ 9223372036854775807))) (
          cond ((decide (((y45.1.length + y40.1.length) * 1) ≤ 140737488355328)) && (decide ((y45.1.length + y40.1.length) ≤ 9223372036854775807))) (
           ((f29 ((y41.1.length : Nat) : Int))).bind fun y46 =>
           cond ((decide ((((y45.1 ++ y40.1).length + y46.1.length) * 1) ≤ 140737488355328)) && (decide (((y45.1 ++ y40.1).length + y46.1.length) ≤ 9223372036854775807))) (
            cond ((decide (((((y45.1 ++ y40.1) ++ y46.1).length + y41.1.length) * 1) ≤ 140737488355328)) && (decide ((((y45.1 ++ y40.1) ++ y46.1).length + y41.1.length) ≤ 9223372036854775807))) (
             ((f29 ((y42.1.length : Nat) : Int))).bind fun y47 =>
             cond ((decide ((((((y45.1 ++ y40.1) ++ y46.1) ++ y41.1).length + y47.1.length) * 1) ≤ 140737488355328)) && (decide (((((y45.1 ++ y40.1) ++ y46.1) ++ y41.1).length + y47.1.length) ≤ 9223372036854775807))) (
              cond ((decide (((((((y45.1 ++ y40.1) ++ y46.1) ++ y41.1) ++ y47.1).length + y42.1.length) * 1) ≤ 140737488355328)) && (decide ((((((y45.1 ++ y40.1) ++ y46.1) ++ y41.1) ++ y47.1).length + y42.1.length) ≤ 9223372036854775807))) (
               ((f29 ((y43.1.length : Nat) : Int))).bind fun y48 =>
               cond ((decide ((((((((y45.1 ++ y40.1) ++ y46.1) ++ y41.1) ++ y47.1) ++ y42.1).length + y48.1.length) * 1) ≤ 140737488355328)) && (decide (((((((y45.1 ++ y40.1) ++ y46.1) ++ y41.1) ++ y47.1) ++ y42.1).length + y48.1.length) ≤ 9223372036854775807))) (
                cond ((decide (((((((((y45.1 ++ y40.1) ++ y46.1) ++ y41.1) ++ y47.1) ++ y42.1) ++ y48.1).length + y43.1.length) * 1) ≤ 140737488355328)) && (decide ((((((((y45.1 ++ y40.1) ++ y46.1) ++ y41.1) ++ y47.1) ++ y42.1) ++ y48.1).length + y43.1.length) ≤ 9223372036854775807))) (
                 ((f29 ((y44.1.length : Nat) : Int))).bind fun y49 =>
                 cond ((decide ((((((((((y45.1 ++ y40.1) ++ y46.1) ++ y41.1) ++ y47.1) ++ y42.1) ++ y48.1) ++ y43.1).length + y49.1.length) * 1) ≤ 140737488355328)) && (decide (((((((((y45.1 ++ y40.1) ++ y46.1) ++ y41.1) ++ y47.1) ++ y42.1) ++ y48.1) ++ y43.1).length + y49.1.length) ≤ 9223372036854775807))) (
                  cond ((decide (((((((((((y45.1 ++ y40.1) ++ y46.1) ++ y41.1) ++ y47.1) ++ y42.1) ++ y48.1) ++ y43.1) ++ y49.1).length + y44.1.length) * 1) ≤ 140737488355328)) && (decide ((((((((((y45.1 ++ y40.1) ++ y46.1) ++ y41.1) ++ y47.1) ++ y42.1) ++ y48.1) ++ y43.1) ++ y49.1).length + y44.1.length) ≤ 9223372036854775807))) (
                   some ((((((((((y45.1 ++ y40.1) ++ y46.1) ++ y41.1) ++ y47.1) ++ y42.1) ++ y48.1) ++ y43.1) ++ y49.1) ++ y44.1), (true, ()))) (
                   none)) (
                  none)) (
                 none)) (
                none)) (
               none)) (
              none)) (
             none)) (
            none)) (
           none)) (
          none)
       | .inr z38 =>
         none
     | .inr z36 =>
       none))
abbrev X97_5 : Type := (Int × Int × (List Int) × Int × Int × Unit) × (Unit) × (Unit)
abbrev Y97_5 : Type := (Unit) × (Unit) × (Unit)
abbrev Z97_5 : Type := (Int × Int × Unit) × (Unit) × (Unit)
noncomputable def t97_5 (v1 : Int) (v2 : Int) (v3 : (List Int)) (v4 : Int) (v5 : Int) : Option (R3 X97_5 Y97_5 Z97_5) :=
 cond (decide (v5 < v4)) (
  cond ((decide (0 ≤ v5)) && (decide (v5 < ((v3.length : Nat) : Int)))) (
   cond (!(decide ((IntKind.wrap .i64 (7 * v5)) < 0))) (
    cond (decide (128 ≤ (rd (.int .u8) v3 (Int.toNat v5)))) (
     some (R3.next ((v1, ((bitop .or .i64 v2 (IntKind.wrap .i64 ((IntKind.wrap .i64 (bitop .andNot .u8 (rd (.int .u8) v3 (Int.toNat v5)) 128)) * ((2 : Int) ^ ((min (Int.toNat (IntKind.wrap .i64 (7 * v5))) 64) : Nat))))), (v3, (v4, ((IntKind.wrap .i64 (v5 + 1)), ()))))), ((), ())))) (
     cond (decide ((rd (.int .u8) v3 (Int.toNat v5)) = 0)) (
      cond (decide (0 < v5)) (
       some (R3.out ((), ((), ())))) (
       ((f53 (bitop .or .i64 v2 (IntKind.wrap .i64 ((IntKind.wrap .i64 (bitop .andNot .u8 (rd (.int .u8) v3 (Int.toNat v5)) 128)) * ((2 : Int) ^ ((min (Int.toNat (IntKind.wrap .i64 (7 * v5))) 64) : Nat))))))).bind fun y6 =>
       cond (!y6.1) (
        some (R3.out ((), ((), ())))) (
        some (R3.ret (((bitop .or .i64 v2 (IntKind.wrap .i64 ((IntKind.wrap .i64 (bitop .andNot .u8 (rd (.int .u8) v3 (Int.toNat v5)) 128)) * ((2 : Int) ^ ((min (Int.toNat (IntKind.wrap .i64 (7 * v5))) 64) : Nat))))), ((IntKind.wrap .i64 ((IntKind.wrap .i64 (v1 + v5)) + 1)), ())), ((), ())))))) (
      ((f53 (bitop .or .i64 v2 (IntKind.wrap .i64 ((IntKind.wrap .i64 (bitop .andNot .u8 (rd (.int .u8) v3 (Int.toNat v5)) 128)) * ((2 : Int) ^ ((min (Int.toNat (IntKind.wrap .i64 (7 * v5))) 64) : Nat))))))).bind fun y7 =>
      cond (!y7.1) (
       some (R3.out ((), ((), ())))) (
       some (R3.ret (((bitop .or .i64 v2 (IntKind.wrap .i64 ((IntKind.wrap .i64 (bitop .andNot .u8 (rd (.int .u8) v3 (Int.toNat v5)) 128)) * ((2 : Int) ^ ((min (Int.toNat (IntKind.wrap .i64 (7 * v5))) 64) : Nat))))), ((IntKind.wrap .i64 ((IntKind.wrap .i64 (v1 + v5)) + 1)), ())), ((), ()))))))) (
    none)) (
   none)) (
  some (R3.out ((), ((), ()))))
noncomputable def u97_5 (z : X97_5) : Option (R3 X97_5 Y97_5 Z97_5) := t97_5 z.1.1 z.1.2.1 z.1.2.2.1 z.1.2.2.2.1 z.1.2.2.2.2.1
noncomputable def f97 (v1 : (List Int)) (v2 : Int) : Option (Int × (Int × Unit)) :=
 cond (decide (v2 < 0)) (
  some (0, ((-1), ()))) (
  cond (decide (((v1.length : Nat) : Int) < v2)) (
   some (0, ((-1), ()))) (
   cond (((decide (0 ≤ v2)) && (decide (v2 ≤ (cond (decide ((IntKind.wrap .i64 (v2 + (cond (decide ((IntKind.wrap .i64 (((v1.length : Nat) : Int) - v2)) < 6)) (IntKind.wrap .i64 (((v1.length : Nat) : Int) - v2)) 6))) < ((v1.length : Nat) : Int))) (IntKind.wrap .i64 (v2 + (cond (decide ((IntKind.wrap .i64 (((v1.length : Nat) : Int) - v2)) < 6)) (IntKind.wrap .i64 (((v1.length : Nat) : Int) - v2)) 6))) ((v1.length : Nat) : Int))))) && (decide ((cond (decide ((IntKind.wrap .i64 (v2 + (cond (decide ((IntKind.wrap .i64 (((v1.length : Nat) : Int) - v2)) < 6)) (IntKind.wrap .i64 (((v1.length : Nat) : Int) - v2)) 6))) < ((v1.length : Nat) : Int))) (IntKind.wrap .i64 (v2 + (cond (decide ((IntKind.wrap .i64 (((v1.length : Nat) : Int) - v2)) < 6)) (IntKind.wrap .i64 (((v1.length : Nat) : Int) - v2)) 6))) ((v1.length : Nat) : Int)) ≤ ((v1.length : Nat) : Int)))) (
    ((iter big u97_5 ((v2, (0, ((List.drop (Int.toNat v2) (List.take (Int.toNat (cond (decide ((IntKind.wrap .i64 (v2 + (cond (decide ((IntKind.wrap .i64 (((v1.length : Nat) : Int) - v2)) < 6)) (IntKind.wrap .i64 (((v1.length : Nat) : Int) - v2)) 6))) < ((v1.length : Nat) : Int))) (IntKind.wrap .i64 (v2 + (cond (decide ((IntKind.wrap .i64 (((v1.length : Nat) : Int) - v2)) < 6)) (IntKind.wrap .i64 (((v1.length : Nat) : Int) - v2)) 6))) ((v1.length : Nat) : Int))) v1)), ((((List.drop (Int.toNat v2) (List.take (Int.toNat (cond (decide ((IntKind.wrap .i64 (v2 + (cond (decide ((IntKind.wrap .i64 (((v1.length : Nat) : Int) - v2)) < 6)) (IntKind.wrap .i64 (((v1.length : Nat) : Int) - v2)) 6))) < ((v1.length : Nat) : Int))) (IntKind.wrap .i64 (v2 + (cond (decide ((IntKind.wrap .i64 (((v1.length : Nat) : Int) - v2)) < 6)) (IntKind.wrap .i64 (((v1.length : Nat) : Int) - v2)) 6))) ((v1.length : Nat) : Int))) v1)).length : Nat) : Int), (0, ()))))), ((), ())))).bind fun r => match r with
    | .inl y3 =>
      some (0, ((-1), ()))
    | .inr z4 =>
      some (z4.1.1, (z4.1.2.1, ()))) (
    none)))
noncomputable def f30 (v1 : (List Int)) : Option (((List Int) × ((List Int) × ((List Int) × ((List Int) × (List Int))))) × (Bool × Unit)) :=
 ((f97 v1 0)).bind fun y2 =>
 cond (decide (y2.2.1 = (-1))) (
  some (([], ([], ([], ([], [])))), (false, ()))) (
  cond (decide ((IntKind.wrap .i64 (((v1.length : Nat) : Int) - y2.2.1)) < y2.1)) (
   some (([], ([], ([], ([], [])))), (false, ()))) (
   cond ((((decide (0 ≤ y2.2.1)) && (decide (y2.2.1 ≤ (IntKind.wrap .i64 (y2.2.1 + y2.1))))) && (decide ((IntKind.wrap .i64 (y2.2.1 + y2.1)) ≤ (IntKind.wrap .i64 (y2.2.1 + y2.1))))) && (decide ((IntKind.wrap .i64 (y2.2.1 + y2.1)) ≤ ((v1.length : Nat) : Int)))) (
    cond (((decide (0 ≤ (IntKind.wrap .i64 (y2.2.1 + y2.1)))) && (decide ((IntKind.wrap .i64 (y2.2.1 + y2.1)) ≤ ((v1.length : Nat) : Int)))) && (decide (((v1.length : Nat) : Int) ≤ ((v1.length : Nat) : Int)))) (
     ((f97 (List.drop (Int.toNat (IntKind.wrap .i64 (y2.2.1 + y2.1))) (List.take (Int.toNat ((v1.length : Nat) : Int)) v1)) 0)).bind fun y3 =>
     cond (decide (y3.2.1 = (-1))) (
      some (((List.drop (Int.toNat y2.2.1) (List.take (Int.toNat (IntKind.wrap .i64 (y2.2.1 + y2.1))) v1)), ([], ([], ([], [])))), (false, ()))) (
      cond (decide ((IntKind.wrap .i64 ((((List.drop (Int.toNat (IntKind.wrap .i64 (y2.2.1 + y2.1))) (List.take (Int.toNat ((v1.length : Nat) : Int)) v1)).length : Nat) : Int) - y3.2.1)) < y3.1)) (
       some (((List.drop (Int.toNat y2.2.1) (List.take (Int.toNat (IntKind.wrap .i64 (y2.2.1 + y2.1))) v1)), ([], ([], ([], [])))), (false, ()))) (
       cond ((((decide (0 ≤ y3.2.1)) && (decide (y3.2.1 ≤ (IntKind.wrap .i64 (y3.2.1 + y3.1))))) && (decide ((IntKind.wrap .i64 (y3.2.1 + y3.1)) ≤ (IntKind.wrap .i64 (y3.2.1 + y3.1))))) && (decide ((IntKind.wrap .i64 (y3.2.1 + y3.1)) ≤ (((List.drop (Int.toNat (IntKind.wrap .i64 (y2.2.1 + y2.1))) (List.take (Int.toNat ((v1.length : Nat) : Int)) v1)).length : Nat) : Int)))) (
        cond (((decide (0 ≤ (IntKind.wrap .i64 (y3.2.1 + y3.1)))) && (decide ((IntKind.wrap .i64 (y3.2.1 + y3.1)) ≤ (((List.drop (Int.toNat (IntKind.wrap .i64 (y2.2.1 + y2.1))) (List.take (Int.toNat ((v1.length : Nat) : Int)) v1)).length : Nat) : Int)))) && (decide ((((List.drop (Int.toNat (IntKind.wrap .i64 (y2.2.1 + y2.1))) (List.take (Int.toNat ((v1.length : Nat) : Int)) v1)).length : Nat) : Int) ≤ (((List.drop (Int.toNat (IntKind.wrap .i64 (y2.2.1 + y2.1))) (List.take (Int.toNat ((v1.length : Nat) : Int)) v1)).length : Nat) : Int)))) (
         ((f97 (List.drop (Int.toNat (IntKind.wrap .i64 (y3.2.1 + y3.1))) (List.take (Int.toNat (((List.drop (Int.toNat (IntKind.wrap .i64 (y2.2.1 + y2.1))) (List.take (Int.toNat ((v1.length : Nat) : Int)) v1)).length : Nat) : Int)) (List.drop (Int.toNat (IntKind.wrap .i64 (y2.2.1 + y2.1))) (List.take (Int.toNat ((v1.length : Nat) : Int)) v1)))) 0)).bind fun y4 =>
         cond (decide (y4.2.1 = (-1))) (
          some (((List.drop (Int.toNat y2.2.1) (List.take (Int.toNat (IntKind.wrap .i64 (y2.2.1 + y2.1))) v1)), ((List.drop (Int.toNat y3.2.1) (List.take (Int.toNat (IntKind.wrap .i64 (y3.2.1 + y3.1))) (List.drop (Int.toNat (IntKind.wrap .i64 (y2.2.1 + y2.1))) (List.take (Int.toNat ((v1.length : Nat) : Int)) v1)))), ([], ([], [])))), (false, ()))) (
          cond (decide ((IntKind.wrap .i64 ((((List.drop (Int.toNat (IntKind.wrap .i64 (y3.2.1 + y3.1))) (List.take (Int.toNat (((List.drop (Int.toNat (IntKind.wrap .i64 (y2.2.1 + y2.1))) (List.take (Int.toNat ((v1.length : Nat) : Int)) v1)).length : Nat) : Int)) (List.drop (Int.toNat (IntKind.wrap .i64 (y2.2.1 + y2.1))) (List.take (Int.toNat ((v1.length : Nat) : Int)) v1)))).length : Nat) : Int) - y4.2.1)) < y4.1)) (
           some (((List.drop (Int.toNat y2.2.1) (List.take (Int.toNat (IntKind.wrap .i64 (y2.2.1 + y2.1))) v1)), ((List.drop (Int.toNat y3.2.1) (List.take (Int.toNat (IntKind.wrap .i64 (y3.2.1 + y3.1))) (List.drop (Int.toNat (IntKind.wrap .i64 (y2.2.1 + y2.1))) (List.take (Int.toNat ((v1.length : Nat) : Int)) v1)))), ([], ([], [])))), (false, ()))) (
           cond ((((decide (0 ≤ y4.2.1)) && (decide (y4.2.1 ≤ (IntKind.wrap .i64 (y4.2.1 + y4.1))))) && (decide ((IntKind.wrap .i64 (y4.2.1 + y4.1)) ≤ (IntKind.wrap .i64 (y4.2.1 + y4.1))))) && (decide ((IntKind.wrap .i64 (y4.2.1 + y4.1)) ≤ (((List.drop (Int.toNat (IntKind.wrap .i64 (y3.2.1 + y3.1))) (List.take (Int.toNat (((List.drop (Int.toNat (IntKind.wrap .i64 (y2.2.1 + y2.1))) (List.take (Int.toNat ((v1.length : Nat) : Int)) v1)).length : Nat) : Int)) (List.drop (Int.toNat (IntKind.wrap .i64 (y2.2.1 + y2.1))) (List.take (Int.toNat ((v1.length : Nat) : Int)) v1)))).length : Nat) : Int)))) (
            cond (((decide (0 ≤ (IntKind.wrap .i64 (y4.2.1 + y4.1)))) && (decide ((IntKind.wrap .i64 (y4.2.1 + y4.1)) ≤ (((List.drop (Int.toNat (IntKind.wrap .i64 (y3.2.1 + y3.1))) (List.take (Int.toNat (((List.drop (Int.toNat (IntKind.wrap .i64 (y2.2.1 + y2.1))) (List.take (Int.toNat ((v1.length : Nat) : Int)) v1)).length : Nat) : Int)) (List.drop (Int.toNat (IntKind.wrap .i64 (y2.2.1 + y2.1))) (List.take (Int.toNat ((v1.length : Nat) : Int)) v1)))).length : Nat) : Int)))) && (decide ((((List.drop (Int.toNat (IntKind.wrap .i64 (y3.2.1 + y3.1))) (List.take (Int.toNat (((List.drop (Int.toNat (IntKind.wrap .i64 (y2.2.1 + y2.1))) (List.take (Int.toNat ((v1.length : Nat) : Int)) v1)).length : Nat) : Int)) (List.drop (Int.toNat (IntKind.wrap .i64 (y2.2.1 + y2.1))) (List.take (Int.toNat ((v1.length : Nat) : Int)) v1)))).length : Nat) : Int) ≤ (((List.drop (Int.toNat (IntKind.wrap .i64 (y3.2.1 + y3.1))) (List.take (Int.toNat (((List.drop (Int.toNat (IntKind.wrap .i64 (y2.2.1 + y2.1))) (List.take (Int.toNat ((v1.length : Nat) : Int)) v1)).length : Nat) : Int)) (List.drop (Int.toNat (IntKind.wrap .i64 (y2.2.1 + y2.1))) (List.take (Int.toNat ((v1.length : Nat) : Int)) v1)))).length : Nat) : Int)))) (
             ((f97 (List.drop (Int.toNat (IntKind.wrap .i64 (y4.2.1 + y4.1))) (List.take (Int.toNat (((List.drop (Int.toNat (IntKind.wrap .i64 (y3.2.1 + y3.1))) (List.take (Int.toNat (((List.drop (Int.toNat (IntKind.wrap .i64 (y2.2.1 + y2.1))) (List.take (Int.toNat ((v1.length : Nat) : Int)) v1)).length : Nat) : Int)) (List.drop (Int.toNat (IntKind.wrap .i64 (y2.2.1 + y2.1))) (List.take (Int.toNat ((v1.length : Nat) : Int)) v1)))).length : Nat) : Int)) (List.drop (Int.toNat (IntKind.wrap .i64 (y3.2.1 + y3.1))) (List.take (Int.toNat (((List.drop (Int.toNat (IntKind.wrap .i64 (y2.2.1 + y2.1))) (List.take (Int.toNat ((v1.length : Nat) : Int)) v1)).length : Nat) : Int)) (List.drop (Int.toNat (IntKind.wrap .i64 (y2.2.1 + y2.1))) (List.take (Int.toNat ((v1.length : Nat) : Int)) v1)))))) 0)).bind fun y5 =>
             cond (decide (y5.2.1 = (-1))) (
              some (((List.drop (Int.toNat y2.2.1) (List.take (Int.toNat (IntKind.wrap .i64 (y2.2.1 + y2.1))) v1)), ((List.drop (Int.toNat y3.2.1) (List.take (Int.toNat (IntKind.wrap .i64 (y3.2.1 + y3.1))) (List.drop (Int.toNat (IntKind.wrap .i64 (y2.2.1 + y2.1))) (List.take (Int.toNat ((v1.length : Nat) : Int)) v1)))), ((List.drop (Int.toNat y4.2.1) (List.take (Int.toNat (IntKind.wrap .i64 (y4.2.1 + y4.1))) (List.drop (Int.toNat (IntKind.wrap .i64 (y3.2.1 + y3.1))) (List.take (Int.toNat (((List.drop (Int.toNat (IntKind.wrap .i64 (y2.2.1 + y2.1))) (List.take (Int.toNat ((v1.length : Nat) : Int)) v1)).length : Nat) : Int)) (List.drop (Int.toNat (IntKind.wrap .i64 (y2.2.1 + y2.1))) (List.take (Int.toNat ((v1.length : Nat) : Int)) v1)))))), ([], [])))), (false, ()))) (
              cond (decide ((IntKind.wrap .i64 ((((List.drop (Int.toNat (IntKind.wrap .i64 (y4.2.1 + y4.1))) (List.take (Int.toNat (((List.drop (Int.toNat (IntKind.wrap .i64 (y3.2.1 + y3.1))) (List.take (Int.toNat (((List.drop (Int.toNat (IntKind.wrap .i64 (y2.2.1 + y2.1))) (List.take (Int.toNat ((v1.length : Nat) : Int)) v1)).length : Nat) : Int)) (List.drop (Int.toNat (IntKind.wrap .i64 (y2.2.1 + y2.1))) (List.take (Int.toNat ((v1.length : Nat) : Int)) v1)))).length : Nat) : Int)) (List.drop (Int.toNat (IntKind.wrap .i64 (y3.2.1 + y3.1))) (List.take (Int.toNat (((List.drop (Int.toNat (IntKind.wrap .i64 (y2.2.1 + y2.1))) (List.take (Int.toNat ((v1.length : Nat) : Int)) v1)).length : Nat) : Int)) (List.drop (Int.toNat (IntKind.wrap .i64 (y2.2.1 + y2.1))) (List.take (Int.toNat ((v1.length : Nat) : Int)) v1)))))).length : Nat) : Int) - y5.2.1)) < y5.1)) (
               some (((List.drop (Int.toNat y2.2.1) (List.take (Int.toNat (IntKind.wrap .i64 (y2.2.1 + y2.1))) v1)), ((List.drop (Int.toNat y3.2.1) (List.take (Int.toNat (IntKind.wrap .i64 (y3.2.1 + y3.1))) (List.drop (Int.toNat (IntKind.wrap .i64 (y2.2.1 + y2.1))) (List.take (Int.toNat ((v1.length : Nat) : Int)) v1)))), ((List.drop (Int.toNat y4.2.1) (List.take (Int.toNat (IntKind.wrap .i64 (y4.2.1 + y4.1))) (List.drop (Int.toNat (IntKind.wrap .i64 (y3.2.1 + y3.1))) (List.take (Int.toNat (((List.drop (Int.toNat (IntKind.wrap .i64 (y2.2.1 + y2.1))) (List.take (Int.toNat ((v1.length : Nat) : Int)) v1)).length : Nat) : Int)) (List.drop (Int.toNat (IntKind.wrap .i64 (y2.2.1 + y2.1))) (List.take (Int.toNat ((v1.length : Nat) : Int)) v1)))))), ([], [])))), (false, ()))) (
               cond ((((decide (0 ≤ y5.2.1)) && (decide (y5.2.1 ≤ (IntKind.wrap .i64 (y5.2.1 + y5.1))))) && (decide ((IntKind.wrap .i64 (y5.2.1 + y5.1)) ≤ (IntKind.wrap .i64 (y5.2.1 + y5.1))))) && (decide ((IntKind.wrap .i64 (y5.2.1 + y5.1)) ≤ (((List.drop (Int.toNat (IntKind.wrap .i64 (y4.2.1 + y4.1))) (List.take (Int.toNat (((List.drop (Int.toNat (IntKind.wrap .i64 (y3.2.1 + y3.1))) (List.take (Int.toNat (((List.drop (Int.toNat (IntKind.wrap .i64 (y2.2.1 + y2.1))) (List.take (Int.toNat ((v1.length : Nat) : Int)) v1)).length : Nat) : Int)) (List.drop (Int.toNat (IntKind.wrap .i64 (y2.2.1 + y2.1))) (List.take (Int.toNat ((v1.length : Nat) : Int)) v1)))).length : Nat) : Int)) (List.drop (Int.toNat (IntKind.wrap .i64 (y3.2.1 + y3.1))) (List.take (Int.toNat (((List.drop (Int.toNat (IntKind.wrap .i64 (y2.2.1 + y2.1))) (List.take (Int.toNat ((v1.length : Nat) : Int)) v1)).length : Nat) : Int)) (List.drop (Int.toNat (IntKind.wrap .i64 (y2.2.1 + y2.1))) (List.take (Int.toNat ((v1.length : Nat) : Int)) v1)))))).length : Nat) : Int)))) (
                cond (((decide (0 ≤ (IntKind.wrap .i64 (y5.2.1 + y5.1)))) && (decide ((IntKind.wrap .i64 (y5.2.1 + y5.1)) ≤ (((List.drop (Int.toNat (IntKind.wrap .i64 (y4.2.1 + y4.1))) (List.take (Int.toNat (((List.drop (Int.toNat (IntKind.wrap .i64 (y3.2.1 + y3.1))) (List.take (Int.toNat (((List.drop (Int.toNat (IntKind.wrap .i64 (y2.2.1 + y2.1))) (List.take (Int.toNat ((v1.length : Nat) : Int)) v1)).length : Nat) : Int)) (List.drop (Int.toNat (IntKind.wrap .i64 (y2.2.1 + y2.1))) (List.take (Int.toNat ((v1.length : Nat) : Int)) v1)))).length : Nat) : Int)) (List.drop (Int.toNat (IntKind.wrap .i64 (y3.2.1 + y3.1))) (List.take (Int.toNat (((List.drop (Int.toNat (IntKind.wrap .i64 (y2.2.1 + y2.1))) (List.take (Int.toNat ((v1.length : Nat) : Int)) v1)).length : Nat) : Int)) (List.drop (Int.toNat (IntKind.wrap .i64 (y2.2.1 + y2.1))) (List.take (Int.toNat ((v1.length : Nat) : Int)) v1)))))).length : Nat) : Int)))) && (decide ((((List.drop (Int.toNat (IntKind.wrap .i64 (y4.2.1 + y4.1))) (List.take (Int.toNat (((List.drop (Int.toNat (IntKind.wrap .i64 (y3.2.1 + y3.1))) (List.take (Int.toNat (((List.drop (Int.toNat (IntKind.wrap .i64 (y2.2.1 + y2.1))) (List.take (Int.toNat ((v1.length : Nat) : Int)) v1)).length : Nat) : Int)) (List.drop (Int.toNat (IntKind.wrap .i64 (y2.2.1 + y2.1))) (List.take (Int.toNat ((v1.length : Nat) : Int)) v1)))).length : Nat) : Int)) (List.drop (Int.toNat (IntKind.wrap .i64 (y3.2.1 + y3.1))) (List.take (Int.toNat (((List.drop (Int.toNat (IntKind.wrap .i64 (y2.2.1 + y2.1))) (List.take (Int.toNat ((v1.length : Nat) : Int)) v1)).length : Nat) : Int)) (List.drop (Int.toNat (IntKind.wrap .i64 (y2.2.1 + y2.1))) (List.take (Int.toNat ((v1.length : Nat) : Int)) v1)))))).length : Nat) : Int) ≤ (((List.drop (Int.toNat (IntKind.wrap .i64 (y4.2.1 + y4.1))) (List.take (Int.toNat (((List.drop (Int.toNat (IntKind.wrap .i64 (y3.2.1 + y3.1))) (List.take (Int.toNat (((List.drop (Int.toNat (IntKind.wrap .i64 (y2.2.1 + y2.1))) (List.take (Int.toNat ((v1.length : Nat) : Int)) v1)).length : Nat) : Int)) (List.drop (Int.toNat (IntKind.wrap .i64 (y2.2.1 + y2.1))) (List.take (Int.toNat ((v1.length : Nat) : Int)) v1)))).length : Nat) : Int)) (List.drop (Int.toNat (IntKind.wrap .i64 (y3.2.1 + y3.1))) (List.take (Int.toNat (((List.drop (Int.toNat (IntKind.wrap .i64 (y2.2.1 + y2.1))) (List.take (Int.toNat ((v1.length : Nat) : Int)) v1)).length : Nat) : Int)) (List.drop (Int.toNat (IntKind.wrap .i64 (y2.2.1 + y2.1))) (List.take (Int.toNat ((v1.length : Nat) : Int)) v1)))))).length : Nat) : Int)))) (
                 ((f97 (List.drop (Int.toNat (IntKind.wrap .i64 (y5.2.1 + y5.1))) (List.take (Int.toNat (((List.drop (Int.toNat (IntKind.wrap .i64 (y4.2.1 + y4.1))) (List.take (Int.toNat (((List.drop (Int.toNat (IntKind.wrap .i64 (y3.2.1 + y3.1))) (List.take (Int.toNat (((List.drop (Int.toNat (IntKind.wrap .i64 (y2.2.1 + y2.1))) (List.take (Int.toNat ((v1.length : Nat) : Int)) v1)).length : Nat) : Int)) (List.drop (Int.toNat (IntKind.wrap .i64 (y2.2.1 + y2.1))) (List.take (Int.toNat ((v1.length : Nat) : Int)) v1)))).length : Nat) : Int)) (List.drop (Int.toNat (IntKind.wrap .i64 (y3.2.1 + y3.1))) (List.take (Int.toNat (((List.drop (Int.toNat (IntKind.wrap .i64 (y2.2.1 + y2.1))) (List.take (Int.toNat ((v1.length : Nat) : Int)) v1)).length : Nat) : Int)) (List.drop (Int.toNat (IntKind.wrap .i64 (y2.2.1 + y2.1))) (List.take (Int.toNat ((v1.length : Nat) : Int)) v1)))))).length : Nat) : Int)) (List.drop (Int.toNat (IntKind.wrap .i64 (y4.2.1 + y4.1))) (List.take (Int.toNat (((List.drop (Int.toNat (IntKind.wrap .i64 (y3.2.1 + y3.1))) (List.take (Int.toNat (((List.drop (Int.toNat (IntKind.wrap .i64 (y2.2.1 + y2.1))) (List.take (Int.toNat ((v1.length : Nat) : Int)) v1)).length : Nat) : Int)) (List.drop (Int.toNat (IntKind.wrap .i64 (y2.2.1 + y2.1))) (List.take (Int.toNat ((v1.length : Nat) : Int)) v1)))).length : Nat) : Int)) (List.drop (Int.toNat (IntKind.wrap .i64 (y3.2.1 + y3.1))) (List.take (Int.toNat (((List.drop (Int.toNat (IntKind.wrap .i64 (y2.2.1 + y2.1))) (List.take (Int.toNat ((v1.length : Nat) : Int)) v1)).length : Nat) : Int)) (List.drop (Int.toNat (IntKind.wrap .i64 (y2.2.1 + y2.1))) (List.take (Int.toNat ((v1.length : Nat) : Int)) v1)))))))) 0)).bind fun y6 =>
                 cond (decide (y6.2.1 = (-1))) (
                  some (((List.drop (Int.toNat y2.2.1) (List.take (Int.toNat (IntKind.wrap .i64 (y2.2.1 + y2.1))) v1)), ((List.drop (Int.toNat y3.2.1) (List.take (Int.toNat (IntKind.wrap .i64 (y3.2.1 + y3.1))) (List.drop (Int.toNat (IntKind.wrap .i64 (y2.2.1 + y2.1))) (List.take (Int.toNat ((v1.length : Nat) : Int)) v1)))), ((List.drop (Int.toNat y4.2.1) (List.take (Int.toNat (IntKind.wrap .i64 (y4.2.1 + y4.1))) (List.drop (Int.toNat (IntKind.wrap .i64 (y3.2.1 + y3.1))) (List.take (Int.toNat (((List.drop (Int.toNat (IntKind.wrap .i64 (y2.2.1 + y2.1))) (List.take (Int.toNat ((v1.length : Nat) : Int)) v1)).length : Nat) : Int)) (List.drop (Int.toNat (IntKind.wrap .i64 (y2.2.1 + y2.1))) (List.take (Int.toNat ((v1.length : Nat) : Int)) v1)))))), ((List.drop (Int.toNat y5.2.1) (List.take (Int.toNat (IntKind.wrap .i64 (y5.2.1 + y5.1))) (List.drop (Int.toNat (IntKind.wrap .i64 (y4.2.1 + y4.1))) (List.take (Int.toNat (((List.drop (Int.toNat (IntKind.wrap .i64 (y3.2.1 + y3.1))) (List.take (Int.toNat (((List.drop (Int.toNat (IntKind.wrap .i64 (y2.2.1 + y2.1))) (List.take (Int.toNat ((v1.length : Nat) : Int)) v1)).length : Nat) : Int)) (List.drop (Int.toNat (IntKind.wrap .i64 (y2.2.1 + y2.1))) (List.take (Int.toNat ((v1.length : Nat) : Int)) v1)))).length : Nat) : Int)) (List.drop (Int.toNat (IntKind.wrap .i64 (y3.2.1 + y3.1))) (List.take (Int.toNat (((List.drop (Int.toNat (IntKind.wrap .i64 (y2.2.1 + y2.1))) (List.take (Int.toNat ((v1.length : Nat) : Int)) v1)).length : Nat) : Int)) (List.drop (Int.toNat (IntKind.wrap .i64 (y2.2.1 + y2.1))) (List.take (Int.toNat ((v1.length : Nat) : Int)) v1)))))))), [])))), (false, ()))) (
                  cond (decide ((IntKind.wrap .i64 ((((List.drop (Int.toNat (IntKind.wrap .i64 (y5.2.1 + y5.1))) (List.take (Int.toNat (((List.drop (Int.toNat (IntKind.wrap .i64 (y4.2.1 + y4.1))) (List.take (Int.toNat (((List.drop (Int.toNat (IntKind.wrap .i64 (y3.2.1 + y3.1))) (List.take (Int.toNat (((List.drop (Int.toNat (IntKind.wrap .i64 (y2.2.1 + y2.1))) (List.take (Int.toNat ((v1.length : Nat) : Int)) v1)).length : Nat) : Int)) (List.drop (Int.toNat (IntKind.wrap .i64 (y2.2.1 + y2.1))) (List.take (Int.toNat ((v1.length : Nat) : Int)) v1)))).length : Nat) : Int)) (List.drop (Int.toNat (IntKind.wrap .i64 (y3.2.1 + y3.1))) (List.take (Int.toNat (((List.drop (Int.toNat (IntKind.wrap .i64 (y2.2.1 + y2.1))) (List.take (Int.toNat ((v1.length : Nat) : Int)) v1)).length : Nat) : Int)) (List.drop (Int.toNat (IntKind.wrap .i64 (y2.2.1 + y2.1))) (List.take (Int.toNat ((v1.length : Nat) : Int)) v1)))))).length : Nat) : Int)) (List.drop (Int.toNat (IntKind.wrap .i64 (y4.2.1 + y4.1))) (List.take (Int.toNat (((List.drop (Int.toNat (IntKind.wrap .i64 (y3.2.1 + y3.1))) (List.take (Int.toNat (((List.drop (Int.toNat (IntKind.wrap .i64 (y2.2.1 + y2.1))) (List.take (Int.toNat ((v1.length : Nat) : Int)) v1)).length : Nat) : Int)) (List.drop (Int.toNat (IntKind.wrap .i64 (y2.2.1 + y2.1))) (List.take (Int.toNat ((v1.length : Nat) : Int)) v1)))).length : Nat) : Int)) (List.drop (Int.toNat (IntKind.wrap .i64 (y3.2.1 + y3.1))) (List.take (Int.toNat (((List.drop (Int.toNat (IntKind.wrap .i64 (y2.2.1 + y2.1))) (List.take (Int.toNat ((v1.length : Nat) : Int)) v1)).length : Nat) : Int)) (List.drop (Int.toNat (IntKind.wrap .i64 (y2.2.1 + y2.1))) (List.take (Int.toNat ((v1.length : Nat) : Int)) v1)))))))).length : Nat) : Int) - y6.2.1)) < y6.1)) (
                   some (((List.drop (Int.toNat y2.2.1) (List.take (Int.toNat (IntKind.wrap .i64 (y2.2.1 + y2.1))) v1)), ((List.drop (Int.toNat y3.2.1) (List.take (Int.toNat (IntKind.wrap .i64 (y3.2.1 + y3.1))) (List.drop (Int.toNat (IntKind.wrap .i64 (y2.2.1 + y2.1))) (List.take (Int.toNat ((v1.length : Nat) : Int)) v1)))), ((List.drop (Int.toNat y4.2.1) (List.take (Int.toNat (IntKind.wrap .i64 (y4.2.1 + y4.1))) (List.drop (Int.toNat (IntKind.wrap .i64 (y3.2.1 + y3.1))) (List.take (Int.toNat (((List.drop (Int.toNat (IntKind.wrap .i64 (y2.2.1 + y2.1))) (List.take (Int.toNat ((v1.length : Nat) : Int)) v1)).length : Nat) : Int)) (List.drop (Int.toNat (IntKind.wrap .i64 (y2.2.1 + y2.1))) (List.take (Int.toNat ((v1.length : Nat) : Int)) v1)))))), ((List.drop (Int.toNat y5.2.1) (List.take (Int.toNat (IntKind.wrap .i64 (y5.2.1 + y5.1))) (List.drop (Int.toNat (IntKind.wrap .i64 (y4.2.1 + y4.1))) (List.take (Int.toNat (((List.drop (Int.toNat (IntKind.wrap .i64 (y3.2.1 + y3.1))) (List.take (Int.toNat (((List.drop (Int.toNat (IntKind.wrap .i64 (y2.2.1 + y2.1))) (List.take (Int.toNat ((v1.length : Nat) : Int)) v1)).length : Nat) : Int)) (List.drop (Int.toNat (IntKind.wrap .i64 (y2.2.1 + y2.1))) (List.take (Int.toNat ((v1.length : Nat) : Int)) v1)))).length : Nat) : Int)) (List.drop (Int.toNat (IntKind.wrap .i64 (y3.2.1 + y3.1))) (List.take (Int.toNat (((List.drop (Int.toNat (IntKind.wrap .i64 (y2.2.1 + y2.1))) (List.take (Int.toNat ((v1.length : Nat) : Int)) v1)).length : Nat) : Int)) (List.drop (Int.toNat (IntKind.wrap .i64 (y2.2.1 + y2.1))) (List.take (Int.toNat ((v1.length : Nat) : Int)) v1)))))))), [])))), (false, ()))) (
                   cond ((((decide (0 ≤ y6.2.1)) && (decide (y6.2.1 ≤ (IntKind.wrap .i64 (y6.2.1 + y6.1))))) && (decide ((IntKind.wrap .i64 (y6.2.1 + y6.1)) ≤ (IntKind.wrap .i64 (y6.2.1 + y6.1))))) && (decide ((IntKind.wrap .i64 (y6.2.1 + y6.1)) ≤ (((List.drop (Int.toNat (IntKind.wrap .i64 (y5.2.1 + y5.1))) (List.take (Int.toNat (((List.drop (Int.toNat (IntKind.wrap .i64 (y4.2.1 + y4.1))) (List.take (Int.toNat (((List.drop (Int.toNat (IntKind.wrap .i64 (y3.2.1 + y3.1))) (List.take (Int.toNat (((List.drop (Int.toNat (IntKind.wrap .i64 (y2.2.1 + y2.1))) (List.take (Int.toNat ((v1.length : Nat) : Int)) v1)).length : Nat) : Int)) (List.drop (Int.toNat (IntKind.wrap .i64 (y2.2.1 + y2.1))) (List.take (Int.toNat ((v1.length : Nat) : Int)) v1)))).length : Nat) : Int)) (List.drop (Int.toNat (IntKind.wrap .i64 (y3.2.1 + y3.1))) (List.take (Int.toNat (((List.drop (Int.toNat (IntKind.wrap .i64 (y2.2.1 + y2.1))) (List.take (Int.toNat ((v1.length : Nat) : Int)) v1)).length : Nat) : Int)) (List.drop (Int.toNat (IntKind.wrap .i64 (y2.2.1 + y2.1))) (List.take (Int.toNat ((v1.length : Nat) : Int)) v1)))))).length : Nat) : Int)) (List.drop (Int.toNat (IntKind.wrap .i64 (y4.2.1 + y4.1))) (List.take (Int.toNat (((List.drop (Int.toNat (IntKind.wrap .i64 (y3.2.1 + y3.1))) (List.take (Int.toNat (((List.drop (Int.toNat (IntKind.wrap .i64 (y2.2.1 + y2.1))) (List.take (Int.toNat ((v1.length : Nat) : Int)) v1)).length : Nat) : Int)) (List.drop (Int.toNat (IntKind.wrap .i64 (y2.2.1 + y2.1))) (List.take (Int.toNat ((v1.length : Nat) : Int)) v1)))).length : Nat) : Int)) (List.drop (Int.toNat (IntKind.wrap .i64 (y3.2.1 + y3.1))) (List.take (Int.toNat (((List.drop (Int.toNat (IntKind.wrap .i64 (y2.2.1 + y2.1))) (List.take (Int.toNat ((v1.length : Nat) : Int)) v1)).length : Nat) : Int)) (List.drop (Int.toNat (IntKind.wrap .i64 (y2.2.1 + y2.1))) (List.take (Int.toNat ((v1.length : Nat) : Int)) v1)))))))).length : Nat) : Int)))) (
                    cond (((decide (0 ≤ (IntKind.wrap .i64 (y6.2.1 + y6.1)))) && (decide ((IntKind.wrap .i64 (y6.2.1 + y6.1)) ≤ (((List.drop (Int.toNat (IntKind.wrap .i64 (y5.2.1 + y5.1))) (List.take (Int.toNat (((List.drop (Int.toNat (IntKind.wrap .i64 (y4.2.1 + y4.1))) (List.take (Int.toNat (((List.drop (Int.toNat (IntKind.wrap .i64 (y3.2.1 + y3.1))) (List.take (Int.toNat (((List.drop (Int.toNat (IntKind.wrap .i64 (y2.2.1 + y2.1))) (List.take (Int.toNat ((v1.length : Nat) : Int)) v1)).length : Nat) : Int)) (List.drop (Int.toNat (IntKind.wrap .i64 (y2.2.1 + y2.1))) (List.take (Int.toNat ((v1.length : Nat) : Int)) v1)))).length : Nat) : Int)) (List.drop (Int.toNat (IntKind.wrap .i64 (y3.2.1 + y3.1))) (List.take (Int.toNat (((List.drop (Int.toNat (IntKind.wrap .i64 (y2.2.1 + y2.1))) (List.take (Int.toNat ((v1.length : Nat) : Int)) v1)).length : Nat) : Int)) (List.drop (Int.toNat (IntKind.wrap .i64 (y2.2.1 + y2.1))) (List.take (Int.toNat ((v1.length : Nat) : Int)) v1)))))).length : Nat) : Int)) (List.drop (Int.toNat (IntKind.wrap .i64 (y4.2.1 + y4.1))) (List.take (Int.toNat (((List.drop (Int.toNat (IntKind.wrap .i64 (y3.2.1 + y3.1))) (List.take (Int.toNat (((List.drop (Int.toNat (IntKind.wrap .i64 (y2.2.1 + y2.1))) (List.take (Int.toNat ((v1.length : Nat) : Int)) v1)).length : Nat) : Int)) (List.drop (Int.toNat (IntKind.wrap .i64 (y2.2.1 + y2.1))) (List.take (Int.toNat ((v1.length : Nat) : Int)) v1)))).length : Nat) : Int)) (List.drop (Int.toNat (IntKind.wrap .i64 (y3.2.1 + y3.1))) (List.take (Int.toNat (((List.drop (Int.toNat (IntKind.wrap .i64 (y2.2.1 + y2.1))) (List.take (Int.toNat ((v1.length : Nat) : Int)) v1)).length : Nat) : Int)) (List.drop (Int.toNat (IntKind.wrap .i64 (y2.2.1 + y2.1))) (List.take (Int.toNat ((v1.length : Nat) : Int)) v1)))))))).length : Nat) : Int)))) && (decide ((((List.drop (Int.toNat (IntKind.wrap .i64 (y5.2.1 + y5.1))) (List.take (Int.toNat (((List.drop (Int.toNat (IntKind.wrap .i64 (y4.2.1 + y4.1))) (List.take (Int.toNat (((List.drop (Int.toNat (IntKind.wrap .i64 (y3.2.1 + y3.1))) (List.take (Int.toNat (((List.drop (Int.toNat (IntKind.wrap .i64 (y2.2.1 + y2.1))) (List.take (Int.toNat ((v1.length : Nat) : Int)) v1)).length : Nat) : Int)) (List.drop (Int.toNat (IntKind.wrap .i64 (y2.2.1 + y2.1))) (List.take (Int.toNat ((v1.length : Nat) : Int)) v1)))).length : Nat) : Int)) (List.drop (Int.toNat (IntKind.wrap .i64 (y3.2.1 + y3.1))) (List.take (Int.toNat (((List.drop (Int.toNat (IntKind.wrap .i64 (y2.2.1 + y2.1))) (List.take (Int.toNat ((v1.length : Nat) : Int)) v1)).length : Nat) : Int)) (List.drop (Int.toNat (IntKind.wrap .i64 (y2.2.1 + y2.1))) (List.take (Int.toNat ((v1.length : Nat) : Int)) v1)))))).length : Nat) : Int)) (List.drop (Int.toNat (IntKind.wrap .i64 (y4.2.1 + y4.1))) (List.take (Int.toNat (((List.drop (Int.toNat (IntKind.wrap .i64 (y3.2.1 + y3.1))) (List.take (Int.toNat (((List.drop (Int.toNat (IntKind.wrap .i64 (y2.2.1 + y2.1))) (List.take (Int.toNat ((v1.length : Nat) : Int)) v1)).length : Nat) : Int)) (List.drop (Int.toNat (IntKind.wrap .i64 (y2.2.1 + y2.1))) (List.take (Int.toNat ((v1.length : Nat) : Int)) v1)))).length : Nat) : Int)) (List.drop (Int.toNat (IntKind.wrap .i64 (y3.2.1 + y3.1))) (List.take (Int.toNat (((List.drop (Int.toNat (IntKind.wrap .i64 (y2.2.1 + y2.1))) (List.take (Int.toNat ((v1.length : Nat) : Int)) v1)).length : Nat) : Int)) (List.drop (Int.toNat (IntKind.wrap .i64 (y2.2.1 + y2.1))) (List.take (Int.toNat ((v1.length : Nat) : Int)) v1)))))))).length : Nat) : Int) ≤ (((List.drop (Int.toNat (IntKind.wrap .i64 (y5.2.1 + y5.1))) (List.take (Int.toNat (((List.drop (Int.toNat (IntKind.wrap .i64 (y4.2.1 + y4.1))) (List.take (Int.toNat (((List.drop (Int.toNat (IntKind.wrap .i64 (y3.2.1 + y3.1))) (List.take (Int.toNat (((List.drop (Int.toNat (IntKind.wrap .i64 (y2.2.1 + y2.1))) (List.take (Int.toNat ((v1.length : Nat) : Int)) v1)).length : Nat) : Int)) (List.drop (Int.toNat (IntKind.wrap .i64 (y2.2.1 + y2.1))) (List.take (Int.toNat ((v1.length : Nat) : Int)) v1)))).length : Nat) : Int)) (List.drop (Int.toNat (IntKind.wrap .i64 (y3.2.1 + y3.1))) (List.take (Int.toNat (((List.drop (Int.toNat (IntKind.wrap .i64 (y2.2.1 + y2.1))) (List.take (Int.toNat ((v1.length : Nat) : Int)) v1)).length : Nat) : Int)) (List.drop (Int.toNat (IntKind.wrap .i64 (y2.2.1 + y2.1))) (List.take (Int.toNat ((v1.length : Nat) : Int)) v1)))))).length : Nat) : Int)) (List.drop (Int.toNat (IntKind.wrap .i64 (y4.2.1 + y4.1))) (List.take (Int.toNat (((List.drop (Int.toNat (IntKind.wrap .i64 (y3.2.1 + y3.1))) (List.take (Int.toNat (((List.drop (Int.toNat (IntKind.wrap .i64 (y2.2.1 + y2.1))) (List.take (Int.toNat ((v1.length : Nat) : Int)) v1)).length : Nat) : Int)) (List.drop (Int.toNat (IntKind.wrap .i64 (y2.2.1 + y2.1))) (List.take (Int.toNat ((v1.length : Nat) : Int)) v1)))).length : Nat) : Int)) (List.drop (Int.toNat (IntKind.wrap .i64 (y3.2.1 + y3.1))) (List.take (Int.toNat (((List.drop (Int.toNat (IntKind.wrap .i64 (y2.2.1 + y2.1))) (List.take (Int.toNat ((v1.length : Nat) : Int)) v1)).length : Nat) : Int)) (List.drop (Int.toNat (IntKind.wrap .i64 (y2.2.1 + y2.1))) (List.take (Int.toNat ((v1.length : Nat) : Int)) v1)))))))).length : Nat) : Int)))) (
                     some (((List.drop (Int.toNat y2.2.1) (List.take (Int.toNat (IntKind.wrap .i64 (y2.2.1 + y2.1))) v1)), ((List.drop (Int.toNat y3.2.1) (List.take (Int.toNat (IntKind.wrap .i64 (y3.2.1 + y3.1))) (List.drop (Int.toNat (IntKind.wrap .i64 (y2.2.1 + y2.1))) (List.take (Int.toNat ((v1.length : Nat) : Int)) v1)))), ((List.drop (Int.toNat y4.2.1) (List.take (Int.toNat (IntKind.wrap .i64 (y4.2.1 + y4.1))) (List.drop (Int.toNat (IntKind.wrap .i64 (y3.2.1 + y3.1))) (List.take (Int.toNat (((List.drop (Int.toNat (IntKind.wrap .i64 (y2.2.1 + y2.1))) (List.take (Int.toNat ((v1.length : Nat) : Int)) v1)).length : Nat) : Int)) (List.drop (Int.toNat (IntKind.wrap .i64 (y2.2.1 + y2.1))) (List.take (Int.toNat ((v1.length : Nat) : Int)) v1)))))), ((List.drop (Int.toNat y5.2.1) (List.take (Int.toNat (IntKind.wrap .i64 (y5.2.1 + y5.1))) (List.drop (Int.toNat (IntKind.wrap .i64 (y4.2.1 + y4.1))) (List.take (Int.toNat (((List.drop (Int.toNat (IntKind.wrap .i64 (y3.2.1 + y3.1))) (List.take (Int.toNat (((List.drop (Int.toNat (IntKind.wrap .i64 (y2.2.1 + y2.1))) (List.take (Int.toNat ((v1.length : Nat) : Int)) v1)).length : Nat) : Int)) (List.drop (Int.toNat (IntKind.wrap .i64 (y2.2.1 + y2.1))) (List.take (Int.toNat ((v1.length : Nat) : Int)) v1)))).length : Nat) : Int)) (List.drop (Int.toNat (IntKind.wrap .i64 (y3.2.1 + y3.1))) (List.take (Int.toNat (((List.drop (Int.toNat (IntKind.wrap .i64 (y2.2.1 + y2.1))) (List.take (Int.toNat ((v1.length : Nat) : Int)) v1)).length : Nat) : Int)) (List.drop (Int.toNat (IntKind.wrap .i64 (y2.2.1 + y2.1))) (List.take (Int.toNat ((v1.length : Nat) : Int)) v1)))))))), (List.drop (Int.toNat y6.2.1) (List.take (Int.toNat (IntKind.wrap .i64 (y6.2.1 + y6.1))) (List.drop (Int.toNat (IntKind.wrap .i64 (y5.2.1 + y5.1))) (List.take (Int.toNat (((List.drop (Int.toNat (IntKind.wrap .i64 (y4.2.1 + y4.1))) (List.take (Int.toNat (((List.drop (Int.toNat (IntKind.wrap .i64 (y3.2.1 + y3.1))) (List.take (Int.toNat (((List.drop (Int.toNat (IntKind.wrap .i64 (y2.2.1 + y2.1))) (List.take (Int.toNat ((v1.length : Nat) : Int)) v1)).length : Nat) : Int)) (List.drop (Int.toNat (IntKind.wrap .i64 (y2.2.1 + y2.1))) (List.take (Int.toNat ((v1.length : Nat) : Int)) v1)))).length : Nat) : Int)) (List.drop (Int.toNat (IntKind.wrap .i64 (y3.2.1 + y3.1))) (List.take (Int.toNat (((List.drop (Int.toNat (IntKind.wrap .i64 (y2.2.1 + y2.1))) (List.take (Int.toNat ((v1.length : Nat) : Int)) v1)).length : Nat) : Int)) (List.drop (Int.toNat (IntKind.wrap .i64 (y2.2.1 + y2.1))) (List.take (Int.toNat ((v1.length : Nat) : Int)) v1)))))).length : Nat) : Int)) (List.drop (Int.toNat (IntKind.wrap .i64 (y4.2.1 + y4.1))) (List.take (Int.toNat (((List.drop (Int.toNat (IntKind.wrap .i64 (y3.2.1 + y3.1))) (List.take (Int.toNat (((List.drop (Int.toNat (IntKind.wrap .i64 (y2.2.1 + y2.1))) (List.take (Int.toNat ((v1.length : Nat) : Int)) v1)).length : Nat) : Int)) (List.drop (Int.toNat (IntKind.wrap .i64 (y2.2.1 + y2.1))) (List.take (Int.toNat ((v1.length : Nat) : Int)) v1)))).length : Nat) : Int)) (List.drop (Int.toNat (IntKind.wrap .i64 (y3.2.1 + y3.1))) (List.take (Int.toNat (((List.drop (Int.toNat (IntKind.wrap .i64 (y2.2.1 + y2.1))) (List.take (Int.toNat ((v1.length : Nat) : Int)) v1)).length : Nat) : Int)) (List.drop (Int.toNat (IntKind.wrap .i64 (y2.2.1 + y2.1))) (List.take (Int.toNat ((v1.length : Nat) : Int)) v1)))))))))))))), ((decide ((((List.drop (Int.toNat (IntKind.wrap .i64 (y6.2.1 + y6.1))) (List.take (Int.toNat (((List.drop (Int.toNat (IntKind.wrap .i64 (y5.2.1 + y5.1))) (List.take (Int.toNat (((List.drop (Int.toNat (IntKind.wrap .i64 (y4.2.1 + y4.1))) (List.take (Int.toNat (((List.drop (Int.toNat (IntKind.wrap .i64 (y3.2.1 + y3.1))) (List.take (Int.toNat (((List.drop (Int.toNat (IntKind.wrap .i64 (y2.2.1 + y2.1))) (List.take (Int.toNat ((v1.length : Nat) : Int)) v1)).length : Nat) : Int)) (List.drop (Int.toNat (IntKind.wrap .i64 (y2.2.1 + y2.1))) (List.take (Int.toNat ((v1.length : Nat) : Int)) v1)))).length : Nat) : Int)) (List.drop (Int.toNat (IntKind.wrap .i64 (y3.2.1 + y3.1))) (List.take (Int.toNat (((List.drop (Int.toNat (IntKind.wrap .i64 (y2.2.1 + y2.1))) (List.take (Int.toNat ((v1.length : Nat) : Int)) v1)).length : Nat) : Int)) (List.drop (Int.toNat (IntKind.wrap .i64 (y2.2.1 + y2.1))) (List.take (Int.toNat ((v1.length : Nat) : Int)) v1)))))).length : Nat) : Int)) (List.drop (Int.toNat (IntKind.wrap .i64 (y4.2.1 + y4.1))) (List.take (Int.toNat (((List.drop (Int.toNat (IntKind.wrap .i64 (y3.2.1 + y3.1))) (List.take (Int.toNat (((List.drop (Int.toNat (IntKind.wrap .i64 (y2.2.1 + y2.1))) (List.take (Int.toNat ((v1.length : Nat) : Int)) v1)).length : Nat) : Int)) (List.drop (Int.toNat (IntKind.wrap .i64 (y2.2.1 + y2.1))) (List.take (Int.toNat ((v1.length : Nat) : Int)) v1)))).length : Nat) : Int)) (List.drop (Int.toNat (IntKind.wrap .i64 (y3.2.1 + y3.1))) (List.take (Int.toNat (((List.drop (Int.toNat (IntKind.wrap .i64 (y2.2.1 + y2.1))) (List.take (Int.toNat ((v1.length : Nat) : Int)) v1)).length : Nat) : Int)) (List.drop (Int.toNat (IntKind.wrap .i64 (y2.2.1 + y2.1))) (List.take (Int.toNat ((v1.length : Nat) : Int)) v1)))))))).length : Nat) : Int)) (List.drop (Int.toNat (IntKind.wrap .i64 (y5.2.1 + y5.1))) (List.take (Int.toNat (((List.drop (Int.toNat (IntKind.wrap .i64 (y4.2.1 + y4.1))) (List.take (Int.toNat (((List.drop (Int.toNat (IntKind.wrap .i64 (y3.2.1 + y3.1))) (List.take (Int.toNat (((List.drop (Int.toNat (IntKind.wrap .i64 (y2.2.1 + y2.1))) (List.take (Int.toNat ((v1.length : Nat) : Int)) v1)).length : Nat) : Int)) (List.drop (Int.toNat (IntKind.wrap .i64 (y2.2.1 + y2.1))) (List.take (Int.toNat ((v1.length : Nat) : Int)) v1)))).length : Nat) : Int)) (List.drop (Int.toNat (IntKind.wrap .i64 (y3.2.1 + y3.1))) (List.take (Int.toNat (((List.drop (Int.toNat (IntKind.wrap .i64 (y2.2.1 + y2.1))) (List.take (Int.toNat ((v1.length : Nat) : Int)) v1)).length : Nat) : Int)) (List.drop (Int.toNat (IntKind.wrap .i64 (y2.2.1 + y2.1))) (List.take (Int.toNat ((v1.length : Nat) : Int)) v1)))))).length : Nat) : Int)) (List.drop (Int.toNat (IntKind.wrap .i64 (y4.2.1 + y4.1))) (List.take (Int.toNat (((List.drop (Int.toNat (IntKind.wrap .i64 (y3.2.1 + y3.1))) (List.take (Int.toNat (((List.drop (Int.toNat (IntKind.wrap .i64 (y2.2.1 + y2.1))) (List.take (Int.toNat ((v1.length : Nat) : Int)) v1)).length : Nat) : Int)) (List.drop (Int.toNat (IntKind.wrap .i64 (y2.2.1 + y2.1))) (List.take (Int.toNat ((v1.length : Nat) : Int)) v1)))).length : Nat) : Int)) (List.drop (Int.toNat (IntKind.wrap .i64 (y3.2.1 + y3.1))) (List.take (Int.toNat (((List.drop (Int.toNat (IntKind.wrap .i64 (y2.2.1 + y2.1))) (List.take (Int.toNat ((v1.length : Nat) : Int)) v1)).length : Nat) : Int)) (List.drop (Int.toNat (IntKind.wrap .i64 (y2.2.1 + y2.1))) (List.take (Int.toNat ((v1.length : Nat) : Int)) v1)))))))))).length : Nat) : Int) = 0)), ()))) (
                     none)) (
                    none)))) (
                 none)) (
                none)))) (
             none)) (
            none)))) (
         none)) (
        none)))) (
     none)) (
    none)))
abbrev X31_98_1_0 : Type := (Unit × Unit × Int × Unit) × ((Unit × Unit) × (Bool × Unit) × ((List Int) × Unit) × (Unit × Unit × Unit × Unit × Unit × Unit × Unit × Unit × Unit × Unit × Unit × Unit × Unit × Unit × Unit × Unit × Unit × Unit × Unit × Unit × Unit × Unit × Unit × Unit × Unit × Unit × Unit) × Unit) × ((List Int) × Unit)
abbrev Y31_98_1_0 : Type := (Unit) × ((Unit × Unit) × (Bool × Unit) × ((List Int) × Unit) × (Unit × Unit × Unit × Unit × Unit × Unit × Unit × Unit × Unit × Unit × Unit × Unit × Unit × Unit × Unit × Unit × Unit × Unit × Unit × Unit × Unit × Unit × Unit × Unit × Unit × Unit × Unit) × Unit) × ((List Int) × Unit)
abbrev Z31_98_1_0 : Type := (Unit) × ((Unit × Unit) × (Bool × Unit) × ((List Int) × Unit) × (Unit × Unit × Unit × Unit × Unit × Unit × Unit × Unit × Unit × Unit × Unit × Unit × Unit × Unit × Unit × Unit × Unit × Unit × Unit × Unit × Unit × Unit × Unit × Unit × Unit × Unit × Unit) × Unit) × ((List Int) × Unit)
noncomputable def t31_98_1_0 (v1 : Int) (v2 : Bool) (v3 : (List Int)) (v4 : (List Int)) : Option (R3 X31_98_1_0 Y31_98_1_0 Z31_98_1_0) :=
 cond (decide (v1 < ((v3.length : Nat) : Int))) (
  ((f97 v3 v1)).bind fun y5 =>
  cond (decide (y5.2.1 = (-1))) (
   some (R3.ret ((), ((((), ()), ((false, ()), ((v3, ()), (((), ((), ((), ((), ((), ((), ((), ((), ((), ((), ((), ((), ((), ((), ((), ((), ((), ((), ((), ((), ((), ((), ((), ((), ((), ((), ())))))))))))))))))))))))))), ())))), (v4, ()))))) (
   cond (decide (((v4.length : Nat) : Int) = 400)) (
    some (R3.ret ((), ((((), ()), ((false, ()), ((v3, ()), (((), ((), ((), ((), ((), ((), ((), ((), ((), ((), ((), ((), ((), ((), ((), ((), ((), ((), ((), ((), ((), ((), ((), ((), ((), ((), ())))))))))))))))))))))))))), ())))), (v4, ()))))) (
    cond ((decide (((v4.length + 1) * 8) ≤ 140737488355328)) && (decide ((v4.length + 1) ≤ 9223372036854775807))) (
     cond (decide (y5.2.1 = (-1))) (
      none) (
      some (R3.next (((), ((), (y5.2.1, ()))), ((((), ()), ((v2, ()), ((v3, ()), (((), ((), ((), ((), ((), ((), ((), ((), ((), ((), ((), ((), ((), ((), ((), ((), ((), ((), ((), ((), ((), ((), ((), ((), ((), ((), ())))))))))))))))))))))))))), ())))), ((v4 ++ [y5.1]), ())))))) (
     none)))) (
  some (R3.out ((), ((((), ()), ((v2, ()), ((v3, ()), (((), ((), ((), ((), ((), ((), ((), ((), ((), ((), ((), ((), ((), ((), ((), ((), ((), ((), ((), ((), ((), ((), ((), ((), ((), ((), ())))))))))))))))))))))))))), ())))), (v4, ())))))
noncomputable def u31_98_1_0 (z : X31_98_1_0) : Option (R3 X31_98_1_0 Y31_98_1_0 Z31_98_1_0) := t31_98_1_0 z.1.2.2.1 z.2.1.2.1.1 z.2.1.2.2.1.1 z.2.2.1
noncomputable def f31 (v1 : (List Int)) : Option ((List Int) × (Bool × Unit)) :=
 ((iter big u31_98_1_0 (((), ((), (0, ()))), ((((), ()), ((true, ()), ((v1, ()), (((), ((), ((), ((), ((), ((), ((), ((), ((), ((), ((), ((), ((), ((), ((), ((), ((), ((), ((), ((), ((), ((), ((), ((), ((), ((), ())))))))))))))))))))))))))), ())))), ([], ()))))).bind fun r => match r with
 | .inl y2 =>
   cond (!y2.2.1.2.1.1) (
    some ([], (false, ()))) (
    some (y2.2.2.1, (true, ())))
 | .inr z3 =>
   cond (!z3.2.1.2.1.1) (
    some ([], (false, ()))) (
    some (z3.2.2.1, (true, ())))
abbrev X33_7 : Type := ((List Int) × Int × Int × Int × Int × Int × Unit) × (Unit) × ((List Int) × Unit)
abbrev X33_8 : Type := ((List Int) × Int × Int × Int × Int × Int × Unit) × (Unit) × ((List Int) × Unit)
abbrev Y33_8 : Type := ((List Int) × Int × Int × Int × Int × Int × Unit) × (Unit) × ((List Int) × Unit)
abbrev Z33_8 : Type := Unit × Unit × Unit
noncomputable def t33_8 (v1 : (List Int)) (v2 : Int) (v3 : Int) (v4 : Int) (v5 : Int) (v6 : Int) (v7 : (List Int)) : Option (R3 X33_8 Y33_8 Z33_8) :=
 cond (decide (v4 < v2)) (
  cond (decide (0 < ((v1.length : Nat) : Int))) (
   cond (!(decide (v4 < 0))) (
    cond ((decide (1 ≤ ((v1.length : Nat) : Int))) && (decide (((v1.length : Nat) : Int) ≤ ((v1.length : Nat) : Int)))) (
     some (R3.next (((List.drop 1 (List.take (Int.toNat ((v1.length : Nat) : Int)) v1)), (v2, ((bitop .or .u64 v3 (IntKind.wrap .u64 ((IntKind.wrap .u64 (rd (.int .u8) v1 0)) * ((2 : Int) ^ ((min (Int.toNat v4) 64) : Nat))))), ((IntKind.wrap .i64 (v4 + 8)), (v5, (v6, ())))))), ((), (v7, ()))))) (
     none)) (
    none)) (
   none)) (
  cond (!(decide (v2 < 0))) (
   cond ((decide (((v7.length + 1) * 8) ≤ 140737488355328)) && (decide ((v7.length + 1) ≤ 9223372036854775807))) (
    cond (!(decide (v2 < 0))) (
     some (R3.out ((v1, (v2, ((Int.fdiv v3 ((2 : Int) ^ ((min (Int.toNat v2) 64) : Nat))), ((IntKind.wrap .i64 (v4 - v2)), (v5, (v6, ())))))), ((), ((v7 ++ [(IntKind.wrap .i64 (bitop .and .u64 v3 (IntKind.wrap .u64 ((IntKind.wrap .u64 (1 * ((2 : Int) ^ ((min (Int.toNat v2) 64) : Nat)))) - 1))))]), ()))))) (
     none)) (
    none)) (
   none))
noncomputable def u33_8 (z : X33_8) : Option (R3 X33_8 Y33_8 Z33_8) := t33_8 z.1.1 z.1.2.1 z.1.2.2.1 z.1.2.2.2.1 z.1.2.2.2.2.1 z.1.2.2.2.2.2.1 z.2.2.1
abbrev Y33_7 : Type := (Int × Unit) × (Unit) × ((List Int) × Unit)
abbrev Z33_7 : Type := Unit × Unit × Unit
noncomputable def t33_7 (v1 : (List Int)) (v2 : Int) (v3 : Int) (v4 : Int) (v5 : Int) (v6 : Int) (v7 : (List Int)) : Option (R3 X33_7 Y33_7 Z33_7) :=
 cond (decide (v6 < v5)) (
  ((iter big u33_8 ((v1, (v2, (v3, (v4, (v5, (v6, ())))))), ((), (v7, ()))))).bind fun r => match r with
  | .inl y8 =>
    some (R3.next ((y8.1.1, (y8.1.2.1, (y8.1.2.2.1, (y8.1.2.2.2.1, (y8.1.2.2.2.2.1, ((IntKind.wrap .i64 (y8.1.2.2.2.2.2.1 + 1)), ())))))), ((), (y8.2.2.1, ()))))
  | .inr z9 =>
    some (R3.ret ((), ((), ())))) (
  some (R3.out ((v3, ()), ((), (v7, ())))))
noncomputable def u33_7 (z : X33_7) : Option (R3 X33_7 Y33_7 Z33_7) := t33_7 z.1.1 z.1.2.1 z.1.2.2.1 z.1.2.2.2.1 z.1.2.2.2.2.1 z.1.2.2.2.2.2.1 z.2.2.1
noncomputable def f33 (v1 : (List Int)) (v2 : Int) (v3 : Int) : Option ((List Int) × (Bool × Unit)) :=
 ((f55 v2 v3)).bind fun y4 =>
 cond (!(decide (y4.1 = ((v1.length : Nat) : Int)))) (
  some ([], (false, ()))) (
  ((iter big u33_7 ((v1, (v3, (0, (0, (v2, (0, ())))))), ((), ([], ()))))).bind fun r => match r with
  | .inl y5 =>
    cond (!(decide (y5.1.1 = 0))) (
     some ([], (false, ()))) (
     some (y5.2.2.1, (true, ())))
  | .inr z6 =>
    none)
noncomputable def f65 (v1 : Int) : Option (Int × Unit) :=
 cond (decide (v1 < 0)) (
  some (0, ())) (
  cond (decide (549755813888 < v1)) (
   some (0, ())) (
   some ((bitop .xor .i64 (Int.fdiv v1 2) (IntKind.wrap .i64 (0 - (bitop .and .i64 v1 1)))), ())))
abbrev X34_8 : Type := ((List Int) × Unit × Unit × Int × Int × Unit) × ((Int × Unit) × Unit) × ((List Int) × Unit)
abbrev Y34_8 : Type := (Unit) × (Unit) × ((List Int) × Unit)
abbrev Z34_8 : Type := (Bool × Unit) × (Unit) × ((List Int) × Unit)
noncomputable def t34_8 (v1 : (List Int)) (v2 : Int) (v3 : Int) (v4 : Int) (v5 : (List Int)) : Option (R3 X34_8 Y34_8 Z34_8) :=
 cond (decide (v3 < v2)) (
  cond ((decide (0 ≤ v3)) && (decide (v3 < ((v1.length : Nat) : Int)))) (
   ((f65 (rd (.int .i64) v1 (Int.toNat v3)))).bind fun y6 =>
   cond (decide ((rd (.int .i64) v1 (Int.toNat v3)) ≤ 549755813888)) (
    ((f60 (IntKind.wrap .i64 (v4 + y6.1)))).bind fun y7 =>
    cond (!y7.1) (
     some (R3.ret ((false, ()), ((), ([], ()))))) (
     cond ((decide (((v5.length + 1) * 8) ≤ 140737488355328)) && (decide ((v5.length + 1) ≤ 9223372036854775807))) (
      some (R3.next ((v1, ((), ((), (v2, ((IntKind.wrap .i64 (v3 + 1)), ()))))), ((((IntKind.wrap .i64 (v4 + y6.1)), ()), ()), ((v5 ++ [(IntKind.wrap .i64 (v4 + y6.1))]), ()))))) (
      none))) (
    some (R3.ret ((false, ()), ((), ([], ())))))) (
   none)) (
  some (R3.out ((), ((), (v5, ())))))
noncomputable def u34_8 (z : X34_8) : Option (R3 X34_8 Y34_8 Z34_8) := t34_8 z.1.1 z.1.2.2.2.1 z.1.2.2.2.2.1 z.2.1.1.1 z.2.2.1
noncomputable def f34 (v1 : (List Int)) : Option ((List Int) × (Bool × Unit)) :=
 ((f31 v1)).bind fun y2 =>
 cond (!y2.2.1) (
  some ([], (false, ()))) (
  ((iter big u34_8 ((y2.1, ((), ((), (((y2.1.length : Nat) : Int), (0, ()))))), (((0, ()), ()), ([], ()))))).bind fun r => match r with
  | .inl y3 =>
    some (y3.2.2.1, (true, ()))
  | .inr z4 =>
    some (z4.2.2.1, (z4.1.1, ())))
abbrev X12_63_1_0 : Type := (Unit × Unit × Unit × Int × Unit) × ((Int × Int × Int × Int × Int × Int × Int × Int × Int × Int × Int × Bool × Int × Unit × Unit × Unit × Unit) × ((List Int) × (List Int) × (List Int) × (List Int) × (List Int) × Unit) × (Int × Int × Int × Int × Int × Int × Int × Int × Int × Int × Int × Bool × Int × Unit × Unit × Unit × Unit) × ((List Int) × Unit) × (Int × Unit) × (Unit × Unit × Unit × Unit × Unit × Unit × Unit × Unit × Unit × Unit × Unit × Unit × Unit × Unit × Unit × Unit × Unit × Unit × Unit × Unit × Unit × Unit × Unit × Unit × Unit × Unit × Unit × Unit × Unit × Unit × Unit × Unit × Unit × Unit × Unit × Unit × Unit × Unit × Unit × Unit × Unit × Unit × Unit × Unit × Unit × Unit × Unit × Unit × Unit × Unit × Unit × Unit × Unit × Unit × Unit × Unit × Unit × Unit × Unit × Unit × Unit × Unit × Unit × Unit × Unit × Unit × Unit × Unit × Unit × Unit × Unit × Unit × Unit × Unit × Unit × Unit × Unit × Unit × Unit × Unit × Unit × Unit × Unit × Unit × Unit × Unit × Unit × Unit × Unit × Unit × Unit × Unit × Unit × Unit × Unit × Unit × Unit × Unit × Unit × Unit × Unit × Unit × Unit × Unit × Unit × Unit × Unit × Unit × Unit × Unit × Unit × Unit × Unit × Unit × Unit × Unit × Unit × Unit × Unit × Unit × Unit × Unit × Unit × Unit × Unit × Unit × Unit × Unit × Unit × Unit × Unit × Unit × Unit × Unit × Unit × Unit × Unit × Unit × Unit × Unit × Unit × Unit × Unit × Unit × Unit × Unit × Unit × Unit × Unit × Unit × Unit × Unit × Unit × Unit × Unit × Unit × Unit × Unit × Unit × Unit × Unit × Unit × Unit × Unit × Unit × Unit × Unit × Unit × Unit × Unit × Unit × Unit × Unit × Unit × Unit × Unit × Unit × Unit × Unit × Unit × Unit × Unit × Unit × Unit × Unit × Unit × Unit × Unit × Unit × Unit × Unit × Unit × Unit × Unit × Unit × Unit × Unit × Unit × Unit × Unit × Unit × Unit × Unit × Unit × Unit × Unit × Unit × Unit × Unit × Unit × Unit × Unit × Unit × Unit × Unit × Unit × Unit × Unit × Unit × Unit × Unit × Unit × Unit × Unit × Unit × Unit × Unit × Unit × Unit × Unit × Unit × Unit × Unit × Unit × Unit × Unit × Unit × Unit) × Unit) × ((List (Int × (Int × Int))) × (List (Int × (Int × (Int × (Int × Int))))) × (List (Int × (Int × Int))) × (List (Int × (Int × Int))) × (List (Int × (Int × (Int × (Int × Int))))) × (List (Int × (Int × Int))) × Unit)
abbrev Y12_63_1_0 : Type := (Unit) × ((Int × Int × Int × Int × Int × Int × Int × Int × Int × Int × Int × Bool × Int × Unit × Unit × Unit × Unit) × ((List Int) × (List Int) × (List Int) × (List Int) × (List Int) × Unit) × (Int × Int × Int × Int × Int × Int × Int × Int × Int × Int × Int × Bool × Int × Unit × Unit × Unit × Unit) × ((List Int) × Unit) × (Int × Unit) × (Unit × Unit × Unit × Unit × Unit × Unit × Unit × Unit × Unit × Unit × Unit × Unit × Unit × Unit × Unit × Unit × Unit × Unit × Unit × Unit × Unit × Unit × Unit × Unit × Unit × Unit × Unit × Unit × Unit × Unit × Unit × Unit × Unit × Unit × Unit × Unit × Unit × Unit × Unit × Unit × Unit × Unit × Unit × Unit × Unit × Unit × Unit × Unit × Unit × Unit × Unit × Unit × Unit × Unit × Unit × Unit × Unit × Unit × Unit × Unit × Unit × Unit × Unit × Unit × Unit × Unit × Unit × Unit × Unit × Unit × Unit × Unit × Unit × Unit × Unit × Unit × Unit × Unit × Unit × Unit × Unit × Unit × Unit × Unit × Unit × Unit × Unit × Unit × Unit × Unit × Unit × Unit × Unit × Unit × Unit × Unit × Unit × Unit × Unit × Unit × Unit × Unit × Unit × Unit × Unit × Unit × Unit × Unit × Unit × Unit × Unit × Unit × Unit × Unit × Unit × Unit × Unit × Unit × Unit × Unit × Unit × Unit × Unit × Unit × Unit × Unit × Unit × Unit × Unit × Unit × Unit × Unit × Unit × Unit × Unit × Unit × Unit × Unit × Unit × Unit × Unit × Unit × Unit × Unit × Unit × Unit × Unit × Unit × Unit × Unit × Unit × Unit × Unit × Unit × Unit × Unit × Unit × Unit × Unit × Unit × Unit × Unit × Unit × Unit × Unit × Unit × Unit × Unit × Unit × Unit × Unit × Unit × Unit × Unit × Unit × Unit × Unit × Unit × Unit × Unit × Unit × Unit × Unit × Unit × Unit × Unit × Unit × Unit × Unit × Unit × Unit × Unit × Unit × Unit × Unit × Unit × Unit × Unit × Unit × Unit × Unit × Unit × Unit × Unit × Unit × Unit × Unit × Unit × Unit × Unit × Unit × Unit × Unit × Unit × Unit × Unit × Unit × Unit × Unit × Unit × Unit × Unit × Unit × Unit × Unit × Unit × Unit × Unit × Unit × Unit × Unit × Unit × Unit × Unit × Unit × Unit × Unit × Unit) × Unit) × ((List (Int × (Int × Int))) × (List (Int × (Int × (Int × (Int × Int))))) × (List (Int × (Int × Int))) × (List (Int × (Int × Int))) × (List (Int × (Int × (Int × (Int × Int))))) × (List (Int × (Int × Int))) × Unit)
abbrev Z12_63_1_0 : Type := (Unit) × ((Int × Int × Int × Int × Int × Int × Int × Int × Int × Int × Int × Bool × Int × Unit × Unit × Unit × Unit) × ((List Int) × (List Int) × (List Int) × (List Int) × (List Int) × Unit) × (Int × Int × Int × Int × Int × Int × Int × Int × Int × Int × Int × Bool × Int × Unit × Unit × Unit × Unit) × ((List Int) × Unit) × (Int × Unit) × (Unit × Unit × Unit × Unit × Unit × Unit × Unit × Unit × Unit × Unit × Unit × Unit × Unit × Unit × Unit × Unit × Unit × Unit × Unit × Unit × Unit × Unit × Unit × Unit × Unit × Unit × Unit × Unit × Unit × Unit × Unit × Unit × Unit × Unit × Unit × Unit × Unit × Unit × Unit × Unit × Unit × Unit × Unit × Unit × Unit × Unit × Unit × Unit × Unit × Unit × Unit × Unit × Unit × Unit × Unit × Unit × Unit × Unit × Unit × Unit × Unit × Unit × Unit × Unit × Unit × Unit × Unit × Unit × Unit × Unit × Unit × Unit × Unit × Unit × Unit × Unit × Unit × Unit × Unit × Unit × Unit × Unit × Unit × Unit × Unit × Unit × Unit × Unit × Unit × Unit × Unit × Unit × Unit × Unit × Unit × Unit × Unit × Unit × Unit × Unit × Unit × Unit × Unit × Unit × Unit × Unit × Unit × Unit × Unit × Unit × Unit × Unit × Unit × Unit × Unit × Unit × Unit × Unit × Unit × Unit × Unit × Unit × Unit × Unit × Unit × Unit × Unit × Unit × Unit × Unit × Unit × Unit × Unit × Unit × Unit × Unit × Unit × Unit × Unit × Unit × Unit × Unit × Unit × Unit × Unit × Unit × Unit × Unit × Unit × Unit × Unit × Unit × Unit × Unit × Unit × Unit × Unit × Unit × Unit × Unit × Unit × Unit × Unit × Unit × Unit × Unit × Unit × Unit × Unit × Unit × Unit × Unit × Unit × Unit × Unit × Unit × Unit × Unit × Unit × Unit × Unit × Unit × Unit × Unit × Unit × Unit × Unit × Unit × Unit × Unit × Unit × Unit × Unit × Unit × Unit × Unit × Unit × Unit × Unit × Unit × Unit × Unit × Unit × Unit × Unit × Unit × Unit × Unit × Unit × Unit × Unit × Unit × Unit × Unit × Unit × Unit × Unit × Unit × Unit × Unit × Unit × Unit × Unit × Unit × Unit × Unit × Unit × Unit × Unit × Unit × Unit × Unit × Unit × Unit × Unit × Unit × Unit × Unit) × Unit) × ((List (Int × (Int × Int))) × (List (Int × (Int × (Int × (Int × Int))))) × (List (Int × (Int × Int))) × (List (Int × (Int × Int))) × (List (Int × (Int × (Int × (Int × Int))))) × (List (Int × (Int × Int))) × Unit)
noncomputable def t12_63_1_0 (v1 : Int) (v2 : Int) (v3 : Int) (v4 : Int) (v5 : Int) (v6 : Int) (v7 : Int) (v8 : Int) (v9 : Int) (v10 : Int) (v11 : Int) (v12 : Int) (v13 : Bool) (v14 : Int) (v15 : (List Int)) (v16 : (List Int)) (v17 : (List Int)) (v18 : (List Int)) (v19 : (List Int)) (v20 : Int) (v21 : Int) (v22 : Int) (v23 : Int) (v24 : Int) (v25 : Int) (v26 : Int) (v27 : Int) (v28 : Int) (v29 : Int) (v30 : Int) (v31 : Bool) (v32 : Int) (v33 : (List Int)) (v34 : Int) (v35 : (List (Int × (Int × Int)))) (v36 : (List (Int × (Int × (Int × (Int × Int)))))) (v37 : (List (Int × (Int × Int)))) (v38 : (List (Int × (Int × Int)))) (v39 : (List (Int × (Int × (Int × (Int × Int)))))) (v40 : (List (Int × (Int × Int)))) : Option (R3 X12_63_1_0 Y12_63_1_0 Z12_63_1_0) :=
 cond (decide (v1 < ((v33.length : Nat) : Int))) (
  cond (((decide (0 ≤ v1)) && (decide (v1 ≤ ((v33.length : Nat) : Int)))) && (decide (((v33.length : Nat) : Int) ≤ ((v33.length : Nat) : Int)))) (
   cond ((((decide (0 ≤ v1)) && (decide (v1 ≤ (IntKind.wrap .i64 (v1 + (cond (decide ((((List.drop (Int.toNat v1) (List.take (Int.toNat ((v33.length : Nat) : Int)) v33)).length : Nat) : Int) < v34)) (((List.drop (Int.toNat v1) (List.take (Int.toNat ((v33.length : Nat) : Int)) v33)).length : Nat) : Int) v34)))))) && (decide ((IntKind.wrap .i64 (v1 + (cond (decide ((((List.drop (Int.toNat v1) (List.take (Int.toNat ((v33.length : Nat) : Int)) v33)).length : Nat) : Int) < v34)) (((List.drop (Int.toNat v1) (List.take (Int.toNat ((v33.length : Nat) : Int)) v33)).length : Nat) : Int) v34))) ≤ (IntKind.wrap .i64 (v1 + (cond (decide ((((List.drop (Int.toNat v1) (List.take (Int.toNat ((v33.length : Nat) : Int)) v33)).length : Nat) : Int) < v34)) (((List.drop (Int.toNat v1) (List.take (Int.toNat ((v33.length : Nat) : Int)) v33)).length : Nat) : Int) v34)))))) && (decide ((IntKind.wrap .i64 (v1 + (cond (decide ((((List.drop (Int.toNat v1) (List.take (Int.toNat ((v33.length : Nat) : Int)) v33)).length : Nat) : Int) < v34)) (((List.drop (Int.toNat v1) (List.take (Int.toNat ((v33.length : Nat) : Int)) v33)).length : Nat) : Int) v34))) ≤ ((v33.length : Nat) : Int)))) (
    cond (decide (0 < (((List.drop (Int.toNat v1) (List.take (Int.toNat (IntKind.wrap .i64 (v1 + (cond (decide ((((List.drop (Int.toNat v1) (List.take (Int.toNat ((v33.length : Nat) : Int)) v33)).length : Nat) : Int) < v34)) (((List.drop (Int.toNat v1) (List.take (Int.toNat ((v33.length : Nat) : Int)) v33)).length : Nat) : Int) v34)))) v33)).length : Nat) : Int))) (
     cond (decide (1 < (((List.drop (Int.toNat v1) (List.take (Int.toNat (IntKind.wrap .i64 (v1 + (cond (decide ((((List.drop (Int.toNat v1) (List.take (Int.toNat ((v33.length : Nat) : Int)) v33)).length : Nat) : Int) < v34)) (((List.drop (Int.toNat v1) (List.take (Int.toNat ((v33.length : Nat) : Int)) v33)).length : Nat) : Int) v34)))) v33)).length : Nat) : Int))) (
      cond (decide (2 < (((List.drop (Int.toNat v1) (List.take (Int.toNat (IntKind.wrap .i64 (v1 + (cond (decide ((((List.drop (Int.toNat v1) (List.take (Int.toNat ((v33.length : Nat) : Int)) v33)).length : Nat) : Int) < v34)) (((List.drop (Int.toNat v1) (List.take (Int.toNat ((v33.length : Nat) : Int)) v33)).length : Nat) : Int) v34)))) v33)).length : Nat) : Int))) (
       cond ((decide (((v38.length + 1) * 24) ≤ 140737488355328)) && (decide ((v38.length + 1) ≤ 9223372036854775807))) (
        some (R3.next (((), ((), ((), ((IntKind.wrap .i64 (v1 + v34)), ())))), (((v2, (v3, (v4, (v5, (v6, (v7, (v8, (v9, (v10, (v11, (v12, (v13, (v14, ((), ((), ((), ())))))))))))))))), ((v15, (v16, (v17, (v18, (v19, ()))))), ((v20, (v21, (v22, (v23, (v24, (v25, (v26, (v27, (v28, (v29, (v30, (v31, (v32, ((), ((), ((), ())))))))))))))))), ((v33, ()), ((v34, ()), (((), ((), ((), ((), ((), ((), ((), ((), ((), ((), ((), ((), ((), ((), ((), ((), ((), ((), ((), ((), ((), ((), ((), ((), ((), ((), ((), ((), ((), ((), ((), ((), ((), ((), ((), ((), ((), ((), ((), ((), ((), ((), ((), ((), ((), ((), ((), ((), ((), ((), ((), ((), ((), ((), ((), ((), ((), ((), ((), ((), ((), ((), ((), ((), ((), ((), ((), ((), ((), ((), ((), ((), ((), ((), ((), ((), ((), ((), ((), ((), ((), ((), ((), ((), ((), ((), ((), ((), ((), ((), ((), ((), ((), ((), ((), ((), ((), ((), ((), ((), ((), ((), ((), ((), ((), ((), ((), ((), ((), ((), ((), ((), ((), ((), ((), ((), ((), ((), ((), ((), ((), ((), ((), ((), ((), ((), ((), ((), ((), ((), ((), ((), ((), ((), ((), ((), ((), ((), ((), ((), ((), ((), ((), ((), ((), ((), ((), ((), ((), ((), ((), ((), ((), ((), ((), ((), ((), ((), ((), ((), ((), ((), ((), ((), ((), ((), ((), ((), ((), ((), ((), ((), ((), ((), ((), ((), ((), ((), ((), ((), ((), ((), ((), ((), ((), ((), ((), ((), ((), ((), ((), ((), ((), ((), ((), ((), ((), ((), ((), ((), ((), ((), ((), ((), ((), ((), ((), ((), ((), ((), ((), ((), ((), ((), ((), ((), ((), ((), ((), ((), ((), ((), ((), ((), ((), ((), ((), ((), ((), ((), ((), ((), ((), ((), ((), ((), ((), ()))))))))))))))))))))))))))))))))))))))))))))))))))))))))))))))))))))))))))))))))))))))))))))))))))))))))))))))))))))))))))))))))))))))))))))))))))))))))))))))))))))))))))))))))))))))))))))))))))))))))))))))))))))))))))))))))))))))))))))), ())))))), (v35, (v36, (v37, ((v38 ++ [((rd (.int .i64) (List.drop (Int.toNat v1) (List.take (Int.toNat (IntKind.wrap .i64 (v1 + (cond (decide ((((List.drop (Int.toNat v1) (List.take (Int.toNat ((v33.length : Nat) : Int)) v33)).length : Nat) : Int) < v34)) (((List.drop (Int.toNat v1) (List.take (Int.toNat ((v33.length : Nat) : Int)) v33)).length : Nat) : Int) v34)))) v33)) 0), ((rd (.int .i64) (List.drop (Int.toNat v1) (List.take (Int.toNat (IntKind.wrap .i64 (v1 + (cond (decide ((((List.drop (Int.toNat v1) (List.take (Int.toNat ((v33.length : Nat) : Int)) v33)).length : Nat) : Int) < v34)) (((List.drop (Int.toNat v1) (List.take (Int.toNat ((v33.length : Nat) : Int)) v33)).length : Nat) : Int) v34)))) v33)) 1), (rd (.int .i64) (List.drop (Int.toNat v1) (List.take (Int.toNat (IntKind.wrap .i64 (v1 + (cond (decide ((((List.drop (Int.toNat v1) (List.take (Int.toNat ((v33.length : Nat) : Int)) v33)).length : Nat) : Int) < v34)) (((List.drop (Int.toNat v1) (List.take (Int.toNat ((v33.length : Nat) : Int)) v33)).length : Nat) : Int) v34)))) v33)) 2)))]), (v39, (v40, ())))))))))) (
        none)) (
       none)) (
      none)) (
     none)) (
    none)) (
   none)) (
  some (R3.out ((), (((v2, (v3, (v4, (v5, (v6, (v7, (v8, (v9, (v10, (v11, (v12, (v13, (v14, ((), ((), ((), ())))))))))))))))), ((v15, (v16, (v17, (v18, (v19, ()))))), ((v20, (v21, (v22, (v23, (v24, (v25, (v26, (v27, (v28, (v29, (v30, (v31, (v32, ((), ((), ((), ())))))))))))))))), ((v33, ()), ((v34, ()), (((), ((), ((), ((), ((), ((), ((), ((), ((), ((), ((), ((), ((), ((), ((), ((), ((), ((), ((), ((), ((), ((), ((), ((), ((), ((), ((), ((), ((), ((), ((), ((), ((), ((), ((), ((), ((), ((), ((), ((), ((), ((), ((), ((), ((), ((), ((), ((), ((), ((), ((), ((), ((), ((), ((), ((), ((), ((), ((), ((), ((), ((), ((), ((), ((), ((), ((), ((), ((), ((), ((), ((), ((), ((), ((), ((), ((), ((), ((), ((), ((), ((), ((), ((), ((), ((), ((), ((), ((), ((), ((), ((), ((), ((), ((), ((), ((), ((), ((), ((), ((), ((), ((), ((), ((), ((), ((), ((), ((), ((), ((), ((), ((), ((), ((), ((), ((), ((), ((), ((), ((), ((), ((), ((), ((), ((), ((), ((), ((), ((), ((), ((), ((), ((), ((), ((), ((), ((), ((), ((), ((), ((), ((), ((), ((), ((), ((), ((), ((), ((), ((), ((), ((), ((), ((), ((), ((), ((), ((), ((), ((), ((), ((), ((), ((), ((), ((), ((), ((), ((), ((), ((), ((), ((), ((), ((), ((), ((), ((), ((), ((), ((), ((), ((), ((), ((), ((), ((), ((), ((), ((), ((), ((), ((), ((), ((), ((), ((), ((), ((), ((), ((), ((), ((), ((), ((), ((), ((), ((), ((), ((), ((), ((), ((), ((), ((), ((), ((), ((), ((), ((), ((), ((), ((), ((), ((), ((), ((), ((), ((), ((), ((), ((), ((), ((), ((), ((), ()))))))))))))))))))))))))))))))))))))))))))))))))))))))))))))))))))))))))))))))))))))))))))))))))))))))))))))))))))))))))))))))))))))))))))))))))))))))))))))))))))))))))))))))))))))))))))))))))))))))))))))))))))))))))))))))))))))))))))))), ())))))), (v35, (v36, (v37, (v38, (v39, (v40, ()))))))))))
noncomputable def u12_63_1_0 (z : X12_63_1_0) : Option (R3 X12_63_1_0 Y12_63_1_0 Z12_63_1_0) := t12_63_1_0 z.1.2.2.2.1 z.2.1.1.1 z.2.1.1.2.1 z.2.1.1.2.2.1 z.2.1.1.2.2.2.1 z.2.1.1.2.2.2.2.1 z.2.1.1.2.2.2.2.2.1 z.2.1.1.2.2.2.2.2.2.1 z.2.1.1.2.2.2.2.2.2.2.1 z.2.1.1.2.2.2.2.2.2.2.2.1 z.2.1.1.2.2.2.2.2.2.2.2.2.1 z.2.1.1.2.2.2.2.2.2.2.2.2.2.1 z.2.1.1.2.2.2.2.2.2.2.2.2.2.2.1 z.2.1.1.2.2.2.2.2.2.2.2.2.2.2.2.1 z.2.1.2.1.1 z.2.1.2.1.2.1 z.2.1.2.1.2.2.1 z.2.1.2.1.2.2.2.1 z.2.1.2.1.2.2.2.2.1 z.2.1.2.2.1.1 z.2.1.2.2.1.2.1 z.2.1.2.2.1.2.2.1 z.2.1.2.2.1.2.2.2.1 z.2.1.2.2.1.2.2.2.2.1 z.2.1.2.2.1.2.2.2.2.2.1 z.2.1.2.2.1.2.2.2.2.2.2.1 z.2.1.2.2.1.2.2.2.2.2.2.2.1 z.2.1.2.2.1.2.2.2.2.2.2.2.2.1 z.2.1.2.2.1.2.2.2.2.2.2.2.2.2.1 z.2.1.2.2.1.2.2.2.2.2.2.2.2.2.2.1 z.2.1.2.2.1.2.2.2.2.2.2.2.2.2.2.2.1 z.2.1.2.2.1.2.2.2.2.2.2.2.2.2.2.2.2.1 z.2.1.2.2.2.1.1 z.2.1.2.2.2.2.1.1 z.2.2.1 z.2.2.2.1 z.2.2.2.2.1 z.2.2.2.2.2.1 z.2.2.2.2.2.2.1 z.2.2.2.2.2.2.2.1
abbrev X12_16 : Type := (Unit × Unit × (List Int) × (List Int) × (List Int) × (List Int) × Int × Int × Unit) × ((Int × Int × Int × Int × Int × Int × Int × Int × Int × Int × Int × Bool × Int × Unit × Unit × Unit × Unit) × (Int × Int × Int × Int × Int × Int × Int × Int × Int × Int × Int × Bool × Int × Unit × Unit × Unit × Unit) × Unit) × ((List (Int × (Int × Int))) × (List (Int × (Int × (Int × (Int × Int))))) × (List (Int × (Int × Int))) × (List (Int × (Int × Int))) × (List (Int × (Int × (Int × (Int × Int))))) × (List (Int × (Int × Int))) × Unit)
abbrev Y12_16 : Type := (Unit × Unit × (List Int) × (List Int) × Unit) × ((Int × Int × Int × Int × Int × Int × Int × Int × Int × Int × Int × Bool × Int × Unit × Unit × Unit × Unit) × (Int × Int × Int × Int × Int × Int × Int × Int × Int × Int × Int × Bool × Int × Unit × Unit × Unit × Unit) × Unit) × ((List (Int × (Int × Int))) × (List (Int × (Int × (Int × (Int × Int))))) × (List (Int × (Int × Int))) × (List (Int × (Int × Int))) × (List (Int × (Int × (Int × (Int × Int))))) × (List (Int × (Int × Int))) × Unit)
abbrev Z12_16 : Type := Unit × Unit × Unit
noncomputable def t12_16 (v1 : (List Int)) (v2 : (List Int)) (v3 : (List Int)) (v4 : (List Int)) (v5 : Int) (v6 : Int) (v7 : Int) (v8 : Int) (v9 : Int) (v10 : Int) (v11 : Int) (v12 : Int) (v13 : Int) (v14 : Int) (v15 : Int) (v16 : Int) (v17 : Int) (v18 : Bool) (v19 : Int) (v20 : Int) (v21 : Int) (v22 : Int) (v23 : Int) (v24 : Int) (v25 : Int) (v26 : Int) (v27 : Int) (v28 : Int) (v29 : Int) (v30 : Int) (v31 : Bool) (v32 : Int) (v33 : (List (Int × (Int × Int)))) (v34 : (List (Int × (Int × (Int × (Int × Int)))))) (v35 : (List (Int × (Int × Int)))) (v36 : (List (Int × (Int × Int)))) (v37 : (List (Int × (Int × (Int × (Int × Int)))))) (v38 : (List (Int × (Int × Int)))) : Option (R3 X12_16 Y12_16 Z12_16) :=
 cond (decide (v6 < v5)) (
  cond ((decide (0 ≤ v6)) && (decide (v6 < ((v4.length : Nat) : Int)))) (
   cond ((decide (0 ≤ v6)) && (decide (v6 < ((v1.length : Nat) : Int)))) (
    cond ((decide (((v37.length + 1) * 40) ≤ 140737488355328)) && (decide ((v37.length + 1) ≤ 9223372036854775807))) (
     some (R3.next (((), ((), (v1, (v2, (v3, (v4, (v5, ((IntKind.wrap .i64 (v6 + 1)), ())))))))), (((v7, (v8, (v9, (v10, (v11, (v12, (v13, (v14, (v15, (v16, (v17, (v18, (v19, ((), ((), ((), ())))))))))))))))), ((v20, (v21, (v22, (v23, (v24, (v25, (v26, (v27, (v28, (v29, (v30, (v31, (v32, ((), ((), ((), ())))))))))))))))), ())), (v33, (v34, (v35, (v36, ((v37 ++ [((Int.fdiv (rd (.int .i64) v4 (Int.toNat v6)) 32), ((IntKind.wrap .i64 (Int.tdiv (bitop .and .i64 (rd (.int .i64) v4 (Int.toNat v6)) 31) 8)), ((Int.tmod (bitop .and .i64 (rd (.int .i64) v4 (Int.toNat v6)) 31) 8), ((rd (.int .i64) v1 (Int.toNat v6)), v32))))]), (v38, ())))))))))) (
     none)) (
    none)) (
   none)) (
  some (R3.out (((), ((), (v2, (v3, ())))), (((v7, (v8, (v9, (v10, (v11, (v12, (v13, (v14, (v15, (v16, (v17, (v18, (v19, ((), ((), ((), ())))))))))))))))), ((v20, (v21, (v22, (v23, (v24, (v25, (v26, (v27, (v28, (v29, (v30, (v31, (v32, ((), ((), ((), ())))))))))))))))), ())), (v33, (v34, (v35, (v36, (v37, (v38, ()))))))))))
noncomputable def u12_16 (z : X12_16) : Option (R3 X12_16 Y12_16 Z12_16) := t12_16 z.1.2.2.1 z.1.2.2.2.1 z.1.2.2.2.2.1 z.1.2.2.2.2.2.1 z.1.2.2.2.2.2.2.1 z.1.2.2.2.2.2.2.2.1 z.2.1.1.1 z.2.1.1.2.1 z.2.1.1.2.2.1 z.2.1.1.2.2.2.1 z.2.1.1.2.2.2.2.1 z.2.1.1.2.2.2.2.2.1 z.2.1.1.2.2.2.2.2.2.1 z.2.1.1.2.2.2.2.2.2.2.1 z.2.1.1.2.2.2.2.2.2.2.2.1 z.2.1.1.2.2.2.2.2.2.2.2.2.1 z.2.1.1.2.2.2.2.2.2.2.2.2.2.1 z.2.1.1.2.2.2.2.2.2.2.2.2.2.2.1 z.2.1.1.2.2.2.2.2.2.2.2.2.2.2.2.1 z.2.1.2.1.1 z.2.1.2.1.2.1 z.2.1.2.1.2.2.1 z.2.1.2.1.2.2.2.1 z.2.1.2.1.2.2.2.2.1 z.2.1.2.1.2.2.2.2.2.1 z.2.1.2.1.2.2.2.2.2.2.1 z.2.1.2.1.2.2.2.2.2.2.2.1 z.2.1.2.1.2.2.2.2.2.2.2.2.1 z.2.1.2.1.2.2.2.2.2.2.2.2.2.1 z.2.1.2.1.2.2.2.2.2.2.2.2.2.2.1 z.2.1.2.1.2.2.2.2.2.2.2.2.2.2.2.1 z.2.1.2.1.2.2.2.2.2.2.2.2.2.2.2.2.1 z.2.2.1 z.2.2.2.1 z.2.2.2.2.1 z.2.2.2.2.2.1 z.2.2.2.2.2.2.1 z.2.2.2.2.2.2.2.1
abbrev X12_22 : Type := (Unit × Unit × (List Int) × (List Int) × Int × Int × Unit) × ((Int × Int × Int × Int × Int × Int × Int × Int × Int × Int × Int × Bool × Int × Unit × Unit × Unit × Unit) × (Int × Int × Int × Int × Int × Int × Int × Int × Int × Int × Int × Bool × Int × Unit × Unit × Unit × Unit) × Unit) × ((List (Int × (Int × Int))) × (List (Int × (Int × (Int × (Int × Int))))) × (List (Int × (Int × Int))) × (List (Int × (Int × Int))) × (List (Int × (Int × (Int × (Int × Int))))) × (List (Int × (Int × Int))) × Unit)
abbrev Y12_22 : Type := (Unit × Unit × Unit) × ((Int × Int × Int × Int × Int × Int × Int × Int × Int × Int × Int × Bool × Int × Unit × Unit × Unit × Unit) × (Int × Int × Int × Int × Int × Int × Int × Int × Int × Int × Int × Bool × Int × Unit × Unit × Unit × Unit) × Unit) × ((List (Int × (Int × Int))) × (List (Int × (Int × (Int × (Int × Int))))) × (List (Int × (Int × Int))) × (List (Int × (Int × Int))) × (List (Int × (Int × (Int × (Int × Int))))) × (List (Int × (Int × Int))) × Unit)
abbrev Z12_22 : Type := Unit × Unit × Unit
noncomputable def t12_22 (v1 : (List Int)) (v2 : (List Int)) (v3 : Int) (v4 : Int) (v5 : Int) (v6 : Int) (v7 : Int) (v8 : Int) (v9 : Int) (v10 : Int) (v11 : Int) (v12 : Int) (v13 : Int) (v14 : Int) (v15 : Int) (v16 : Bool) (v17 : Int) (v18 : Int) (v19 : Int) (v20 : Int) (v21 : Int) (v22 : Int) (v23 : Int) (v24 : Int) (v25 : Int) (v26 : Int) (v27 : Int) (v28 : Int) (v29 : Bool) (v30 : Int) (v31 : (List (Int × (Int × Int)))) (v32 : (List (Int × (Int × (Int × (Int × Int)))))) (v33 : (List (Int × (Int × Int)))) (v34 : (List (Int × (Int × Int)))) (v35 : (List (Int × (Int × (Int × (Int × Int)))))) (v36 : (List (Int × (Int × Int)))) : Option (R3 X12_22 Y12_22 Z12_22) :=
 cond (decide (v4 < v3)) (
  cond ((decide (0 ≤ v4)) && (decide (v4 < ((v2.length : Nat) : Int)))) (
   cond ((decide (0 ≤ v4)) && (decide (v4 < ((v1.length : Nat) : Int)))) (
    cond ((decide (((v36.length + 1) * 24) ≤ 140737488355328)) && (decide ((v36.length + 1) ≤ 9223372036854775807))) (
     some (R3.next (((), ((), (v1, (v2, (v3, ((IntKind.wrap .i64 (v4 + 1)), ())))))), (((v5, (v6, (v7, (v8, (v9, (v10, (v11, (v12, (v13, (v14, (v15, (v16, (v17, ((), ((), ((), ())))))))))))))))), ((v18, (v19, (v20, (v21, (v22, (v23, (v24, (v25, (v26, (v27, (v28, (v29, (v30, ((), ((), ((), ())))))))))))))))), ())), (v31, (v32, (v33, (v34, (v35, ((v36 ++ [((IntKind.wrap .i64 (Int.tdiv (rd (.int .i64) v2 (Int.toNat v4)) 8)), ((Int.tmod (rd (.int .i64) v2 (Int.toNat v4)) 8), (rd (.int .i64) v1 (Int.toNat v4))))]), ())))))))))) (
     none)) (
    none)) (
   none)) (
  some (R3.out (((), ((), ())), (((v5, (v6, (v7, (v8, (v9, (v10, (v11, (v12, (v13, (v14, (v15, (v16, (v17, ((), ((), ((), ())))))))))))))))), ((v18, (v19, (v20, (v21, (v22, (v23, (v24, (v25, (v26, (v27, (v28, (v29, (v30, ((), ((), ((), ())))))))))))))))), ())), (v31, (v32, (v33, (v34, (v35, (v36, ()))))))))))
noncomputable def u12_22 (z : X12_22) : Option (R3 X12_22 Y12_22 Z12_22) := t12_22 z.1.2.2.1 z.1.2.2.2.1 z.1.2.2.2.2.1 z.1.2.2.2.2.2.1 z.2.1.1.1 z.2.1.1.2.1 z.2.1.1.2.2.1 z.2.1.1.2.2.2.1 z.2.1.1.2.2.2.2.1 z.2.1.1.2.2.2.2.2.1 z.2.1.1.2.2.2.2.2.2.1 z.2.1.1.2.2.2.2.2.2.2.1 z.2.1.1.2.2.2.2.2.2.2.2.1 z.2.1.1.2.2.2.2.2.2.2.2.2.1 z.2.1.1.2.2.2.2.2.2.2.2.2.2.1 z.2.1.1.2.2.2.2.2.2.2.2.2.2.2.1 z.2.1.1.2.2.2.2.2.2.2.2.2.2.2.2.1 z.2.1.2.1.1 z.2.1.2.1.2.1 z.2.1.2.1.2.2.1 z.2.1.2.1.2.2.2.1 z.2.1.2.1.2.2.2.2.1 z.2.1.2.1.2.2.2.2.2.1 z.2.1.2.1.2.2.2.2.2.2.1 z.2.1.2.1.2.2.2.2.2.2.2.1 z.2.1.2.1.2.2.2.2.2.2.2.2.1 z.2.1.2.1.2.2.2.2.2.2.2.2.2.1 z.2.1.2.1.2.2.2.2.2.2.2.2.2.2.1 z.2.1.2.1.2.2.2.2.2.2.2.2.2.2.2.1 z.2.1.2.1.2.2.2.2.2.2.2.2.2.2.2.2.1 z.2.2.1 z.2.2.2.1 z.2.2.2.2.1 z.2.2.2.2.2.1 z.2.2.2.2.2.2.1 z.2.2.2.2.2.2.2.1
noncomputable def f12 (v1 : (List Int)) : Option ((((Int × Int) × ((Int × Int) × (Int × (Int × (Int × Int))))) × ((Int × (Int × (Int × Bool))) × (Int × ((List (Int × (Int × Int))) × ((List (Int × (Int × (Int × (Int × Int))))) × (List (Int × (Int × Int)))))))) × (Bool × Unit)) :=
 ((f30 v1)).bind fun y2 =>
 ((f31 y2.1.1)).bind fun y3 =>
 cond (!y2.2.1) (
  some ((((0, 0), ((0, 0), (0, (0, (0, 0))))), ((0, (0, (0, false))), (0, ([], ([], []))))), (false, ()))) (
  cond (!y3.2.1) (
   some ((((0, 0), ((0, 0), (0, (0, (0, 0))))), ((0, (0, (0, false))), (0, ([], ([], []))))), (false, ()))) (
   cond (decide (((y3.1.length : Nat) : Int) < 15)) (
    some ((((0, 0), ((0, 0), (0, (0, (0, 0))))), ((0, (0, (0, false))), (0, ([], ([], []))))), (false, ()))) (
    cond (!(decide ((Int.tmod (IntKind.wrap .i64 (((y3.1.length : Nat) : Int) - 15)) 3) = 0))) (
     some ((((0, 0), ((0, 0), (0, (0, (0, 0))))), ((0, (0, (0, false))), (0, ([], ([], []))))), (false, ()))) (
     cond (decide (11 < ((y3.1.length : Nat) : Int))) (
      cond (decide (1 < (rd (.int .i64) y3.1 11))) (
       some ((((0, 0), ((0, 0), (0, (0, (0, 0))))), ((0, (0, (0, false))), (0, ([], ([], []))))), (false, ()))) (
       cond (decide (0 < ((y3.1.length : Nat) : Int))) (
        cond (decide (1 < ((y3.1.length : Nat) : Int))) (
         cond (decide (2 < ((y3.1.length : Nat) : Int))) (
          cond (decide (3 < ((y3.1.length : Nat) : Int))) (
           cond (decide (4 < ((y3.1.length : Nat) : Int))) (
            cond (decide (5 < ((y3.1.length : Nat) : Int))) (
             cond (decide (6 < ((y3.1.length : Nat) : Int))) (
              cond (decide (7 < ((y3.1.length : Nat) : Int))) (
               cond (decide (8 < ((y3.1.length : Nat) : Int))) (
                cond (decide (9 < ((y3.1.length : Nat) : Int))) (
                 cond (decide (10 < ((y3.1.length : Nat) : Int))) (
                  cond (decide (11 < ((y3.1.length : Nat) : Int))) (
                   cond (decide (12 < ((y3.1.length : Nat) : Int))) (
                    cond ((decide (15 ≤ ((y3.1.length : Nat) : Int))) && (decide (((y3.1.length : Nat) : Int) ≤ ((y3.1.length : Nat) : Int)))) (
                     ((iter big u12_63_1_0 (((), ((), ((), (0, ())))), (((0, (0, (0, (0, (0, (0, (0, (0, (0, (0, (0, (false, (0, ((), ((), ((), ())))))))))))))))), ((y2.1.1, (y2.1.2.1, (y2.1.2.2.1, (y2.1.2.2.2.1, (y2.1.2.2.2.2, ()))))), (((rd (.int .i64) y3.1 0), ((rd (.int .i64) y3.1 1), ((rd (.int .i64) y3.1 2), ((rd (.int .i64) y3.1 3), ((rd (.int .i64) y3.1 4), ((rd (.int .i64) y3.1 5), ((rd (.int .i64) y3.1 6), ((rd (.int .i64) y3.1 7), ((rd (.int .i64) y3.1 8), ((rd (.int .i64) y3.1 9), ((rd (.int .i64) y3.1 10), ((decide ((rd (.int .i64) y3.1 11) = 1)), ((rd (.int .i64) y3.1 12), ((), ((), ((), ())))))))))))))))), (((List.drop 15 (List.take (Int.toNat ((y3.1.length : Nat) : Int)) y3.1)), ()), ((3, ()), (((), ((), ((), ((), ((), ((), ((), ((), ((), ((), ((), ((), ((), ((), ((), ((), ((), ((), ((), ((), ((), ((), ((), ((), ((), ((), ((), ((), ((), ((), ((), ((), ((), ((), ((), ((), ((), ((), ((), ((), ((), ((), ((), ((), ((), ((), ((), ((), ((), ((), ((), ((), ((), ((), ((), ((), ((), ((), ((), ((), ((), ((), ((), ((), ((), ((), ((), ((), ((), ((), ((), ((), ((), ((), ((), ((), ((), ((), ((), ((), ((), ((), ((), ((), ((), ((), ((), ((), ((), ((), ((), ((), ((), ((), ((), ((), ((), ((), ((), ((), ((), ((), ((), ((), ((), ((), ((), ((), ((), ((), ((), ((), ((), ((), ((), ((), ((), ((), ((), ((), ((), ((), ((), ((), ((), ((), ((), ((), ((), ((), ((), ((), ((), ((), ((), ((), ((), ((), ((), ((), ((), ((), ((), ((), ((), ((), ((), ((), ((), ((), ((), ((), ((), ((), ((), ((), ((), ((), ((), ((), ((), ((), ((), ((), ((), ((), ((), ((), ((), ((), ((), ((), ((), ((), ((), ((), ((), ((), ((), ((), ((), ((), ((), ((), ((), ((), ((), ((), ((), ((), ((), ((), ((), ((), ((), ((), ((), ((), ((), ((), ((), ((), ((), ((), ((), ((), ((), ((), ((), ((), ((), ((), ((), ((), ((), ((), ((), ((), ((), ((), ((), ((), ((), ((), ((), ((), ((), ((), ((), ((), ((), ((), ((), ((), ((), ((), ((), ()))))))))))))))))))))))))))))))))))))))))))))))))))))))))))))))))))))))))))))))))))))))))))))))))))))))))))))))))))))))))))))))))))))))))))))))))))))))))))))))))))))))))))))))))))))))))))))))))))))))))))))))))))))))))))))))))))))))))))))), ())))))), ([], ([], ([], ([], ([], ([], ())))))))))).bind fun r => match r with
                     | .inl y4 =>
                       cond (decide (13 < ((y3.1.length : Nat) : Int))) (
                        ((f33 y4.2.1.2.1.2.1 (rd (.int .i64) y3.1 13) 10)).bind fun y6 =>
                        ((f34 y4.2.1.2.1.2.2.1)).bind fun y7 =>
                        cond (decide (14 < ((y3.1.length : Nat) : Int))) (
                         ((f33 y4.2.1.2.1.2.2.2.1 (rd (.int .i64) y3.1 14) 5)).bind fun y8 =>
                         ((f34 y4.2.1.2.1.2.2.2.2.1)).bind fun y9 =>
                         cond (!y6.2.1) (
                          some ((((0, 0), ((0, 0), (0, (0, (0, 0))))), ((0, (0, (0, false))), (0, ([], ([], []))))), (false, ()))) (
                          cond (!y7.2.1) (
                           some ((((0, 0), ((0, 0), (0, (0, (0, 0))))), ((0, (0, (0, false))), (0, ([], ([], []))))), (false, ()))) (
                           cond (!y8.2.1) (
                            some ((((0, 0), ((0, 0), (0, (0, (0, 0))))), ((0, (0, (0, false))), (0, ([], ([], []))))), (false, ()))) (
                            cond (!y9.2.1) (
                             some ((((0, 0), ((0, 0), (0, (0, (0, 0))))), ((0, (0, (0, false))), (0, ([], ([], []))))), (false, ()))) (
                             cond (!(decide (((y7.1.length : Nat) : Int) = ((y6.1.length : Nat) : Int)))) (
                              some ((((0, 0), ((0, 0), (0, (0, (0, 0))))), ((0, (0, (0, false))), (0, ([], ([], []))))), (false, ()))) (
                              cond (!(decide (((y9.1.length : Nat) : Int) = ((y8.1.length : Nat) : Int)))) (
                               some ((((0, 0), ((0, 0), (0, (0, (0, 0))))), ((0, (0, (0, false))), (0, ([], ([], []))))), (false, ()))) (
                               ((iter big u12_16 (((), ((), (y7.1, (y8.1, (y9.1, (y6.1, (((y6.1.length : Nat) : Int), (0, ())))))))), (((y4.2.1.1.1, (y4.2.1.1.2.1, (y4.2.1.1.2.2.1, (y4.2.1.1.2.2.2.1, (y4.2.1.1.2.2.2.2.1, (y4.2.1.1.2.2.2.2.2.1, (y4.2.1.1.2.2.2.2.2.2.1, (y4.2.1.1.2.2.2.2.2.2.2.1, (y4.2.1.1.2.2.2.2.2.2.2.2.1, (y4.2.1.1.2.2.2.2.2.2.2.2.2.1, (y4.2.1.1.2.2.2.2.2.2.2.2.2.2.1, (y4.2.1.1.2.2.2.2.2.2.2.2.2.2.2.1, (y4.2.1.1.2.2.2.2.2.2.2.2.2.2.2.2.1, ((), ((), ((), ())))))))))))))))), ((y4.2.1.2.2.1.1, (y4.2.1.2.2.1.2.1, (y4.2.1.2.2.1.2.2.1, (y4.2.1.2.2.1.2.2.2.1, (y4.2.1.2.2.1.2.2.2.2.1, (y4.2.1.2.2.1.2.2.2.2.2.1, (y4.2.1.2.2.1.2.2.2.2.2.2.1, (y4.2.1.2.2.1.2.2.2.2.2.2.2.1, (y4.2.1.2.2.1.2.2.2.2.2.2.2.2.1, (y4.2.1.2.2.1.2.2.2.2.2.2.2.2.2.1, (y4.2.1.2.2.1.2.2.2.2.2.2.2.2.2.2.1, (y4.2.1.2.2.1.2.2.2.2.2.2.2.2.2.2.2.1, (y4.2.1.2.2.1.2.2.2.2.2.2.2.2.2.2.2.2.1, ((), ((), ((), ())))))))))))))))), ())), (y4.2.2.1, (y4.2.2.2.1, (y4.2.2.2.2.1, (y4.2.2.2.2.2.1, (y4.2.2.2.2.2.2.1, (y4.2.2.2.2.2.2.2.1, ())))))))))).bind fun r => match r with
                               | .inl y10 =>
                                 ((iter big u12_22 (((), ((), (y10.1.2.2.2.1, (y10.1.2.2.1, (((y10.1.2.2.1.length : Nat) : Int), (0, ())))))), (((y10.2.1.1.1, (y10.2.1.1.2.1, (y10.2.1.1.2.2.1, (y10.2.1.1.2.2.2.1, (y10.2.1.1.2.2.2.2.1, (y10.2.1.1.2.2.2.2.2.1, (y10.2.1.1.2.2.2.2.2.2.1, (y10.2.1.1.2.2.2.2.2.2.2.1, (y10.2.1.1.2.2.2.2.2.2.2.2.1, (y10.2.1.1.2.2.2.2.2.2.2.2.2.1, (y10.2.1.1.2.2.2.2.2.2.2.2.2.2.1, (y10.2.1.1.2.2.2.2.2.2.2.2.2.2.2.1, (y10.2.1.1.2.2.2.2.2.2.2.2.2.2.2.2.1, ((), ((), ((), ())))))))))))))))), ((y10.2.1.2.1.1, (y10.2.1.2.1.2.1, (y10.2.1.2.1.2.2.1, (y10.2.1.2.1.2.2.2.1, (y10.2.1.2.1.2.2.2.2.1, (y10.2.1.2.1.2.2.2.2.2.1, (y10.2.1.2.1.2.2.2.2.2.2.1, (y10.2.1.2.1.2.2.2.2.2.2.2.1, (y10.2.1.2.1.2.2.2.2.2.2.2.2.1, (y10.2.1.2.1.2.2.2.2.2.2.2.2.2.1, (y10.2.1.2.1.2.2.2.2.2.2.2.2.2.2.1, (y10.2.1.2.1.2.2.2.2.2.2.2.2.2.2.2.1, (y10.2.1.2.1.2.2.2.2.2.2.2.2.2.2.2.2.1, ((), ((), ((), ())))))))))))))))), ())), (y10.2.2.1, (y10.2.2.2.1, (y10.2.2.2.2.1, (y10.2.2.2.2.2.1, (y10.2.2.2.2.2.2.1, (y10.2.2.2.2.2.2.2.1, ())))))))))).bind fun r => match r with
                                 | .inl y12 =>
                                   ((f14 y12.2.1.2.1.1 y12.2.1.2.1.2.1 y12.2.1.2.1.2.2.1 y12.2.1.2.1.2.2.2.1 y12.2.1.2.1.2.2.2.2.1 y12.2.1.2.1.2.2.2.2.2.1 y12.2.1.2.1.2.2.2.2.2.2.1 y12.2.1.2.1.2.2.2.2.2.2.2.1 y12.2.1.2.1.2.2.2.2.2.2.2.2.1 y12.2.1.2.1.2.2.2.2.2.2.2.2.2.1 y12.2.1.2.1.2.2.2.2.2.2.2.2.2.2.1 y12.2.1.2.1.2.2.2.2.2.2.2.2.2.2.2.1 y12.2.1.2.1.2.2.2.2.2.2.2.2.2.2.2.2.1 y12.2.2.2.2.2.1 y12.2.2.2.2.2.2.1 y12.2.2.2.2.2.2.2.1)).bind fun y14 =>
                                   cond (!y14.1) (
                                    some ((((0, 0), ((0, 0), (0, (0, (0, 0))))), ((0, (0, (0, false))), (0, ([], ([], []))))), (false, ()))) (
                                    some ((((y12.2.1.2.1.1, y12.2.1.2.1.2.1), ((y12.2.1.2.1.2.2.1, y12.2.1.2.1.2.2.2.1), (y12.2.1.2.1.2.2.2.2.1, (y12.2.1.2.1.2.2.2.2.2.1, (y12.2.1.2.1.2.2.2.2.2.2.1, y12.2.1.2.1.2.2.2.2.2.2.2.1))))), ((y12.2.1.2.1.2.2.2.2.2.2.2.2.1, (y12.2.1.2.1.2.2.2.2.2.2.2.2.2.1, (y12.2.1.2.1.2.2.2.2.2.2.2.2.2.2.1, y12.2.1.2.1.2.2.2.2.2.2.2.2.2.2.2.1))), (y12.2.1.2.1.2.2.2.2.2.2.2.2.2.2.2.2.1, (y12.2.2.2.2.2.1, (y12.2.2.2.2.2.2.1, y12.2.2.2.2.2.2.2.1))))), (true, ())))
                                 | .inr z13 =>
                                   none
                               | .inr z11 =>
                                 none))))))) (
                         none)) (
                        none)
                     | .inr z5 =>
                       cond (decide (13 < ((y3.1.length : Nat) : Int))) (
                        ((f33 z5.2.1.2.1.2.1 (rd (.int .i64) y3.1 13) 10)).bind fun y15 =>
                        ((f34 z5.2.1.2.1.2.2.1)).bind fun y16 =>
                        cond (decide (14 < ((y3.1.length : Nat) : Int))) (
                         ((f33 z5.2.1.2.1.2.2.2.1 (rd (.int .i64) y3.1 14) 5)).bind fun y17 =>
                         ((f34 z5.2.1.2.1.2.2.2.2.1)).bind fun y18 =>
                         cond (!y15.2.1) (
                          some ((((0, 0), ((0, 0), (0, (0, (0, 0))))), ((0, (0, (0, false))), (0, ([], ([], []))))), (false, ()))) (
                          cond (!y16.2.1) (
                           some ((((0, 0), ((0, 0), (0, (0, (0, 0))))), ((0, (0, (0, false))), (0, ([], ([], []))))), (false, ()))) (
                           cond (!y17.2.1) (
                            some ((((0, 0), ((0, 0), (0, (0, (0, 0))))), ((0, (0, (0, false))), (0, ([], ([], []))))), (false, ()))) (
                            cond (!y18.2.1) (
                             some ((((0, 0), ((0, 0), (0, (0, (0, 0))))), ((0, (0, (0, false))), (0, ([], ([], []))))), (false, ()))) (
                             cond (!(decide (((y16.1.length : Nat) : Int) = ((y15.1.length : Nat) : Int)))) (
                              some ((((0, 0), ((0, 0), (0, (0, (0, 0))))), ((0, (0, (0, false))), (0, ([], ([], []))))), (false, ()))) (
                              cond (!(decide (((y18.1.length : Nat) : Int) = ((y17.1.length : Nat) : Int)))) (
                               some ((((0, 0), ((0, 0), (0, (0, (0, 0))))), ((0, (0, (0, false))), (0, ([], ([], []))))), (false, ()))) (
                               ((iter big u12_16 (((), ((), (y16.1, (y17.1, (y18.1, (y15.1, (((y15.1.length : Nat) : Int), (0, ())))))))), (((z5.2.1.1.1, (z5.2.1.1.2.1, (z5.2.1.1.2.2.1, (z5.2.1.1.2.2.2.1, (z5.2.1.1.2.2.2.2.1, (z5.2.1.1.2.2.2.2.2.1, (z5.2.1.1.2.2.2.2.2.2.1, (z5.2.1.1.2.2.2.2.2.2.2.1, (z5.2.1.1.2.2.2.2.2.2.2.2.1, (z5.2.1.1.2.2.2.2.2.2.2.2.2.1, (z5.2.1.1.2.2.2.2.2.2.2.2.2.2.1, (z5.2.1.1.2.2.2.2.2.2.2.2.2.2.2.1, (z5.2.1.1.2.2.2.2.2.2.2.2.2.2.2.2.1, ((), ((), ((), ())))))))))))))))), ((z5.2.1.2.2.1.1, (z5.2.1.2.2.1.2.1, (z5.2.1.2.2.1.2.2.1, (z5.2.1.2.2.1.2.2.2.1, (z5.2.1.2.2.1.2.2.2.2.1, (z5.2.1.2.2.1.2.2.2.2.2.1, (z5.2.1.2.2.1.2.2.2.2.2.2.1, (z5.2.1.2.2.1.2.2.2.2.2.2.2.1, (z5.2.1.2.2.1.2.2.2.2.2.2.2.2.1, (z5.2.1.2.2.1.2.2.2.2.2.2.2.2.2.1, (z5.2.1.2.2.1.2.2.2.2.2.2.2.2.2.2.1, (z5.2.1.2.2.1.2.2.2.2.2.2.2.2.2.2.2.1, (z5.2.1.2.2.1.2.2.2.2.2.2.2.2.2.2.2.2.1, ((), ((), ((), ())))))))))))))))), ())), (z5.2.2.1, (z5.2.2.2.1, (z5.2.2.2.2.1, (z5.2.2.2.2.2.1, (z5.2.2.2.2.2.2.1, (z5.2.2.2.2.2.2.2.1, ())))))))))).bind fun r => match r with
                               | .inl y19 =>
                                 ((iter big u12_22 (((), ((), (y19.1.2.2.2.1, (y19.1.2.2.1, (((y19.1.2.2.1.length : Nat) : Int), (0, ())))))), (((y19.2.1.1.1, (y19.2.1.1.2.1, (y19.2.1.1.2.2.1, (y19.2.1.1.2.2.2.1, (y19.2.1.1.2.2.2.2.1, (y19.2.1.1.2.2.2.2.2.1, (y19.2.1.1.2.2.2.2.2.2.1, (y19.2.1.1.2.2.2.2.2.2.2.1, (y19.2.1.1.2.2.2.2.2.2.2.2.1, (y19.2.1.1.2.2.2.2.2.2.2.2.2.1, (y19.2.1.1.2.2.2.2.2.2.2.2.2.2.1, (y19.2.1.1.2.2.2.2.2.2.2.2.2.2.2.1, (y19.2.1.1.2.2.2.2.2.2.2.2.2.2.2.2.1, ((), ((), ((), ())))))))))))))))), ((y19.2.1.2.1.1, (y19.2.1.2.1.2.1, (y19.2.1.2.1.2.2.1, (y19.2.1.2.1.2.2.2.1, (y19.2.1.2.1.2.2.2.2.1, (y19.2.1.2.1.2.2.2.2.2.1, (y19.2.1.2.1.2.2.2.2.2.2.1, (y19.2.1.2.1.2.2.2.2.2.2.2.1, (y19.2.1.2.1.2.2.2.2.2.2.2.2.1, (y19.2.1.2.1.2.2.2.2.2.2.2.2.2.1, (y19.2.1.2.1.2.2.2.2.2.2.2.2.2.2.1, (y19.2.1.2.1.2.2.2.2.2.2.2.2.2.2.2.1, (y19.2.1.2.1.2.2.2.2.2.2.2.2.2.2.2.2.1, ((), ((), ((), ())))))))))))))))), ())), (y19.2.2.1, (y19.2.2.2.1, (y19.2.2.2.2.1, (y19.2.2.2.2.2.1, (y19.2.2.2.2.2.2.1, (y19.2.2.2.2.2.2.2.1, ())))))))))).bind fun r => match r with
                                 | .inl y21 =>
                                   ((f14 y21.2.1.2.1.1 y21.2.1.2.1.2.1 y21.2.1.2.1.2.2.1 y21.2.1.2.1.2.2.2.1 y21.2.1.2.1.2.2.2.2.1 y21.2.1.2.1.2.2.2.2.2.1 y21.2.1.2.1.2.2.2.2.2.2.1 y21.2.1.2.1.2.2.2.2.2.2.2.1 y21.2.1.2.1.2.2.2.2.2.2.2.2.1 y21.2.1.2.1.2.2.2.2.2.2.2.2.2.1 y21.2.1.2.1.2.2.2.2.2.2.2.2.2.2.1 y21.2.1.2.1.2.2.2.2.2.2.2.2.2.2.2.1 y21.2.1.2.1.2.2.2.2.2.2.2.2.2.2.2.2.1 y21.2.2.2.2.2.1 y21.2.2.2.2.2.2.1 y21.2.2.2.2.2.2.2.1)).bind fun y23 =>
                                   cond (!y23.1) (
                                    some ((((0, 0), ((0, 0), (0, (0, (0, 0))))), ((0, (0, (0, false))), (0, ([], ([], []))))), (false, ()))) (
                                    some ((((y21.2.1.2.1.1, y21.2.1.2.1.2.1), ((y21.2.1.2.1.2.2.1, y21.2.1.2.1.2.2.2.1), (y21.2.1.2.1.2.2.2.2.1, (y21.2.1.2.1.2.2.2.2.2.1, (y21.2.1.2.1.2.2.2.2.2.2.1, y21.2.1.2.1.2.2.2.2.2.2.2.1))))), ((y21.2.1.2.1.2.2.2.2.2.2.2.2.1, (y21.2.1.2.1.2.2.2.2.2.2.2.2.2.1, (y21.2.1.2.1.2.2.2.2.2.2.2.2.2.2.1, y21.2.1.2.1.2.2.2.2.2.2.2.2.2.2.2.1))), (y21.2.1.2.1.2.2.2.2.2.2.2.2.2.2.2.2.1, (y21.2.2.2.2.2.1, (y21.2.2.2.2.2.2.1, y21.2.2.2.2.2.2.2.1))))), (true, ())))
                                 | .inr z22 =>
                                   none
                               | .inr z20 =>
                                 none))))))) (
                         none)) (
                        none)) (
                     none)) (
                    none)) (
                   none)) (
                  none)) (
                 none)) (
                none)) (
               none)) (
              none)) (
             none)) (
            none)) (
           none)) (
          none)) (
         none)) (
        none))) (
      none)))))
abbrev X66_4 : Type := ((List (Int × (Int × Int))) × (List (Int × (Int × Int))) × Int × Int × Unit) × (Unit) × (Unit)
abbrev Y66_4 : Type := (Unit) × (Unit) × (Unit)
abbrev Z66_4 : Type := (Bool × Unit) × (Unit) × (Unit)
noncomputable def t66_4 (v1 : (List (Int × (Int × Int)))) (v2 : (List (Int × (Int × Int)))) (v3 : Int) (v4 : Int) : Option (R3 X66_4 Y66_4 Z66_4) :=
 cond (decide (v4 < v3)) (
  cond ((decide (0 ≤ v4)) && (decide (v4 < ((v1.length : Nat) : Int)))) (
   cond ((decide (0 ≤ v4)) && (decide (v4 < ((v2.length : Nat) : Int)))) (
    cond (!((decide ((rd (.pair (.int .i64) (.pair (.int .i64) (.int .i64))) v1 (Int.toNat v4)).1 = (rd (.pair (.int .i64) (.pair (.int .i64) (.int .i64))) v2 (Int.toNat v4)).1)) && ((decide ((rd (.pair (.int .i64) (.pair (.int .i64) (.int .i64))) v1 (Int.toNat v4)).2.1 = (rd (.pair (.int .i64) (.pair (.int .i64) (.int .i64))) v2 (Int.toNat v4)).2.1)) && ((decide ((rd (.pair (.int .i64) (.pair (.int .i64) (.int .i64))) v1 (Int.toNat v4)).2.2 = (rd (.pair (.int .i64) (.pair (.int .i64) (.int .i64))) v2 (Int.toNat v4)).2.2)) && true)))) (
     some (R3.ret ((false, ()), ((), ())))) (
     some (R3.next ((v1, (v2, (v3, ((IntKind.wrap .i64 (v4 + 1)), ())))), ((), ()))))) (
    none)) (
   none)) (
  some (R3.out ((), ((), ()))))
noncomputable def u66_4 (z : X66_4) : Option (R3 X66_4 Y66_4 Z66_4) := t66_4 z.1.1 z.1.2.1 z.1.2.2.1 z.1.2.2.2.1
noncomputable def f66 (v1 : (List (Int × (Int × Int)))) (v2 : (List (Int × (Int × Int)))) : Option (Bool × Unit) :=
 cond (!(decide (((v1.length : Nat) : Int) = ((v2.length : Nat) : Int)))) (
  some (false, ())) (
  ((iter big u66_4 ((v1, (v2, (((v1.length : Nat) : Int), (0, ())))), ((), ())))).bind fun r => match r with
  | .inl y3 =>
    some (true, ())
  | .inr z4 =>
    some (z4.1.1, ()))
noncomputable def f35 (v1 : (List (Int × (Int × Int)))) (v2 : (List (Int × (Int × Int)))) : Option (Bool × Unit) :=
 ((f66 v1 v2)).bind fun y3 =>
 some (y3.1, ())
abbrev X67_4 : Type := ((List (Int × (Int × (Int × (Int × Int))))) × (List (Int × (Int × (Int × (Int × Int))))) × Int × Int × Unit) × (Unit) × (Unit)
abbrev Y67_4 : Type := (Unit) × (Unit) × (Unit)
abbrev Z67_4 : Type := (Bool × Unit) × (Unit) × (Unit)
noncomputable def t67_4 (v1 : (List (Int × (Int × (Int × (Int × Int)))))) (v2 : (List (Int × (Int × (Int × (Int × Int)))))) (v3 : Int) (v4 : Int) : Option (R3 X67_4 Y67_4 Z67_4) :=
 cond (decide (v4 < v3)) (
  cond ((decide (0 ≤ v4)) && (decide (v4 < ((v1.length : Nat) : Int)))) (
   cond ((decide (0 ≤ v4)) && (decide (v4 < ((v2.length : Nat) : Int)))) (
    cond (!((decide ((rd (.pair (.int .i64) (.pair (.int .i64) (.pair (.int .i64) (.pair (.int .i64) (.int .i64))))) v1 (Int.toNat v4)).1 = (rd (.pair (.int .i64) (.pair (.int .i64) (.pair (.int .i64) (.pair (.int .i64) (.int .i64))))) v2 (Int.toNat v4)).1)) && ((decide ((rd (.pair (.int .i64) (.pair (.int .i64) (.pair (.int .i64) (.pair (.int .i64) (.int .i64))))) v1 (Int.toNat v4)).2.1 = (rd (.pair (.int .i64) (.pair (.int .i64) (.pair (.int .i64) (.pair (.int .i64) (.int .i64))))) v2 (Int.toNat v4)).2.1)) && ((decide ((rd (.pair (.int .i64) (.pair (.int .i64) (.pair (.int .i64) (.pair (.int .i64) (.int .i64))))) v1 (Int.toNat v4)).2.2.1 = (rd (.pair (.int .i64) (.pair (.int .i64) (.pair (.int .i64) (.pair (.int .i64) (.int .i64))))) v2 (Int.toNat v4)).2.2.1)) && ((decide ((rd (.pair (.int .i64) (.pair (.int .i64) (.pair (.int .i64) (.pair (.int .i64) (.int .i64))))) v1 (Int.toNat v4)).2.2.2.1 = (rd (.pair (.int .i64) (.pair (.int .i64) (.pair (.int .i64) (.pair (.int .i64) (.int .i64))))) v2 (Int.toNat v4)).2.2.2.1)) && ((decide ((rd (.pair (.int .i64) (.pair (.int .i64) (.pair (.int .i64) (.pair (.int .i64) (.int .i64))))) v1 (Int.toNat v4)).2.2.2.2 = (rd (.pair (.int .i64) (.pair (.int .i64) (.pair (.int .i64) (.pair (.int .i64) (.int .i64))))) v2 (Int.toNat v4)).2.2.2.2)) && true)))))) (
     some (R3.ret ((false, ()), ((), ())))) (
     some (R3.next ((v1, (v2, (v3, ((IntKind.wrap .i64 (v4 + 1)), ())))), ((), ()))))) (
    none)) (
   none)) (
  some (R3.out ((), ((), ()))))
noncomputable def u67_4 (z : X67_4) : Option (R3 X67_4 Y67_4 Z67_4) := t67_4 z.1.1 z.1.2.1 z.1.2.2.1 z.1.2.2.2.1
noncomputable def f67 (v1 : (List (Int × (Int × (Int × (Int × Int)))))) (v2 : (List (Int × (Int × (Int × (Int × Int)))))) : Option (Bool × Unit) :=
 cond (!(decide (((v1.length : Nat) : Int) = ((v2.length : Nat) : Int)))) (
  some (false, ())) (
  ((iter big u67_4 ((v1, (v2, (((v1.length : Nat) : Int), (0, ())))), ((), ())))).bind fun r => match r with
  | .inl y3 =>
    some (true, ())
  | .inr z4 =>
    some (z4.1.1, ()))
noncomputable def f36 (v1 : (List (Int × (Int × (Int × (Int × Int)))))) (v2 : (List (Int × (Int × (Int × (Int × Int)))))) : Option (Bool × Unit) :=
 ((f67 v1 v2)).bind fun y3 =>
 some (y3.1, ())
abbrev X68_4 : Type := ((List (Int × (Int × Int))) × (List (Int × (Int × Int))) × Int × Int × Unit) × (Unit) × (Unit)
abbrev Y68_4 : Type := (Unit) × (Unit) × (Unit)
abbrev Z68_4 : Type := (Bool × Unit) × (Unit) × (Unit)
noncomputable def t68_4 (v1 : (List (Int × (Int × Int)))) (v2 : (List (Int × (Int × Int)))) (v3 : Int) (v4 : Int) : Option (R3 X68_4 Y68_4 Z68_4) :=
 cond (decide (v4 < v3)) (
  cond ((decide (0 ≤ v4)) && (decide (v4 < ((v1.length : Nat) : Int)))) (
   cond ((decide (0 ≤ v4)) && (decide (v4 < ((v2.length : Nat) : Int)))) (
    cond (!((decide ((rd (.pair (.int .i64) (.pair (.int .i64) (.int .i64))) v1 (Int.toNat v4)).1 = (rd (.pair (.int .i64) (.pair (.int .i64) (.int .i64))) v2 (Int.toNat v4)).1)) && ((decide ((rd (.pair (.int .i64) (.pair (.int .i64) (.int .i64))) v1 (Int.toNat v4)).2.1 = (rd (.pair (.int .i64) (.pair (.int .i64) (.int .i64))) v2 (Int.toNat v4)).2.1)) && ((decide ((rd (.pair (.int .i64) (.pair (.int .i64) (.int .i64))) v1 (Int.toNat v4)).2.2 = (rd (.pair (.int .i64) (.pair (.int .i64) (.int .i64))) v2 (Int.toNat v4)).2.2)) && true)))) (
     some (R3.ret ((false, ()), ((), ())))) (
     some (R3.next ((v1, (v2, (v3, ((IntKind.wrap .i64 (v4 + 1)), ())))), ((), ()))))) (
    none)) (
   none)) (
  some (R3.out ((), ((), ()))))
noncomputable def u68_4 (z : X68_4) : Option (R3 X68_4 Y68_4 Z68_4) := t68_4 z.1.1 z.1.2.1 z.1.2.2.1 z.1.2.2.2.1
noncomputable def f68 (v1 : (List (Int × (Int × Int)))) (v2 : (List (Int × (Int × Int)))) : Option (Bool × Unit) :=
 cond (!(decide (((v1.length : Nat) : Int) = ((v2.length : Nat) : Int)))) (
  some (false, ())) (
  ((iter big u68_4 ((v1, (v2, (((v1.length : Nat) : Int), (0, ())))), ((), ())))).bind fun r => match r with
  | .inl y3 =>
    some (true, ())
  | .inr z4 =>
    some (z4.1.1, ()))
noncomputable def f37 (v1 : (List (Int × (Int × Int)))) (v2 : (List (Int × (Int × Int)))) : Option (Bool × Unit) :=
 ((f68 v1 v2)).bind fun y3 =>
 some (y3.1, ())
noncomputable def f13 (v1 : Int) (v2 : Int) (v3 : Int) (v4 : Int) (v5 : Int) (v6 : Int) (v7 : Int) (v8 : Int) (v9 : Int) (v10 : Int) (v11 : Int) (v12 : Bool) (v13 : Int) (v14 : (List (Int × (Int × Int)))) (v15 : (List (Int × (Int × (Int × (Int × Int)))))) (v16 : (List (Int × (Int × Int)))) (v17 : Int) (v18 : Int) (v19 : Int) (v20 : Int) (v21 : Int) (v22 : Int) (v23 : Int) (v24 : Int) (v25 : Int) (v26 : Int) (v27 : Int) (v28 : Bool) (v29 : Int) (v30 : (List (Int × (Int × Int)))) (v31 : (List (Int × (Int × (Int × (Int × Int)))))) (v32 : (List (Int × (Int × Int)))) : Option (Bool × Unit) :=
 cond (((decide (v1 = v17)) && ((decide (v2 = v18)) && true)) && (((decide (v3 = v19)) && ((decide (v4 = v20)) && true)) && ((decide (v5 = v21)) && ((decide (v6 = v22)) && ((decide (v7 = v23)) && ((decide (v8 = v24)) && true)))))) (
  cond ((decide (v9 = v25)) && ((decide (v10 = v26)) && ((decide (v11 = v27)) && ((v12 == v28) && true)))) (
   cond (decide (v13 = v29)) (
    ((f35 v14 v30)).bind fun y33 =>
    cond y33.1 (
     ((f36 v15 v31)).bind fun y34 =>
     cond y34.1 (
      ((f37 v16 v32)).bind fun y35 =>
      some (y35.1, ())) (
      some (false, ()))) (
     some (false, ()))) (
    some (false, ()))) (
   some (false, ()))) (
  some (false, ()))
noncomputable def f90 (v1 : Int) (v2 : Int) (v3 : Int) : Option (Bool × Unit) :=
 cond (decide (v2 ≤ v1)) (
  some ((decide (v1 ≤ v3)), ())) (
  some (false, ()))
noncomputable def f45 (v1 : Int) (v2 : Int) (v3 : Int) (v4 : Int) (v5 : Int) (v6 : Int) (v7 : Int) (v8 : Int) (v9 : Bool) : Option (Bool × Unit) :=
 ((f90 v2 0 1073741824)).bind fun y10 =>
 cond (!y10.1) (
  some (false, ())) (
  cond (!(decide (v1 = 6))) (
   cond (!((decide (v6 = 0)) && ((decide (v7 = 0)) && ((decide (v8 = 0)) && ((v9 == false) && true))))) (
    some (false, ())) (
    cond (decide (v1 = 0)) (
     ((f90 v3 0 31)).bind fun y11 =>
     cond y11.1 (
      ((f90 v4 0 3)).bind fun y12 =>
      cond y12.1 (
       ((f90 v5 0 7)).bind fun y13 =>
       some (y13.1, ())) (
       some (false, ()))) (
      some (false, ()))) (
     cond (decide (v1 = 1)) (
      ((f90 v3 0 31)).bind fun y14 =>
      cond y14.1 (
       ((f90 v4 0 3)).bind fun y15 =>
       cond y15.1 (
        ((f90 v5 0 7)).bind fun y16 =>
        some (y16.1, ())) (
        some (false, ()))) (
       some (false, ()))) (
      cond (decide (v1 = 2)) (
       ((f90 v3 0 3)).bind fun y17 =>
       cond y17.1 (
        ((f90 v4 1 4)).bind fun y18 =>
        cond y18.1 (
         ((f90 v5 0 0)).bind fun y19 =>
         some (y19.1, ())) (
         some (false, ()))) (
        some (false, ()))) (
       cond (decide (v1 = 4)) (
        ((f90 v3 0 2)).bind fun y20 =>
        cond y20.1 (
         ((f90 v4 1 4)).bind fun y21 =>
         cond y21.1 (
          ((f90 v5 0 0)).bind fun y22 =>
          some (y22.1, ())) (
          some (false, ()))) (
         some (false, ()))) (
        cond (decide (v1 = 3)) (
         ((f90 v3 0 2)).bind fun y23 =>
         cond y23.1 (
          ((f90 v4 0 0)).bind fun y24 =>
          cond y24.1 (
           ((f90 v5 0 0)).bind fun y25 =>
           some (y25.1, ())) (
           some (false, ()))) (
          some (false, ()))) (
         cond (decide (v1 = 5)) (
          ((f90 v3 0 2)).bind fun y26 =>
          cond y26.1 (
           ((f90 v4 0 0)).bind fun y27 =>
           cond y27.1 (
            ((f90 v5 0 0)).bind fun y28 =>
            some (y28.1, ())) (
            some (false, ()))) (
           some (false, ()))) (
          cond (decide (v1 = 6)) (
           ((f39 v6 v7 v8 v9)).bind fun y29 =>
           cond (!y29.1) (
            some (false, ())) (
            ((f90 v3 0 0)).bind fun y30 =>
            cond y30.1 (
             ((f90 v4 0 0)).bind fun y31 =>
             cond y31.1 (
              ((f90 v5 0 0)).bind fun y32 =>
              some (y32.1, ())) (
              some (false, ()))) (
             some (false, ())))) (
           some (false, ())))))))))) (
   cond (decide (v1 = 0)) (
    ((f90 v3 0 31)).bind fun y33 =>
    cond y33.1 (
     ((f90 v4 0 3)).bind fun y34 =>
     cond y34.1 (
      ((f90 v5 0 7)).bind fun y35 =>
      some (y35.1, ())) (
      some (false, ()))) (
     some (false, ()))) (
    cond (decide (v1 = 1)) (
     ((f90 v3 0 31)).bind fun y36 =>
     cond y36.1 (
      ((f90 v4 0 3)).bind fun y37 =>
      cond y37.1 (
       ((f90 v5 0 7)).bind fun y38 =>
       some (y38.1, ())) (
       some (false, ()))) (
      some (false, ()))) (
     cond (decide (v1 = 2)) (
      ((f90 v3 0 3)).bind fun y39 =>
      cond y39.1 (
       ((f90 v4 1 4)).bind fun y40 =>
       cond y40.1 (
        ((f90 v5 0 0)).bind fun y41 =>
        some (y41.1, ())) (
        some (false, ()))) (
       some (false, ()))) (
      cond (decide (v1 = 4)) (
       ((f90 v3 0 2)).bind fun y42 =>
       cond y42.1 (
        ((f90 v4 1 4)).bind fun y43 =>
        cond y43.1 (
         ((f90 v5 0 0)).bind fun y44 =>
         some (y44.1, ())) (
         some (false, ()))) (
        some (false, ()))) (
       cond (decide (v1 = 3)) (
        ((f90 v3 0 2)).bind fun y45 =>
        cond y45.1 (
         ((f90 v4 0 0)).bind fun y46 =>
         cond y46.1 (
          ((f90 v5 0 0)).bind fun y47 =>
          some (y47.1, ())) (
          some (false, ()))) (
         some (false, ()))) (
        cond (decide (v1 = 5)) (
         ((f90 v3 0 2)).bind fun y48 =>
         cond y48.1 (
          ((f90 v4 0 0)).bind fun y49 =>
          cond y49.1 (
           ((f90 v5 0 0)).bind fun y50 =>
           some (y50.1, ())) (
           some (false, ()))) (
          some (false, ()))) (
         cond (decide (v1 = 6)) (
          ((f39 v6 v7 v8 v9)).bind fun y51 =>
          cond (!y51.1) (
           some (false, ())) (
           ((f90 v3 0 0)).bind fun y52 =>
           cond y52.1 (
            ((f90 v4 0 0)).bind fun y53 =>
            cond y53.1 (
             ((f90 v5 0 0)).bind fun y54 =>
             some (y54.1, ())) (
             some (false, ()))) (
            some (false, ())))) (
          some (false, ()))))))))))
abbrev X142_3 : Type := (Int × (List Int) × Int × Int × Unit) × (Unit) × (Unit)
abbrev Y142_3 : Type := (Int × Unit) × (Unit) × (Unit)
abbrev Z142_3 : Type := (Int × Unit) × (Unit) × (Unit)
noncomputable def t142_3 (v1 : Int) (v2 : (List Int)) (v3 : Int) (v4 : Int) : Option (R3 X142_3 Y142_3 Z142_3) :=
 cond (decide (v4 < v3)) (
  cond ((decide (0 ≤ v4)) && (decide (v4 < ((v2.length : Nat) : Int)))) (
   cond (!(decide ((rd (.int .i64) v2 (Int.toNat v4)) = v1))) (
    some (R3.ret (((rd (.int .i64) v2 (Int.toNat v4)), ()), ((), ())))) (
    some (R3.next ((v1, (v2, (v3, ((IntKind.wrap .i64 (v4 + 1)), ())))), ((), ()))))) (
   none)) (
  some (R3.out ((v1, ()), ((), ()))))
noncomputable def u142_3 (z : X142_3) : Option (R3 X142_3 Y142_3 Z142_3) := t142_3 z.1.1 z.1.2.1 z.1.2.2.1 z.1.2.2.2.1
noncomputable def f142 (v1 : (List Int)) : Option (Int × Unit) :=
 ((iter big u142_3 ((0, (v1, (((v1.length : Nat) : Int), (0, ())))), ((), ())))).bind fun r => match r with
 | .inl y2 =>
   some (y2.1.1, ())
 | .inr z3 =>
   some (z3.1.1, ())
noncomputable def f160 (v1 : Int) : Option (Bool × Unit) :=
 some ((!(decide (v1 = v1))), ())
noncomputable def f143 (v1 : Int) (v2 : Int) : Option (Int × Unit) :=
 ((f160 v1)).bind fun y3 =>
 ((f160 v2)).bind fun y4 =>
 cond y3.1 (
  cond y4.1 (
   some (0, ())) (
   some ((-1), ()))) (
  cond y4.1 (
   some (1, ())) (
   cond (decide (v1 < v2)) (
    some ((-1), ())) (
    cond (decide (v2 < v1)) (
     some (1, ())) (
     some (0, ())))))
noncomputable def f132 (v1 : Int) (v2 : Int) (v3 : Int) (v4 : Int) : Option (Int × Unit) :=
 ((f143 v1 v3)).bind fun y5 =>
 ((f143 v2 v4)).bind fun y6 =>
 ((f142 [y5.1, y6.1])).bind fun y7 =>
 some (y7.1, ())
abbrev X120_52_2_0 : Type := ((List (Int × (Int × (Int × (Int × Int))))) × Unit × Int × Int × Unit) × ((Int × Int × Unit) × (Unit × Unit) × Unit) × (Unit)
abbrev Y120_52_2_0 : Type := (Unit) × ((Int × Int × Unit) × (Unit × Unit) × Unit) × (Unit)
abbrev Z120_52_2_0 : Type := (Int × Unit) × ((Int × Int × Unit) × (Unit × Unit) × Unit) × (Unit)
noncomputable def t120_52_2_0 (v1 : (List (Int × (Int × (Int × (Int × Int)))))) (v2 : Int) (v3 : Int) (v4 : Int) (v5 : Int) : Option (R3 X120_52_2_0 Y120_52_2_0 Z120_52_2_0) :=
 cond (decide (v3 < v2)) (
  cond ((decide (0 ≤ v3)) && (decide (v3 < ((v1.length : Nat) : Int)))) (
   ((f108 (rd (.pair (.int .i64) (.pair (.int .i64) (.pair (.int .i64) (.pair (.int .i64) (.int .i64))))) v1 (Int.toNat v3)).1 (rd (.pair (.int .i64) (.pair (.int .i64) (.pair (.int .i64) (.pair (.int .i64) (.int .i64))))) v1 (Int.toNat v3)).2.1 (rd (.pair (.int .i64) (.pair (.int .i64) (.pair (.int .i64) (.pair (.int .i64) (.int .i64))))) v1 (Int.toNat v3)).2.2.1 (rd (.pair (.int .i64) (.pair (.int .i64) (.pair (.int .i64) (.pair (.int .i64) (.int .i64))))) v1 (Int.toNat v3)).2.2.2.1 (rd (.pair (.int .i64) (.pair (.int .i64) (.pair (.int .i64) (.pair (.int .i64) (.int .i64))))) v1 (Int.toNat v3)).2.2.2.2)).bind fun y6 =>
   ((f132 y6.1.1 y6.1.2 v4 v5)).bind fun y7 =>
   cond (decide (0 < y7.1)) (
    some (R3.ret ((v3, ()), (((v4, (v5, ())), (((), ()), ())), ())))) (
    some (R3.next ((v1, ((), (v2, ((IntKind.wrap .i64 (v3 + 1)), ())))), (((v4, (v5, ())), (((), ()), ())), ()))))) (
   none)) (
  some (R3.out ((), (((v4, (v5, ())), (((), ()), ())), ()))))
noncomputable def u120_52_2_0 (z : X120_52_2_0) : Option (R3 X120_52_2_0 Y120_52_2_0 Z120_52_2_0) := t120_52_2_0 z.1.1 z.1.2.2.1 z.1.2.2.2.1 z.2.1.1.1 z.2.1.1.2.1
noncomputable def f120 (v1 : (List (Int × (Int × (Int × (Int × Int)))))) (v2 : Int) (v3 : Int) : Option (Int × Unit) :=
 ((iter big u120_52_2_0 ((v1, ((), (((v1.length : Nat) : Int), (0, ())))), (((v2, (v3, ())), (((), ()), ())), ())))).bind fun r => match r with
 | .inl y4 =>
   some (((v1.length : Nat) : Int), ())
 | .inr z5 =>
   cond (decide (z5.1.1 = (-1))) (
    some (((v1.length : Nat) : Int), ())) (
    some (z5.1.1, ()))
noncomputable def f109 (v1 : (List (Int × (Int × (Int × (Int × Int)))))) (v2 : Int) (v3 : Int) (v4 : Int) (v5 : Int) (v6 : Int) : Option ((List (Int × (Int × (Int × (Int × Int))))) × (Bool × Unit)) :=
 ((fCloneLease v1)).bind fun y7 =>
 ((f89 v1 v3 v4)).bind fun y8 =>
 cond (!(decide (y8.1 = (-1)))) (
  some (y7.1, (false, ()))) (
  cond (decide (32 ≤ ((v1.length : Nat) : Int))) (
   some (y7.1, (false, ()))) (
   ((f108 v2 v3 v4 v5 v6)).bind fun y9 =>
   ((f120 v1 y9.1.1 y9.1.2)).bind fun y10 =>
   ((fInsLease y7.1 y10.1 [(v2, (v3, (v4, (v5, v6))))])).bind fun y11 =>
   some (y11, (true, ()))))
noncomputable def f110 (v1 : (List (Int × (Int × (Int × (Int × Int)))))) (v2 : Int) (v3 : Int) : Option ((List (Int × (Int × (Int × (Int × Int))))) × (Bool × Unit)) :=
 ((fCloneLease v1)).bind fun y4 =>
 ((f89 v1 v2 v3)).bind fun y5 =>
 cond (decide (y5.1 = (-1))) (
  some (y4.1, (false, ()))) (
  cond ((((decide (0 ≤ y5.1)) && (decide (y5.1 ≤ (IntKind.wrap .i64 (y5.1 + 1))))) && (decide ((IntKind.wrap .i64 (y5.1 + 1)) ≤ ((y4.1.length : Nat) : Int)))) && (decide ((0 + ((y4.1.length : Nat) : Int)) ≤ ((y4.1.length : Nat) : Int)))) (
   cond (decide (y5.1 = (IntKind.wrap .i64 (y5.1 + 1)))) (
    some (y4.1, (true, ()))) (
    cond ((decide (0 ≤ y5.1)) && (decide ((0 + y5.1) ≤ ((y4.1.length : Nat) : Int)))) (
     cond (((decide (0 ≤ (IntKind.wrap .i64 (y5.1 + 1)))) && (decide ((IntKind.wrap .i64 (y5.1 + 1)) ≤ (((y4.1.length - 0) : Nat) : Int)))) && (decide ((0 + (((y4.1.length - 0) : Nat) : Int)) ≤ ((y4.1.length : Nat) : Int)))) (
      cond (decide (((0 + (Int.toNat y5.1)) + (List.drop (0 + (Int.toNat (IntKind.wrap .i64 (y5.1 + 1)))) (List.take (0 + (Int.toNat (((y4.1.length - 0) : Nat) : Int))) y4.1)).length) ≤ y4.1.length)) (
       cond (((decide (0 ≤ (((((0 + (Int.toNat y5.1)) + (List.drop (0 + (Int.toNat (IntKind.wrap .i64 (y5.1 + 1)))) (List.take (0 + (Int.toNat (((y4.1.length - 0) : Nat) : Int))) y4.1)).length) - 0) : Nat) : Int))) && (decide ((((((0 + (Int.toNat y5.1)) + (List.drop (0 + (Int.toNat (IntKind.wrap .i64 (y5.1 + 1)))) (List.take (0 + (Int.toNat (((y4.1.length - 0) : Nat) : Int))) y4.1)).length) - 0) : Nat) : Int) ≤ ((y4.1.length : Nat) : Int)))) && (decide ((0 + ((y4.1.length : Nat) : Int)) ≤ (((((List.take (0 + (Int.toNat y5.1)) y4.1) ++ (List.drop (0 + (Int.toNat (IntKind.wrap .i64 (y5.1 + 1)))) (List.take (0 + (Int.toNat (((y4.1.length - 0) : Nat) : Int))) y4.1))) ++ (List.drop ((0 + (Int.toNat y5.1)) + (List.drop (0 + (Int.toNat (IntKind.wrap .i64 (y5.1 + 1)))) (List.take (0 + (Int.toNat (((y4.1.length - 0) : Nat) : Int))) y4.1)).length) y4.1)).length : Nat) : Int)))) (
        some ((List.drop 0 (List.take ((0 + (Int.toNat y5.1)) + (List.drop (0 + (Int.toNat (IntKind.wrap .i64 (y5.1 + 1)))) (List.take (0 + (Int.toNat (((y4.1.length - 0) : Nat) : Int))) y4.1)).length) (((List.take (0 + (Int.toNat (((((0 + (Int.toNat y5.1)) + (List.drop (0 + (Int.toNat (IntKind.wrap .i64 (y5.1 + 1)))) (List.take (0 + (Int.toNat (((y4.1.length - 0) : Nat) : Int))) y4.1)).length) - 0) : Nat) : Int))) (((List.take (0 + (Int.toNat y5.1)) y4.1) ++ (List.drop (0 + (Int.toNat (IntKind.wrap .i64 (y5.1 + 1)))) (List.take (0 + (Int.toNat (((y4.1.length - 0) : Nat) : Int))) y4.1))) ++ (List.drop ((0 + (Int.toNat y5.1)) + (List.drop (0 + (Int.toNat (IntKind.wrap .i64 (y5.1 + 1)))) (List.take (0 + (Int.toNat (((y4.1.length - 0) : Nat) : Int))) y4.1)).length) y4.1))) ++ (List.replicate ((0 + (Int.toNat ((y4.1.length : Nat) : Int))) - (0 + (Int.toNat (((((0 + (Int.toNat y5.1)) + (List.drop (0 + (Int.toNat (IntKind.wrap .i64 (y5.1 + 1)))) (List.take (0 + (Int.toNat (((y4.1.length - 0) : Nat) : Int))) y4.1)).length) - 0) : Nat) : Int)))) (0, (0, (0, (0, 0)))))) ++ (List.drop ((0 + (Int.toNat (((((0 + (Int.toNat y5.1)) + (List.drop (0 + (Int.toNat (IntKind.wrap .i64 (y5.1 + 1)))) (List.take (0 + (Int.toNat (((y4.1.length - 0) : Nat) : Int))) y4.1)).length) - 0) : Nat) : Int))) + ((0 + (Int.toNat ((y4.1.length : Nat) : Int))) - (0 + (Int.toNat (((((0 + (Int.toNat y5.1)) + (List.drop (0 + (Int.toNat (IntKind.wrap .i64 (y5.1 + 1)))) (List.take (0 + (Int.toNat (((y4.1.length - 0) : Nat) : Int))) y4.1)).length) - 0) : Nat) : Int))))) (((List.take (0 + (Int.toNat y5.1)) y4.1) ++ (List.drop (0 + (Int.toNat (IntKind.wrap .i64 (y5.1 + 1)))) (List.take (0 + (Int.toNat (((y4.1.length - 0) : Nat) : Int))) y4.1))) ++ (List.drop ((0 + (Int.toNat y5.1)) + (List.drop (0 + (Int.toNat (IntKind.wrap .i64 (y5.1 + 1)))) (List.take (0 + (Int.toNat (((y4.1.length - 0) : Nat) : Int))) y4.1)).length) y4.1)))))), (true, ()))) (
        none)) (
       none)) (
      none)) (
     none))) (
   none))
noncomputable def f133 (v1 : Int) (v2 : Int) (v3 : Int) : Option (((Int × Int) × (Int × (Int × Int))) × Unit) :=
 some (((v1, v2), (v1, (v2, v3))), ())
noncomputable def f123 (v1 : Int) (v2 : Int) (v3 : Int) : Option ((Int × Int) × Unit) :=
 ((f133 v1 v2 v3)).bind fun y4 =>
 some ((y4.1.1.1, y4.1.1.2), ())
abbrev X125_94_2_0 : Type := ((List (Int × (Int × Int))) × Unit × Int × Int × Unit) × ((Int × Int × Unit) × (Unit × Unit) × Unit) × (Unit)
abbrev Y125_94_2_0 : Type := (Unit) × ((Int × Int × Unit) × (Unit × Unit) × Unit) × (Unit)
abbrev Z125_94_2_0 : Type := (Int × Unit) × ((Int × Int × Unit) × (Unit × Unit) × Unit) × (Unit)
noncomputable def t125_94_2_0 (v1 : (List (Int × (Int × Int)))) (v2 : Int) (v3 : Int) (v4 : Int) (v5 : Int) : Option (R3 X125_94_2_0 Y125_94_2_0 Z125_94_2_0) :=
 cond (decide (v3 < v2)) (
  cond ((decide (0 ≤ v3)) && (decide (v3 < ((v1.length : Nat) : Int)))) (
   ((f123 (rd (.pair (.int .i64) (.pair (.int .i64) (.int .i64))) v1 (Int.toNat v3)).1 (rd (.pair (.int .i64) (.pair (.int .i64) (.int .i64))) v1 (Int.toNat v3)).2.1 (rd (.pair (.int .i64) (.pair (.int .i64) (.int .i64))) v1 (Int.toNat v3)).2.2)).bind fun y6 =>
   ((f132 y6.1.1 y6.1.2 v4 v5)).bind fun y7 =>
   cond (decide (0 < y7.1)) (
    some (R3.ret ((v3, ()), (((v4, (v5, ())), (((), ()), ())), ())))) (
    some (R3.next ((v1, ((), (v2, ((IntKind.wrap .i64 (v3 + 1)), ())))), (((v4, (v5, ())), (((), ()), ())), ()))))) (
   none)) (
  some (R3.out ((), (((v4, (v5, ())), (((), ()), ())), ()))))
noncomputable def u125_94_2_0 (z : X125_94_2_0) : Option (R3 X125_94_2_0 Y125_94_2_0 Z125_94_2_0) := t125_94_2_0 z.1.1 z.1.2.2.1 z.1.2.2.2.1 z.2.1.1.1 z.2.1.1.2.1
noncomputable def f125 (v1 : (List (Int × (Int × Int)))) (v2 : Int) (v3 : Int) : Option (Int × Unit) :=
 ((iter big u125_94_2_0 ((v1, ((), (((v1.length : Nat) : Int), (0, ())))), (((v2, (v3, ())), (((), ()), ())), ())))).bind fun r => match r with
 | .inl y4 =>
   some (((v1.length : Nat) : Int), ())
 | .inr z5 =>
   cond (decide (z5.1.1 = (-1))) (
    some (((v1.length : Nat) : Int), ())) (
    some (z5.1.1, ()))
abbrev X111_94_2_0 : Type := (Unit × Unit × Int × Int × Unit) × ((Int × Int × Int × Unit) × (List (Int × (Int × Int))) × Unit) × (Unit)
abbrev Y111_94_2_0 : Type := (Unit) × ((Int × Int × Int × Unit) × (List (Int × (Int × Int))) × Unit) × (Unit)
abbrev Z111_94_2_0 : Type := (Int × Unit) × ((Int × Int × Int × Unit) × (List (Int × (Int × Int))) × Unit) × (Unit)
noncomputable def t111_94_2_0 (v1 : Int) (v2 : Int) (v3 : Int) (v4 : Int) (v5 : Int) (v6 : (List (Int × (Int × Int)))) : Option (R3 X111_94_2_0 Y111_94_2_0 Z111_94_2_0) :=
 cond (decide (v2 < v1)) (
  cond ((decide (0 ≤ v2)) && (decide (v2 < ((v6.length : Nat) : Int)))) (
   cond (decide ((Int.toNat v2) < v6.length)) (
    ((f123 (rd (.pair (.int .i64) (.pair (.int .i64) (.int .i64))) v6 (Int.toNat v2)).1 (rd (.pair (.int .i64) (.pair (.int .i64) (.int .i64))) v6 (Int.toNat v2)).2.1 (rd (.pair (.int .i64) (.pair (.int .i64) (.int .i64))) v6 (Int.toNat v2)).2.2)).bind fun y7 =>
    ((f123 v3 v4 v5)).bind fun y8 =>
    cond ((decide (y7.1.1 = y8.1.1)) && ((decide (y7.1.2 = y8.1.2)) && true)) (
     some (R3.ret ((v2, ()), (((v3, (v4, (v5, ()))), (v6, ())), ())))) (
     some (R3.next (((), ((), (v1, ((IntKind.wrap .i64 (v2 + 1)), ())))), (((v3, (v4, (v5, ()))), (v6, ())), ()))))) (
    none)) (
   none)) (
  some (R3.out ((), (((v3, (v4, (v5, ()))), (v6, ())), ()))))
noncomputable def u111_94_2_0 (z : X111_94_2_0) : Option (R3 X111_94_2_0 Y111_94_2_0 Z111_94_2_0) := t111_94_2_0 z.1.2.2.1 z.1.2.2.2.1 z.2.1.1.1 z.2.1.1.2.1 z.2.1.1.2.2.1 z.2.1.2.1
abbrev X111_50_5_0 : Type := (Unit × Unit × Int × Int × Unit) × ((Int × Int × Int × Unit) × (List (Int × (Int × Int))) × Unit) × (Unit)
abbrev Y111_50_5_0 : Type := (Unit × Int × Unit) × ((Int × Int × Int × Unit) × (List (Int × (Int × Int))) × Unit) × (Unit)
abbrev Z111_50_5_0 : Type := (Unit) × ((Int × Int × Int × Unit) × (List (Int × (Int × Int))) × Unit) × (Unit)
noncomputable def t111_50_5_0 (v1 : Int) (v2 : Int) (v3 : Int) (v4 : Int) (v5 : Int) (v6 : (List (Int × (Int × Int)))) : Option (R3 X111_50_5_0 Y111_50_5_0 Z111_50_5_0) :=
 cond (decide (v2 < ((v6.length : Nat) : Int))) (
  cond ((decide (0 ≤ v2)) && (decide (v2 < ((v6.length : Nat) : Int)))) (
   cond (decide ((Int.toNat v2) < v6.length)) (
    ((f123 (rd (.pair (.int .i64) (.pair (.int .i64) (.int .i64))) v6 (Int.toNat v2)).1 (rd (.pair (.int .i64) (.pair (.int .i64) (.int .i64))) v6 (Int.toNat v2)).2.1 (rd (.pair (.int .i64) (.pair (.int .i64) (.int .i64))) v6 (Int.toNat v2)).2.2)).bind fun y7 =>
    ((f123 v3 v4 v5)).bind fun y8 =>
    cond (!((decide (y7.1.1 = y8.1.1)) && ((decide (y7.1.2 = y8.1.2)) && true))) (
     cond ((decide (0 ≤ v1)) && (decide (v1 < ((v6.length : Nat) : Int)))) (
      cond (decide ((Int.toNat v1) < v6.length)) (
       some (R3.next (((), ((), ((IntKind.wrap .i64 (v1 + 1)), ((IntKind.wrap .i64 (v2 + 1)), ())))), (((v3, (v4, (v5, ()))), ((v6.set (Int.toNat v1) ((rd (.pair (.int .i64) (.pair (.int .i64) (.int .i64))) v6 (Int.toNat v2)).1, ((rd (.pair (.int .i64) (.pair (.int .i64) (.int .i64))) v6 (Int.toNat v2)).2.1, (rd (.pair (.int .i64) (.pair (.int .i64) (.int .i64))) v6 (Int.toNat v2)).2.2))), ())), ())))) (
       none)) (
      none)) (
     some (R3.next (((), ((), (v1, ((IntKind.wrap .i64 (v2 + 1)), ())))), (((v3, (v4, (v5, ()))), (v6, ())), ()))))) (
    none)) (
   none)) (
  some (R3.out (((), (v1, ())), (((v3, (v4, (v5, ()))), (v6, ())), ()))))
noncomputable def u111_50_5_0 (z : X111_50_5_0) : Option (R3 X111_50_5_0 Y111_50_5_0 Z111_50_5_0) := t111_50_5_0 z.1.2.2.1 z.1.2.2.2.1 z.2.1.1.1 z.2.1.1.2.1 z.2.1.1.2.2.1 z.2.1.2.1
noncomputable def f111 (v1 : (List (Int × (Int × Int)))) (v2 : Int) (v3 : Int) (v4 : Int) : Option ((List (Int × (Int × Int))) × Unit) :=
 ((fCloneHeld v1)).bind fun y5 =>
 ((iter big u111_94_2_0 (((), ((), (((y5.1.length : Nat) : Int), (0, ())))), (((v2, (v3, (v4, ()))), (y5.1, ())), ())))).bind fun r => match r with
 | .inl y6 =>
   ((f123 y6.2.1.1.1 y6.2.1.1.2.1 y6.2.1.1.2.2.1)).bind fun y8 =>
   ((f125 y6.2.1.2.1 y8.1.1 y8.1.2)).bind fun y9 =>
   ((fInsHeld y6.2.1.2.1 y9.1 [(y6.2.1.1.1, (y6.2.1.1.2.1, y6.2.1.1.2.2.1))])).bind fun y10 =>
   some (y10, ())
 | .inr z7 =>
   cond (decide (z7.1.1 = (-1))) (
    ((f123 z7.2.1.1.1 z7.2.1.1.2.1 z7.2.1.1.2.2.1)).bind fun y11 =>
    ((f125 z7.2.1.2.1 y11.1.1 y11.1.2)).bind fun y12 =>
    ((fInsHeld z7.2.1.2.1 y12.1 [(z7.2.1.1.1, (z7.2.1.1.2.1, z7.2.1.1.2.2.1))])).bind fun y13 =>
    some (y13, ())) (
    ((iter big u111_50_5_0 (((), ((), (z7.1.1, ((IntKind.wrap .i64 (z7.1.1 + 1)), ())))), (((z7.2.1.1.1, (z7.2.1.1.2.1, (z7.2.1.1.2.2.1, ()))), (z7.2.1.2.1, ())), ())))).bind fun r => match r with
    | .inl y14 =>
      cond (((decide (0 ≤ y14.1.2.1)) && (decide (y14.1.2.1 ≤ (((y14.2.1.2.1.length - 0) : Nat) : Int)))) && (decide ((0 + (((y14.2.1.2.1.length - 0) : Nat) : Int)) ≤ ((y14.2.1.2.1.length : Nat) : Int)))) (
       cond ((decide (0 ≤ y14.1.2.1)) && (decide ((0 + y14.1.2.1) ≤ (((((List.take (0 + (Int.toNat y14.1.2.1)) y14.2.1.2.1) ++ (List.replicate ((0 + (Int.toNat (((y14.2.1.2.1.length - 0) : Nat) : Int))) - (0 + (Int.toNat y14.1.2.1))) (0, (0, 0)))) ++ (List.drop ((0 + (Int.toNat y14.1.2.1)) + ((0 + (Int.toNat (((y14.2.1.2.1.length - 0) : Nat) : Int))) - (0 + (Int.toNat y14.1.2.1)))) y14.2.1.2.1)).length : Nat) : Int)))) (
        ((f123 y14.2.1.1.1 y14.2.1.1.2.1 y14.2.1.1.2.2.1)).bind fun y16 =>
        ((f125 (List.drop 0 (List.take (0 + (Int.toNat y14.1.2.1)) (((List.take (0 + (Int.toNat y14.1.2.1)) y14.2.1.2.1) ++ (List.replicate ((0 + (Int.toNat (((y14.2.1.2.1.length - 0) : Nat) : Int))) - (0 + (Int.toNat y14.1.2.1))) (0, (0, 0)))) ++ (List.drop ((0 + (Int.toNat y14.1.2.1)) + ((0 + (Int.toNat (((y14.2.1.2.1.length - 0) : Nat) : Int))) - (0 + (Int.toNat y14.1.2.1)))) y14.2.1.2.1)))) y16.1.1 y16.1.2)).bind fun y17 =>
        ((fInsHeld (List.take (0 + (Int.toNat y14.1.2.1)) (((List.take (0 + (Int.toNat y14.1.2.1)) y14.2.1.2.1) ++ (List.replicate ((0 + (Int.toNat (((y14.2.1.2.1.length - 0) : Nat) : Int))) - (0 + (Int.toNat y14.1.2.1))) (0, (0, 0)))) ++ (List.drop ((0 + (Int.toNat y14.1.2.1)) + ((0 + (Int.toNat (((y14.2.1.2.1.length - 0) : Nat) : Int))) - (0 + (Int.toNat y14.1.2.1)))) y14.2.1.2.1))) y17.1 [(y14.2.1.1.1, (y14.2.1.1.2.1, y14.2.1.1.2.2.1))])).bind fun y18 =>
        some (y18, ())) (
        none)) (
       none)
    | .inr z15 =>
      ((f123 z15.2.1.1.1 z15.2.1.1.2.1 z15.2.1.1.2.2.1)).bind fun y19 =>
      none)
abbrev X112_3 : Type := ((List (Int × (Int × (Int × (Int × Int))))) × Int × Int × Unit) × (Unit) × ((List Int) × Unit)
abbrev Y112_3 : Type := (Unit) × (Unit) × ((List Int) × Unit)
abbrev Z112_3 : Type := Unit × Unit × Unit
noncomputable def t112_3 (v1 : (List (Int × (Int × (Int × (Int × Int)))))) (v2 : Int) (v3 : Int) (v4 : (List Int)) : Option (R3 X112_3 Y112_3 Z112_3) :=
 cond (decide (v3 < v2)) (
  cond ((decide (0 ≤ v3)) && (decide (v3 < ((v1.length : Nat) : Int)))) (
   ((f118 (rd (.pair (.int .i64) (.pair (.int .i64) (.pair (.int .i64) (.pair (.int .i64) (.int .i64))))) v1 (Int.toNat v3)).1 (rd (.pair (.int .i64) (.pair (.int .i64) (.pair (.int .i64) (.pair (.int .i64) (.int .i64))))) v1 (Int.toNat v3)).2.1 (rd (.pair (.int .i64) (.pair (.int .i64) (.pair (.int .i64) (.pair (.int .i64) (.int .i64))))) v1 (Int.toNat v3)).2.2.1 (rd (.pair (.int .i64) (.pair (.int .i64) (.pair (.int .i64) (.pair (.int .i64) (.int .i64))))) v1 (Int.toNat v3)).2.2.2.1 (rd (.pair (.int .i64) (.pair (.int .i64) (.pair (.int .i64) (.pair (.int .i64) (.int .i64))))) v1 (Int.toNat v3)).2.2.2.2)).bind fun y5 =>
   cond ((decide (((v4.length + 1) * 8) ≤ 140737488355328)) && (decide ((v4.length + 1) ≤ 9223372036854775807))) (
    some (R3.next ((v1, (v2, ((IntKind.wrap .i64 (v3 + 1)), ()))), ((), ((v4 ++ [y5.1.1.1]), ()))))) (
    none)) (
   none)) (
  some (R3.out ((), ((), (v4, ())))))
noncomputable def u112_3 (z : X112_3) : Option (R3 X112_3 Y112_3 Z112_3) := t112_3 z.1.1 z.1.2.1 z.1.2.2.1 z.2.2.1
noncomputable def f112 (v1 : (List (Int × (Int × (Int × (Int × Int)))))) : Option ((List Int) × Unit) :=
 ((iter big u112_3 ((v1, (((v1.length : Nat) : Int), (0, ()))), ((), ([], ()))))).bind fun r => match r with
 | .inl y2 =>
   ((fSort y2.2.2.1)).bind fun y4 =>
   cond ((Nat.beq y4.length y2.2.2.1.length) && true) (
    ((fCompact y4)).bind fun y5 =>
    some (y5, ())) (
    none)
 | .inr z3 =>
   none
abbrev X158_4 : Type := ((List (Int × (Int × Int))) × Int × Unit × (List (Int × (Int × Int))) × Int × Int × Unit) × ((Int × Int × Int × Unit) × Unit) × (Unit)
abbrev Y158_4 : Type := ((List (Int × (Int × Int))) × Int × Unit) × (Unit) × (Unit)
abbrev Z158_4 : Type := (Int × Unit) × (Unit) × (Unit)
noncomputable def t158_4 (v1 : (List (Int × (Int × Int)))) (v2 : Int) (v3 : (List (Int × (Int × Int)))) (v4 : Int) (v5 : Int) (v6 : Int) (v7 : Int) (v8 : Int) : Option (R3 X158_4 Y158_4 Z158_4) :=
 cond (decide (v5 < v4)) (
  cond ((decide (0 ≤ v5)) && (decide (v5 < ((v3.length : Nat) : Int)))) (
   cond (decide (v5 = v2)) (
    some (R3.next ((v1, (v2, ((), (v3, (v4, ((IntKind.wrap .i64 (v5 + 1)), ())))))), (((v6, (v7, (v8, ()))), ()), ())))) (
    ((f82 v6 v7 v8 (rd (.pair (.int .i64) (.pair (.int .i64) (.int .i64))) v3 (Int.toNat v5)).1 (rd (.pair (.int .i64) (.pair (.int .i64) (.int .i64))) v3 (Int.toNat v5)).2.1 (rd (.pair (.int .i64) (.pair (.int .i64) (.int .i64))) v3 (Int.toNat v5)).2.2)).bind fun y9 =>
    cond y9.1 (
     some (R3.ret ((11, ()), ((), ())))) (
     some (R3.next ((v1, (v2, ((), (v3, (v4, ((IntKind.wrap .i64 (v5 + 1)), ())))))), (((v6, (v7, (v8, ()))), ()), ())))))) (
   none)) (
  some (R3.out ((v1, (v2, ())), ((), ()))))
noncomputable def u158_4 (z : X158_4) : Option (R3 X158_4 Y158_4 Z158_4) := t158_4 z.1.1 z.1.2.1 z.1.2.2.2.1 z.1.2.2.2.2.1 z.1.2.2.2.2.2.1 z.2.1.1.1 z.2.1.1.2.1 z.2.1.1.2.2.1
noncomputable def f158 (v1 : Int) (v2 : Int) (v3 : Int) (v4 : Int) (v5 : Int) (v6 : Int) (v7 : (List Int)) (v8 : (List (Int × (Int × Int)))) (v9 : Int) (v10 : Int) (v11 : Int) (v12 : Int) : Option (Int × Unit) :=
 ((f83 v10 v11 v12 v2)).bind fun y13 =>
 cond (!y13.1) (
  some (1, ())) (
  ((iter big u158_4 ((v8, (v9, ((), (v8, (((v8.length : Nat) : Int), (0, ())))))), (((v10, (v11, (v12, ()))), ()), ())))).bind fun r => match r with
  | .inl y14 =>
    cond (decide (y14.1.2.1 = (-1))) (
     cond (decide (((y14.1.1.length : Nat) : Int) = 3)) (
      some (9, ())) (
      some (0, ()))) (
     some (0, ()))
  | .inr z15 =>
    some (z15.1.1, ()))
abbrev X139_95_2_0 : Type := ((List Int) × Unit × Int × Int × Unit) × ((Int × Int × Int × Int × Int × Int × (List Int) × Unit) × ((List (Int × (Int × Int))) × Unit) × (Int × Int × Int × Unit) × (Int × Int × Int × Unit) × Unit) × (Unit)
abbrev Y139_95_2_0 : Type := (Unit) × ((Int × Int × Int × Int × Int × Int × (List Int) × Unit) × ((List (Int × (Int × Int))) × Unit) × (Int × Int × Int × Unit) × (Int × Int × Int × Unit) × Unit) × (Unit)
abbrev Z139_95_2_0 : Type := (Int × Unit) × ((Int × Int × Int × Int × Int × Int × (List Int) × Unit) × ((List (Int × (Int × Int))) × Unit) × (Int × Int × Int × Unit) × (Int × Int × Int × Unit) × Unit) × (Unit)
noncomputable def t139_95_2_0 (v1 : (List Int)) (v2 : Int) (v3 : Int) (v4 : Int) (v5 : Int) (v6 : Int) (v7 : Int) (v8 : Int) (v9 : Int) (v10 : (List Int)) (v11 : (List (Int × (Int × Int)))) (v12 : Int) (v13 : Int) (v14 : Int) (v15 : Int) (v16 : Int) (v17 : Int) : Option (R3 X139_95_2_0 Y139_95_2_0 Z139_95_2_0) :=
 cond (decide (v3 < v2)) (
  cond ((decide (0 ≤ v3)) && (decide (v3 < ((v1.length : Nat) : Int)))) (
   cond ((decide (0 ≤ v6)) && (decide (v6 < ((v11.length : Nat) : Int)))) (
    ((f106 (rd (.pair (.int .i64) (.pair (.int .i64) (.int .i64))) v11 (Int.toNat v6)).1 (rd (.pair (.int .i64) (.pair (.int .i64) (.int .i64))) v11 (Int.toNat v6)).2.1 (rd (.pair (.int .i64) (.pair (.int .i64) (.int .i64))) v11 (Int.toNat v6)).2.2 (rd (.int .i64) v1 (Int.toNat v3)))).bind fun y18 =>
    cond y18.1 (
     ((f106 v15 v16 v17 (rd (.int .i64) v1 (Int.toNat v3)))).bind fun y19 =>
     cond (!y19.1) (
      some (R3.ret ((v3, ()), (((v4, (v5, (v6, (v7, (v8, (v9, (v10, ()))))))), ((v11, ()), ((v12, (v13, (v14, ()))), ((v15, (v16, (v17, ()))), ())))), ())))) (
      some (R3.next ((v1, ((), (v2, ((IntKind.wrap .i64 (v3 + 1)), ())))), (((v4, (v5, (v6, (v7, (v8, (v9, (v10, ()))))))), ((v11, ()), ((v12, (v13, (v14, ()))), ((v15, (v16, (v17, ()))), ())))), ()))))) (
     some (R3.next ((v1, ((), (v2, ((IntKind.wrap .i64 (v3 + 1)), ())))), (((v4, (v5, (v6, (v7, (v8, (v9, (v10, ()))))))), ((v11, ()), ((v12, (v13, (v14, ()))), ((v15, (v16, (v17, ()))), ())))), ()))))) (
    none)) (
   none)) (
  some (R3.out ((), (((v4, (v5, (v6, (v7, (v8, (v9, (v10, ()))))))), ((v11, ()), ((v12, (v13, (v14, ()))), ((v15, (v16, (v17, ()))), ())))), ()))))
noncomputable def u139_95_2_0 (z : X139_95_2_0) : Option (R3 X139_95_2_0 Y139_95_2_0 Z139_95_2_0) := t139_95_2_0 z.1.1 z.1.2.2.1 z.1.2.2.2.1 z.2.1.1.1 z.2.1.1.2.1 z.2.1.1.2.2.1 z.2.1.1.2.2.2.1 z.2.1.1.2.2.2.2.1 z.2.1.1.2.2.2.2.2.1 z.2.1.1.2.2.2.2.2.2.1 z.2.1.2.1.1 z.2.1.2.2.1.1 z.2.1.2.2.1.2.1 z.2.1.2.2.1.2.2.1 z.2.1.2.2.2.1.1 z.2.1.2.2.2.1.2.1 z.2.1.2.2.2.1.2.2.1
abbrev X139_95_2_1 : Type := ((List Int) × Unit × Int × Int × Unit) × ((Int × Int × Int × Int × Int × Int × (List Int) × Unit) × ((List (Int × (Int × Int))) × Unit) × (Int × Int × Int × Unit) × Unit) × (Unit)
abbrev Y139_95_2_1 : Type := (Unit) × ((Int × Int × Int × Int × Int × Int × (List Int) × Unit) × ((List (Int × (Int × Int))) × Unit) × (Int × Int × Int × Unit) × Unit) × (Unit)
abbrev Z139_95_2_1 : Type := (Int × Unit) × ((Int × Int × Int × Int × Int × Int × (List Int) × Unit) × ((List (Int × (Int × Int))) × Unit) × (Int × Int × Int × Unit) × Unit) × (Unit)
noncomputable def t139_95_2_1 (v1 : (List Int)) (v2 : Int) (v3 : Int) (v4 : Int) (v5 : Int) (v6 : Int) (v7 : Int) (v8 : Int) (v9 : Int) (v10 : (List Int)) (v11 : (List (Int × (Int × Int)))) (v12 : Int) (v13 : Int) (v14 : Int) : Option (R3 X139_95_2_1 Y139_95_2_1 Z139_95_2_1) :=
 cond (decide (v3 < v2)) (
  cond ((decide (0 ≤ v3)) && (decide (v3 < ((v1.length : Nat) : Int)))) (
   cond ((decide (0 ≤ v6)) && (decide (v6 < ((v11.length : Nat) : Int)))) (
    ((f106 (rd (.pair (.int .i64) (.pair (.int .i64) (.int .i64))) v11 (Int.toNat v6)).1 (rd (.pair (.int .i64) (.pair (.int .i64) (.int .i64))) v11 (Int.toNat v6)).2.1 (rd (.pair (.int .i64) (.pair (.int .i64) (.int .i64))) v11 (Int.toNat v6)).2.2 (rd (.int .i64) v1 (Int.toNat v3)))).bind fun y15 =>
    cond y15.1 (
     ((f106 v12 v13 v14 (rd (.int .i64) v1 (Int.toNat v3)))).bind fun y16 =>
     cond (!y16.1) (
      some (R3.ret ((v3, ()), (((v4, (v5, (v6, (v7, (v8, (v9, (v10, ()))))))), ((v11, ()), ((v12, (v13, (v14, ()))), ()))), ())))) (
      some (R3.next ((v1, ((), (v2, ((IntKind.wrap .i64 (v3 + 1)), ())))), (((v4, (v5, (v6, (v7, (v8, (v9, (v10, ()))))))), ((v11, ()), ((v12, (v13, (v14, ()))), ()))), ()))))) (
     some (R3.next ((v1, ((), (v2, ((IntKind.wrap .i64 (v3 + 1)), ())))), (((v4, (v5, (v6, (v7, (v8, (v9, (v10, ()))))))), ((v11, ()), ((v12, (v13, (v14, ()))), ()))), ()))))) (
    none)) (
   none)) (
  some (R3.out ((), (((v4, (v5, (v6, (v7, (v8, (v9, (v10, ()))))))), ((v11, ()), ((v12, (v13, (v14, ()))), ()))), ()))))
noncomputable def u139_95_2_1 (z : X139_95_2_1) : Option (R3 X139_95_2_1 Y139_95_2_1 Z139_95_2_1) := t139_95_2_1 z.1.1 z.1.2.2.1 z.1.2.2.2.1 z.2.1.1.1 z.2.1.1.2.1 z.2.1.1.2.2.1 z.2.1.1.2.2.2.1 z.2.1.1.2.2.2.2.1 z.2.1.1.2.2.2.2.2.1 z.2.1.1.2.2.2.2.2.2.1 z.2.1.2.1.1 z.2.1.2.2.1.1 z.2.1.2.2.1.2.1 z.2.1.2.2.1.2.2.1
noncomputable def f139 (v1 : Int) (v2 : Int) (v3 : Int) (v4 : Int) (v5 : Int) (v6 : Int) (v7 : (List Int)) (v8 : (List (Int × (Int × Int)))) : Option (Int × Unit) :=
 ((f41 v8 v2)).bind fun y9 =>
 cond (!y9.1) (
  some (1, ())) (
  cond (!(decide (v1 = 0))) (
   cond (decide (v3 < 0)) (
    some (5, ())) (
    cond (decide (((v8.length : Nat) : Int) ≤ v3)) (
     some (5, ())) (
     cond (decide (v1 = 0)) (
      ((f158 v1 v2 v3 v4 v5 v6 v7 v8 (-1) v4 v5 v6)).bind fun y10 =>
      some (y10.1, ())) (
      cond (decide (v1 = 1)) (
       cond ((decide (0 ≤ v3)) && (decide (v3 < ((v8.length : Nat) : Int)))) (
        cond (decide ((rd (.pair (.int .i64) (.pair (.int .i64) (.int .i64))) v8 (Int.toNat v3)).2.2 = 1)) (
         some (11, ())) (
         some (0, ()))) (
        none)) (
       cond (decide (v1 = 2)) (
        cond ((decide (0 ≤ v3)) && (decide (v3 < ((v8.length : Nat) : Int)))) (
         ((f158 v1 v2 v3 v4 v5 v6 v7 v8 v3 (rd (.pair (.int .i64) (.pair (.int .i64) (.int .i64))) v8 (Int.toNat v3)).1 v5 (rd (.pair (.int .i64) (.pair (.int .i64) (.int .i64))) v8 (Int.toNat v3)).2.2)).bind fun y11 =>
         cond (!(decide (y11.1 = 0))) (
          some (y11.1, ())) (
          ((iter big u139_95_2_0 ((v7, ((), (((v7.length : Nat) : Int), (0, ())))), (((v1, (v2, (v3, (v4, (v5, (v6, (v7, ()))))))), ((v8, ()), (((rd (.pair (.int .i64) (.pair (.int .i64) (.int .i64))) v8 (Int.toNat v3)).1, (v5, ((rd (.pair (.int .i64) (.pair (.int .i64) (.int .i64))) v8 (Int.toNat v3)).2.2, ()))), (((rd (.pair (.int .i64) (.pair (.int .i64) (.int .i64))) v8 (Int.toNat v3)).1, (v5, ((rd (.pair (.int .i64) (.pair (.int .i64) (.int .i64))) v8 (Int.toNat v3)).2.2, ()))), ())))), ())))).bind fun r => match r with
          | .inl y12 =>
            some (0, ())
          | .inr z13 =>
            cond (decide (0 ≤ z13.1.1)) (
             some (12, ())) (
             some (0, ())))) (
         none)) (
        cond (decide (v1 = 3)) (
         cond ((decide (0 ≤ v3)) && (decide (v3 < ((v8.length : Nat) : Int)))) (
          cond (decide ((rd (.pair (.int .i64) (.pair (.int .i64) (.int .i64))) v8 (Int.toNat v3)).2.2 = 0)) (
           some (12, ())) (
           ((iter big u139_95_2_1 ((v7, ((), (((v7.length : Nat) : Int), (0, ())))), (((v1, (v2, (v3, (v4, (v5, (v6, (v7, ()))))))), ((v8, ()), ((0, (0, (0, ()))), ()))), ())))).bind fun r => match r with
           | .inl y14 =>
             some (0, ())
           | .inr z15 =>
             cond (decide (0 ≤ z15.1.1)) (
              some (12, ())) (
              some (0, ())))) (
          none)) (
         some (0, ())))))))) (
   cond (decide (v1 = 0)) (
    ((f158 v1 v2 v3 v4 v5 v6 v7 v8 (-1) v4 v5 v6)).bind fun y16 =>
    some (y16.1, ())) (
    cond (decide (v1 = 1)) (
     cond ((decide (0 ≤ v3)) && (decide (v3 < ((v8.length : Nat) : Int)))) (
      cond (decide ((rd (.pair (.int .i64) (.pair (.int .i64) (.int .i64))) v8 (Int.toNat v3)).2.2 = 1)) (
       some (11, ())) (
       some (0, ()))) (
      none)) (
     cond (decide (v1 = 2)) (
      cond ((decide (0 ≤ v3)) && (decide (v3 < ((v8.length : Nat) : Int)))) (
       ((f158 v1 v2 v3 v4 v5 v6 v7 v8 v3 (rd (.pair (.int .i64) (.pair (.int .i64) (.int .i64))) v8 (Int.toNat v3)).1 v5 (rd (.pair (.int .i64) (.pair (.int .i64) (.int .i64))) v8 (Int.toNat v3)).2.2)).bind fun y17 =>
       cond (!(decide (y17.1 = 0))) (
        some (y17.1, ())) (
        ((iter big u139_95_2_0 ((v7, ((), (((v7.length : Nat) : Int), (0, ())))), (((v1, (v2, (v3, (v4, (v5, (v6, (v7, ()))))))), ((v8, ()), (((rd (.pair (.int .i64) (.pair (.int .i64) (.int .i64))) v8 (Int.toNat v3)).1, (v5, ((rd (.pair (.int .i64) (.pair (.int .i64) (.int .i64))) v8 (Int.toNat v3)).2.2, ()))), (((rd (.pair (.int .i64) (.pair (.int .i64) (.int .i64))) v8 (Int.toNat v3)).1, (v5, ((rd (.pair (.int .i64) (.pair (.int .i64) (.int .i64))) v8 (Int.toNat v3)).2.2, ()))), ())))), ())))).bind fun r => match r with
        | .inl y18 =>
          some (0, ())
        | .inr z19 =>
          cond (decide (0 ≤ z19.1.1)) (
           some (12, ())) (
           some (0, ())))) (
       none)) (
      cond (decide (v1 = 3)) (
       cond ((decide (0 ≤ v3)) && (decide (v3 < ((v8.length : Nat) : Int)))) (
        cond (decide ((rd (.pair (.int .i64) (.pair (.int .i64) (.int .i64))) v8 (Int.toNat v3)).2.2 = 0)) (
         some (12, ())) (
         ((iter big u139_95_2_1 ((v7, ((), (((v7.length : Nat) : Int), (0, ())))), (((v1, (v2, (v3, (v4, (v5, (v6, (v7, ()))))))), ((v8, ()), ((0, (0, (0, ()))), ()))), ())))).bind fun r => match r with
         | .inl y20 =>
           some (0, ())
         | .inr z21 =>
           cond (decide (0 ≤ z21.1.1)) (
            some (12, ())) (
            some (0, ())))) (
        none)) (
       some (0, ())))))))
noncomputable def f128 (v1 : Int) (v2 : Int) (v3 : Int) (v4 : Int) (v5 : Int) (v6 : Int) (v7 : (List Int)) (v8 : (List (Int × (Int × Int)))) : Option ((List (Int × (Int × Int))) × (Int × Unit)) :=
 ((fClonePool v8)).bind fun y9 =>
 ((f139 v1 v2 v3 v4 v5 v6 v7 v8)).bind fun y10 =>
 cond (!(decide (y10.1 = 0))) (
  some (y9.1, (y10.1, ()))) (
  cond (decide (v1 = 0)) (
   cond ((decide (((y9.1.length + 1) * 24) ≤ 140737488355328)) && (decide ((y9.1.length + 1) ≤ 9223372036854775807))) (
    some ((y9.1 ++ [(v4, (v5, v6))]), (0, ()))) (
    none)) (
   cond (decide (v1 = 1)) (
    cond ((decide (0 ≤ v3)) && (decide (v3 < ((y9.1.length : Nat) : Int)))) (
     cond (decide ((Int.toNat v3) < y9.1.length)) (
      some ((y9.1.set (Int.toNat v3) ((rd (.pair (.int .i64) (.pair (.int .i64) (.int .i64))) y9.1 (Int.toNat v3)).1, ((rd (.pair (.int .i64) (.pair (.int .i64) (.int .i64))) y9.1 (Int.toNat v3)).2.1, 1))), (0, ()))) (
      none)) (
     none)) (
    cond (decide (v1 = 2)) (
     cond ((decide (0 ≤ v3)) && (decide (v3 < ((y9.1.length : Nat) : Int)))) (
      cond (decide ((Int.toNat v3) < y9.1.length)) (
       some ((y9.1.set (Int.toNat v3) ((rd (.pair (.int .i64) (.pair (.int .i64) (.int .i64))) y9.1 (Int.toNat v3)).1, (v5, (rd (.pair (.int .i64) (.pair (.int .i64) (.int .i64))) y9.1 (Int.toNat v3)).2.2))), (0, ()))) (
       none)) (
      none)) (
     cond ((((decide (0 ≤ v3)) && (decide (v3 ≤ (IntKind.wrap .i64 (v3 + 1))))) && (decide ((IntKind.wrap .i64 (v3 + 1)) ≤ ((y9.1.length : Nat) : Int)))) && (decide ((0 + ((y9.1.length : Nat) : Int)) ≤ ((y9.1.length : Nat) : Int)))) (
      cond (decide (v3 = (IntKind.wrap .i64 (v3 + 1)))) (
       some (y9.1, (0, ()))) (
       cond ((decide (0 ≤ v3)) && (decide ((0 + v3) ≤ ((y9.1.length : Nat) : Int)))) (
        cond (((decide (0 ≤ (IntKind.wrap .i64 (v3 + 1)))) && (decide ((IntKind.wrap .i64 (v3 + 1)) ≤ (((y9.1.length - 0) : Nat) : Int)))) && (decide ((0 + (((y9.1.length - 0) : Nat) : Int)) ≤ ((y9.1.length : Nat) : Int)))) (
         cond (decide (((0 + (Int.toNat v3)) + (List.drop (0 + (Int.toNat (IntKind.wrap .i64 (v3 + 1)))) (List.take (0 + (Int.toNat (((y9.1.length - 0) : Nat) : Int))) y9.1)).length) ≤ y9.1.length)) (
          cond (((decide (0 ≤ (((((0 + (Int.toNat v3)) + (List.drop (0 + (Int.toNat (IntKind.wrap .i64 (v3 + 1)))) (List.take (0 + (Int.toNat (((y9.1.length - 0) : Nat) : Int))) y9.1)).length) - 0) : Nat) : Int))) && (decide ((((((0 + (Int.toNat v3)) + (List.drop (0 + (Int.toNat (IntKind.wrap .i64 (v3 + 1)))) (List.take (0 + (Int.toNat (((y9.1.length - 0) : Nat) : Int))) y9.1)).length) - 0) : Nat) : Int) ≤ ((y9.1.length : Nat) : Int)))) && (decide ((0 + ((y9.1.length : Nat) : Int)) ≤ (((((List.take (0 + (Int.toNat v3)) y9.1) ++ (List.drop (0 + (Int.toNat (IntKind.wrap .i64 (v3 + 1)))) (List.take (0 + (Int.toNat (((y9.1.length - 0) : Nat) : Int))) y9.1))) ++ (List.drop ((0 + (Int.toNat v3)) + (List.drop (0 + (Int.toNat (IntKind.wrap .i64 (v3 + 1)))) (List.take (0 + (Int.toNat (((y9.1.length - 0) : Nat) : Int))) y9.1)).length) y9.1)).length : Nat) : Int)))) (
           some ((List.drop 0 (List.take ((0 + (Int.toNat v3)) + (List.drop (0 + (Int.toNat (IntKind.wrap .i64 (v3 + 1)))) (List.take (0 + (Int.toNat (((y9.1.length - 0) : Nat) : Int))) y9.1)).length) (((List.take (0 + (Int.toNat (((((0 + (Int.toNat v3)) + (List.drop (0 + (Int.toNat (IntKind.wrap .i64 (v3 + 1)))) (List.take (0 + (Int.toNat (((y9.1.length - 0) : Nat) : Int))) y9.1)).length) - 0) : Nat) : Int))) (((List.take (0 + (Int.toNat v3)) y9.1) ++ (List.drop (0 + (Int.toNat (IntKind.wrap .i64 (v3 + 1)))) (List.take (0 + (Int.toNat (((y9.1.length - 0) : Nat) : Int))) y9.1))) ++ (List.drop ((0 + (Int.toNat v3)) + (List.drop (0 + (Int.toNat (IntKind.wrap .i64 (v3 + 1)))) (List.take (0 + (Int.toNat (((y9.1.length - 0) : Nat) : Int))) y9.1)).length) y9.1))) ++ (List.replicate ((0 + (Int.toNat ((y9.1.length : Nat) : Int))) - (0 + (Int.toNat (((((0 + (Int.toNat v3)) + (List.drop (0 + (Int.toNat (IntKind.wrap .i64 (v3 + 1)))) (List.take (0 + (Int.toNat (((y9.1.length - 0) : Nat) : Int))) y9.1)).length) - 0) : Nat) : Int)))) (0, (0, 0)))) ++ (List.drop ((0 + (Int.toNat (((((0 + (Int.toNat v3)) + (List.drop (0 + (Int.toNat (IntKind.wrap .i64 (v3 + 1)))) (List.take (0 + (Int.toNat (((y9.1.length - 0) : Nat) : Int))) y9.1)).length) - 0) : Nat) : Int))) + ((0 + (Int.toNat ((y9.1.length : Nat) : Int))) - (0 + (Int.toNat (((((0 + (Int.toNat v3)) + (List.drop (0 + (Int.toNat (IntKind.wrap .i64 (v3 + 1)))) (List.take (0 + (Int.toNat (((y9.1.length - 0) : Nat) : Int))) y9.1)).length) - 0) : Nat) : Int))))) (((List.take (0 + (Int.toNat v3)) y9.1) ++ (List.drop (0 + (Int.toNat (IntKind.wrap .i64 (v3 + 1)))) (List.take (0 + (Int.toNat (((y9.1.length - 0) : Nat) : Int))) y9.1))) ++ (List.drop ((0 + (Int.toNat v3)) + (List.drop (0 + (Int.toNat (IntKind.wrap .i64 (v3 + 1)))) (List.take (0 + (Int.toNat (((y9.1.length - 0) : Nat) : Int))) y9.1)).length) y9.1)))))), (0, ()))) (
           none)) (
          none)) (
         none)) (
        none))) (
      none)))))
noncomputable def f113 (v1 : (List (Int × (Int × Int)))) (v2 : Int) (v3 : Int) (v4 : Int) : Option ((List (Int × (Int × Int))) × (Int × Unit)) :=
 ((f128 0 v2 0 v3 v4 0 [] v1)).bind fun y5 =>
 some (y5.1, (y5.2.1, ()))
noncomputable def f114 (v1 : (List (Int × (Int × Int)))) (v2 : Int) (v3 : Int) : Option ((List (Int × (Int × Int))) × (Int × Unit)) :=
 ((f128 1 v2 v3 0 0 0 [] v1)).bind fun y4 =>
 some (y4.1, (y4.2.1, ()))
noncomputable def f115 (v1 : (List (Int × (Int × Int)))) (v2 : Int) (v3 : Int) (v4 : Int) (v5 : (List Int)) : Option ((List (Int × (Int × Int))) × (Int × Unit)) :=
 ((f128 2 v2 v3 0 v4 0 v5 v1)).bind fun y6 =>
 some (y6.1, (y6.2.1, ()))
noncomputable def f116 (v1 : (List (Int × (Int × Int)))) (v2 : Int) (v3 : Int) (v4 : (List Int)) : Option ((List (Int × (Int × Int))) × (Int × Unit)) :=
 ((f128 3 v2 v3 0 0 0 v4 v1)).bind fun y5 =>
 some (y5.1, (y5.2.1, ()))
noncomputable def f15 (v1 : Int) (v2 : Int) (v3 : Int) (v4 : Int) (v5 : Int) (v6 : Int) (v7 : Int) (v8 : Int) (v9 : Int) (v10 : Int) (v11 : Int) (v12 : Bool) (v13 : Int) (v14 : (List (Int × (Int × Int)))) (v15 : (List (Int × (Int × (Int × (Int × Int)))))) (v16 : (List (Int × (Int × Int)))) (v17 : Int) (v18 : Int) (v19 : Int) (v20 : Int) (v21 : Int) (v22 : Int) (v23 : Int) (v24 : Int) (v25 : Bool) : Option ((((Int × Int) × ((Int × Int) × (Int × (Int × (Int × Int))))) × ((Int × (Int × (Int × Bool))) × (Int × ((List (Int × (Int × Int))) × ((List (Int × (Int × (Int × (Int × Int))))) × (List (Int × (Int × Int)))))))) × (Int × Unit)) :=
 ((f14 v1 v2 v3 v4 v5 v6 v7 v8 v9 v10 v11 v12 v13 v14 v15 v16)).bind fun y26 =>
 cond (!y26.1) (
  ((f20 v1 v2 v3 v4 v5 v6 v7 v8 v9 v10 v11 v12 v13 v14 v15 v16)).bind fun y27 =>
  some ((((y27.1.1.1.1, y27.1.1.1.2), ((y27.1.1.2.1.1, y27.1.1.2.1.2), (y27.1.1.2.2.1, (y27.1.1.2.2.2.1, (y27.1.1.2.2.2.2.1, y27.1.1.2.2.2.2.2))))), ((y27.1.2.1.1, (y27.1.2.1.2.1, (y27.1.2.1.2.2.1, y27.1.2.1.2.2.2))), (y27.1.2.2.1, (y27.1.2.2.2.1, (y27.1.2.2.2.2.1, y27.1.2.2.2.2.2))))), (1, ()))) (
  ((f45 v17 v18 v19 v20 v21 v22 v23 v24 v25)).bind fun y28 =>
  cond (!y28.1) (
   ((f20 v1 v2 v3 v4 v5 v6 v7 v8 v9 v10 v11 v12 v13 v14 v15 v16)).bind fun y29 =>
   some ((((y29.1.1.1.1, y29.1.1.1.2), ((y29.1.1.2.1.1, y29.1.1.2.1.2), (y29.1.1.2.2.1, (y29.1.1.2.2.2.1, (y29.1.1.2.2.2.2.1, y29.1.1.2.2.2.2.2))))), ((y29.1.2.1.1, (y29.1.2.1.2.1, (y29.1.2.1.2.2.1, y29.1.2.1.2.2.2))), (y29.1.2.2.1, (y29.1.2.2.2.1, (y29.1.2.2.2.2.1, y29.1.2.2.2.2.2))))), (1, ()))) (
   ((f10 v1 v2 v3 v4 v5 v6 v7 v8 v9 v10 v11 v12 v13 v14 v15 v16 v18)).bind fun y30 =>
   cond (!y30.2.1) (
    ((f20 v1 v2 v3 v4 v5 v6 v7 v8 v9 v10 v11 v12 v13 v14 v15 v16)).bind fun y31 =>
    some ((((y31.1.1.1.1, y31.1.1.1.2), ((y31.1.1.2.1.1, y31.1.1.2.1.2), (y31.1.1.2.2.1, (y31.1.1.2.2.2.1, (y31.1.1.2.2.2.2.1, y31.1.1.2.2.2.2.2))))), ((y31.1.2.1.1, (y31.1.2.1.2.1, (y31.1.2.1.2.2.1, y31.1.2.1.2.2.2))), (y31.1.2.2.1, (y31.1.2.2.2.1, (y31.1.2.2.2.2.1, y31.1.2.2.2.2.2))))), (10, ()))) (
    cond (decide (v17 = 0)) (
     ((f109 y30.1.2.2.2.2.1 v19 v20 v21 v18 v18)).bind fun y32 =>
     cond (!y32.2.1) (
      ((f20 v1 v2 v3 v4 v5 v6 v7 v8 v9 v10 v11 v12 v13 v14 v15 v16)).bind fun y33 =>
      some ((((y33.1.1.1.1, y33.1.1.1.2), ((y33.1.1.2.1.1, y33.1.1.2.1.2), (y33.1.1.2.2.1, (y33.1.1.2.2.2.1, (y33.1.1.2.2.2.2.1, y33.1.1.2.2.2.2.2))))), ((y33.1.2.1.1, (y33.1.2.1.2.1, (y33.1.2.1.2.2.1, y33.1.2.1.2.2.2))), (y33.1.2.2.1, (y33.1.2.2.2.1, (y33.1.2.2.2.2.1, y33.1.2.2.2.2.2))))), (2, ()))) (
      ((f14 y30.1.1.1.1 y30.1.1.1.2 y30.1.1.2.1.1 y30.1.1.2.1.2 y30.1.1.2.2.1 y30.1.1.2.2.2.1 y30.1.1.2.2.2.2.1 y30.1.1.2.2.2.2.2 y30.1.2.1.1 y30.1.2.1.2.1 y30.1.2.1.2.2.1 y30.1.2.1.2.2.2 y30.1.2.2.1 y30.1.2.2.2.1 y32.1 y30.1.2.2.2.2.2)).bind fun y34 =>
      cond (!y34.1) (
       ((f20 v1 v2 v3 v4 v5 v6 v7 v8 v9 v10 v11 v12 v13 v14 v15 v16)).bind fun y35 =>
       some ((((y35.1.1.1.1, y35.1.1.1.2), ((y35.1.1.2.1.1, y35.1.1.2.1.2), (y35.1.1.2.2.1, (y35.1.1.2.2.2.1, (y35.1.1.2.2.2.2.1, y35.1.1.2.2.2.2.2))))), ((y35.1.2.1.1, (y35.1.2.1.2.1, (y35.1.2.1.2.2.1, y35.1.2.1.2.2.2))), (y35.1.2.2.1, (y35.1.2.2.2.1, (y35.1.2.2.2.2.1, y35.1.2.2.2.2.2))))), (2, ()))) (
       some ((((y30.1.1.1.1, y30.1.1.1.2), ((y30.1.1.2.1.1, y30.1.1.2.1.2), (y30.1.1.2.2.1, (y30.1.1.2.2.2.1, (y30.1.1.2.2.2.2.1, y30.1.1.2.2.2.2.2))))), ((y30.1.2.1.1, (y30.1.2.1.2.1, (y30.1.2.1.2.2.1, y30.1.2.1.2.2.2))), (y30.1.2.2.1, (y30.1.2.2.2.1, (y32.1, y30.1.2.2.2.2.2))))), (0, ()))))) (
     cond (decide (v17 = 1)) (
      ((f89 y30.1.2.2.2.2.1 v20 v21)).bind fun y36 =>
      cond (decide (y36.1 = (-1))) (
       ((f20 v1 v2 v3 v4 v5 v6 v7 v8 v9 v10 v11 v12 v13 v14 v15 v16)).bind fun y37 =>
       some ((((y37.1.1.1.1, y37.1.1.1.2), ((y37.1.1.2.1.1, y37.1.1.2.1.2), (y37.1.1.2.2.1, (y37.1.1.2.2.2.1, (y37.1.1.2.2.2.2.1, y37.1.1.2.2.2.2.2))))), ((y37.1.2.1.1, (y37.1.2.1.2.1, (y37.1.2.1.2.2.1, y37.1.2.1.2.2.2))), (y37.1.2.2.1, (y37.1.2.2.2.1, (y37.1.2.2.2.2.1, y37.1.2.2.2.2.2))))), (2, ()))) (
       cond ((decide (0 ≤ y36.1)) && (decide (y36.1 < ((y30.1.2.2.2.2.1.length : Nat) : Int)))) (
        cond (!(decide ((rd (.pair (.int .i64) (.pair (.int .i64) (.pair (.int .i64) (.pair (.int .i64) (.int .i64))))) y30.1.2.2.2.2.1 (Int.toNat y36.1)).1 = v19))) (
         ((f20 v1 v2 v3 v4 v5 v6 v7 v8 v9 v10 v11 v12 v13 v14 v15 v16)).bind fun y38 =>
         some ((((y38.1.1.1.1, y38.1.1.1.2), ((y38.1.1.2.1.1, y38.1.1.2.1.2), (y38.1.1.2.2.1, (y38.1.1.2.2.2.1, (y38.1.1.2.2.2.2.1, y38.1.1.2.2.2.2.2))))), ((y38.1.2.1.1, (y38.1.2.1.2.1, (y38.1.2.1.2.2.1, y38.1.2.1.2.2.2))), (y38.1.2.2.1, (y38.1.2.2.2.1, (y38.1.2.2.2.2.1, y38.1.2.2.2.2.2))))), (2, ()))) (
         ((f110 y30.1.2.2.2.2.1 v20 v21)).bind fun y39 =>
         cond (decide (0 < y30.1.2.1.2.2.1)) (
          ((f111 y30.1.2.2.2.2.2 v20 v21 (IntKind.wrap .i64 (v18 + y30.1.2.1.2.2.1)))).bind fun y40 =>
          ((f14 y30.1.1.1.1 y30.1.1.1.2 y30.1.1.2.1.1 y30.1.1.2.1.2 y30.1.1.2.2.1 y30.1.1.2.2.2.1 y30.1.1.2.2.2.2.1 y30.1.1.2.2.2.2.2 y30.1.2.1.1 y30.1.2.1.2.1 y30.1.2.1.2.2.1 y30.1.2.1.2.2.2 y30.1.2.2.1 y30.1.2.2.2.1 y39.1 y40.1)).bind fun y41 =>
          cond (!y41.1) (
           ((f20 v1 v2 v3 v4 v5 v6 v7 v8 v9 v10 v11 v12 v13 v14 v15 v16)).bind fun y42 =>
           some ((((y42.1.1.1.1, y42.1.1.1.2), ((y42.1.1.2.1.1, y42.1.1.2.1.2), (y42.1.1.2.2.1, (y42.1.1.2.2.2.1, (y42.1.1.2.2.2.2.1, y42.1.1.2.2.2.2.2))))), ((y42.1.2.1.1, (y42.1.2.1.2.1, (y42.1.2.1.2.2.1, y42.1.2.1.2.2.2))), (y42.1.2.2.1, (y42.1.2.2.2.1, (y42.1.2.2.2.2.1, y42.1.2.2.2.2.2))))), (2, ()))) (
           some ((((y30.1.1.1.1, y30.1.1.1.2), ((y30.1.1.2.1.1, y30.1.1.2.1.2), (y30.1.1.2.2.1, (y30.1.1.2.2.2.1, (y30.1.1.2.2.2.2.1, y30.1.1.2.2.2.2.2))))), ((y30.1.2.1.1, (y30.1.2.1.2.1, (y30.1.2.1.2.2.1, y30.1.2.1.2.2.2))), (y30.1.2.2.1, (y30.1.2.2.2.1, (y39.1, y40.1))))), (0, ())))) (
          ((f14 y30.1.1.1.1 y30.1.1.1.2 y30.1.1.2.1.1 y30.1.1.2.1.2 y30.1.1.2.2.1 y30.1.1.2.2.2.1 y30.1.1.2.2.2.2.1 y30.1.1.2.2.2.2.2 y30.1.2.1.1 y30.1.2.1.2.1 y30.1.2.1.2.2.1 y30.1.2.1.2.2.2 y30.1.2.2.1 y30.1.2.2.2.1 y39.1 y30.1.2.2.2.2.2)).bind fun y43 =>
          cond (!y43.1) (
           ((f20 v1 v2 v3 v4 v5 v6 v7 v8 v9 v10 v11 v12 v13 v14 v15 v16)).bind fun y44 =>
           some ((((y44.1.1.1.1, y44.1.1.1.2), ((y44.1.1.2.1.1, y44.1.1.2.1.2), (y44.1.1.2.2.1, (y44.1.1.2.2.2.1, (y44.1.1.2.2.2.2.1, y44.1.1.2.2.2.2.2))))), ((y44.1.2.1.1, (y44.1.2.1.2.1, (y44.1.2.1.2.2.1, y44.1.2.1.2.2.2))), (y44.1.2.2.1, (y44.1.2.2.2.1, (y44.1.2.2.2.2.1, y44.1.2.2.2.2.2))))), (2, ()))) (
           some ((((y30.1.1.1.1, y30.1.1.1.2), ((y30.1.1.2.1.1, y30.1.1.2.1.2), (y30.1.1.2.2.1, (y30.1.1.2.2.2.1, (y30.1.1.2.2.2.2.1, y30.1.1.2.2.2.2.2))))), ((y30.1.2.1.1, (y30.1.2.1.2.1, (y30.1.2.1.2.2.1, y30.1.2.1.2.2.2))), (y30.1.2.2.1, (y30.1.2.2.2.1, (y39.1, y30.1.2.2.2.2.2))))), (0, ())))))) (
        none))) (
      cond (decide (v17 = 6)) (
       ((f14 y30.1.1.1.1 y30.1.1.1.2 y30.1.1.2.1.1 y30.1.1.2.1.2 y30.1.1.2.2.1 y30.1.1.2.2.2.1 y30.1.1.2.2.2.2.1 y30.1.1.2.2.2.2.2 v22 v23 v24 v25 y30.1.2.2.1 y30.1.2.2.2.1 y30.1.2.2.2.2.1 y30.1.2.2.2.2.2)).bind fun y45 =>
       cond (!y45.1) (
        ((f20 v1 v2 v3 v4 v5 v6 v7 v8 v9 v10 v11 v12 v13 v14 v15 v16)).bind fun y46 =>
        some ((((y46.1.1.1.1, y46.1.1.1.2), ((y46.1.1.2.1.1, y46.1.1.2.1.2), (y46.1.1.2.2.1, (y46.1.1.2.2.2.1, (y46.1.1.2.2.2.2.1, y46.1.1.2.2.2.2.2))))), ((y46.1.2.1.1, (y46.1.2.1.2.1, (y46.1.2.1.2.2.1, y46.1.2.1.2.2.2))), (y46.1.2.2.1, (y46.1.2.2.2.1, (y46.1.2.2.2.2.1, y46.1.2.2.2.2.2))))), (2, ()))) (
        some ((((y30.1.1.1.1, y30.1.1.1.2), ((y30.1.1.2.1.1, y30.1.1.2.1.2), (y30.1.1.2.2.1, (y30.1.1.2.2.2.1, (y30.1.1.2.2.2.2.1, y30.1.1.2.2.2.2.2))))), ((v22, (v23, (v24, v25))), (y30.1.2.2.1, (y30.1.2.2.2.1, (y30.1.2.2.2.2.1, y30.1.2.2.2.2.2))))), (0, ())))) (
       ((f71 y30.1.1.2.1.1 y30.1.1.2.1.2)).bind fun y47 =>
       ((f112 y30.1.2.2.2.2.1)).bind fun y48 =>
       cond (decide (v17 = 2)) (
        ((f113 y30.1.2.2.2.1 y47.1 v19 v20)).bind fun y49 =>
        cond (!(decide (y49.2.1 = 0))) (
         ((f20 v1 v2 v3 v4 v5 v6 v7 v8 v9 v10 v11 v12 v13 v14 v15 v16)).bind fun y50 =>
         some ((((y50.1.1.1.1, y50.1.1.1.2), ((y50.1.1.2.1.1, y50.1.1.2.1.2), (y50.1.1.2.2.1, (y50.1.1.2.2.2.1, (y50.1.1.2.2.2.2.1, y50.1.1.2.2.2.2.2))))), ((y50.1.2.1.1, (y50.1.2.1.2.1, (y50.1.2.1.2.2.1, y50.1.2.1.2.2.2))), (y50.1.2.2.1, (y50.1.2.2.2.1, (y50.1.2.2.2.2.1, y50.1.2.2.2.2.2))))), (2, ()))) (
         ((f14 y30.1.1.1.1 y30.1.1.1.2 y30.1.1.2.1.1 y30.1.1.2.1.2 y30.1.1.2.2.1 y30.1.1.2.2.2.1 y30.1.1.2.2.2.2.1 y30.1.1.2.2.2.2.2 y30.1.2.1.1 y30.1.2.1.2.1 y30.1.2.1.2.2.1 y30.1.2.1.2.2.2 y30.1.2.2.1 y49.1 y30.1.2.2.2.2.1 y30.1.2.2.2.2.2)).bind fun y51 =>
         cond (!y51.1) (
          ((f20 v1 v2 v3 v4 v5 v6 v7 v8 v9 v10 v11 v12 v13 v14 v15 v16)).bind fun y52 =>
          some ((((y52.1.1.1.1, y52.1.1.1.2), ((y52.1.1.2.1.1, y52.1.1.2.1.2), (y52.1.1.2.2.1, (y52.1.1.2.2.2.1, (y52.1.1.2.2.2.2.1, y52.1.1.2.2.2.2.2))))), ((y52.1.2.1.1, (y52.1.2.1.2.1, (y52.1.2.1.2.2.1, y52.1.2.1.2.2.2))), (y52.1.2.2.1, (y52.1.2.2.2.1, (y52.1.2.2.2.2.1, y52.1.2.2.2.2.2))))), (2, ()))) (
          some ((((y30.1.1.1.1, y30.1.1.1.2), ((y30.1.1.2.1.1, y30.1.1.2.1.2), (y30.1.1.2.2.1, (y30.1.1.2.2.2.1, (y30.1.1.2.2.2.2.1, y30.1.1.2.2.2.2.2))))), ((y30.1.2.1.1, (y30.1.2.1.2.1, (y30.1.2.1.2.2.1, y30.1.2.1.2.2.2))), (y30.1.2.2.1, (y49.1, (y30.1.2.2.2.2.1, y30.1.2.2.2.2.2))))), (0, ()))))) (
        cond (decide (v17 = 3)) (
         ((f114 y30.1.2.2.2.1 y47.1 v19)).bind fun y53 =>
         cond (!(decide (y53.2.1 = 0))) (
          ((f20 v1 v2 v3 v4 v5 v6 v7 v8 v9 v10 v11 v12 v13 v14 v15 v16)).bind fun y54 =>
          some ((((y54.1.1.1.1, y54.1.1.1.2), ((y54.1.1.2.1.1, y54.1.1.2.1.2), (y54.1.1.2.2.1, (y54.1.1.2.2.2.1, (y54.1.1.2.2.2.2.1, y54.1.1.2.2.2.2.2))))), ((y54.1.2.1.1, (y54.1.2.1.2.1, (y54.1.2.1.2.2.1, y54.1.2.1.2.2.2))), (y54.1.2.2.1, (y54.1.2.2.2.1, (y54.1.2.2.2.2.1, y54.1.2.2.2.2.2))))), (2, ()))) (
          ((f14 y30.1.1.1.1 y30.1.1.1.2 y30.1.1.2.1.1 y30.1.1.2.1.2 y30.1.1.2.2.1 y30.1.1.2.2.2.1 y30.1.1.2.2.2.2.1 y30.1.1.2.2.2.2.2 y30.1.2.1.1 y30.1.2.1.2.1 y30.1.2.1.2.2.1 y30.1.2.1.2.2.2 y30.1.2.2.1 y53.1 y30.1.2.2.2.2.1 y30.1.2.2.2.2.2)).bind fun y55 =>
          cond (!y55.1) (
           ((f20 v1 v2 v3 v4 v5 v6 v7 v8 v9 v10 v11 v12 v13 v14 v15 v16)).bind fun y56 =>
           some ((((y56.1.1.1.1, y56.1.1.1.2), ((y56.1.1.2.1.1, y56.1.1.2.1.2), (y56.1.1.2.2.1, (y56.1.1.2.2.2.1, (y56.1.1.2.2.2.2.1, y56.1.1.2.2.2.2.2))))), ((y56.1.2.1.1, (y56.1.2.1.2.1, (y56.1.2.1.2.2.1, y56.1.2.1.2.2.2))), (y56.1.2.2.1, (y56.1.2.2.2.1, (y56.1.2.2.2.2.1, y56.1.2.2.2.2.2))))), (2, ()))) (
           some ((((y30.1.1.1.1, y30.1.1.1.2), ((y30.1.1.2.1.1, y30.1.1.2.1.2), (y30.1.1.2.2.1, (y30.1.1.2.2.2.1, (y30.1.1.2.2.2.2.1, y30.1.1.2.2.2.2.2))))), ((y30.1.2.1.1, (y30.1.2.1.2.1, (y30.1.2.1.2.2.1, y30.1.2.1.2.2.2))), (y30.1.2.2.1, (y53.1, (y30.1.2.2.2.2.1, y30.1.2.2.2.2.2))))), (0, ()))))) (
         cond (decide (v17 = 4)) (
          ((f115 y30.1.2.2.2.1 y47.1 v19 v20 y48.1)).bind fun y57 =>
          cond (!(decide (y57.2.1 = 0))) (
           ((f20 v1 v2 v3 v4 v5 v6 v7 v8 v9 v10 v11 v12 v13 v14 v15 v16)).bind fun y58 =>
           some ((((y58.1.1.1.1, y58.1.1.1.2), ((y58.1.1.2.1.1, y58.1.1.2.1.2), (y58.1.1.2.2.1, (y58.1.1.2.2.2.1, (y58.1.1.2.2.2.2.1, y58.1.1.2.2.2.2.2))))), ((y58.1.2.1.1, (y58.1.2.1.2.1, (y58.1.2.1.2.2.1, y58.1.2.1.2.2.2))), (y58.1.2.2.1, (y58.1.2.2.2.1, (y58.1.2.2.2.2.1, y58.1.2.2.2.2.2))))), (2, ()))) (
           ((f14 y30.1.1.1.1 y30.1.1.1.2 y30.1.1.2.1.1 y30.1.1.2.1.2 y30.1.1.2.2.1 y30.1.1.2.2.2.1 y30.1.1.2.2.2.2.1 y30.1.1.2.2.2.2.2 y30.1.2.1.1 y30.1.2.1.2.1 y30.1.2.1.2.2.1 y30.1.2.1.2.2.2 y30.1.2.2.1 y57.1 y30.1.2.2.2.2.1 y30.1.2.2.2.2.2)).bind fun y59 =>
           cond (!y59.1) (
            ((f20 v1 v2 v3 v4 v5 v6 v7 v8 v9 v10 v11 v12 v13 v14 v15 v16)).bind fun y60 =>
            some ((((y60.1.1.1.1, y60.1.1.1.2), ((y60.1.1.2.1.1, y60.1.1.2.1.2), (y60.1.1.2.2.1, (y60.1.1.2.2.2.1, (y60.1.1.2.2.2.2.1, y60.1.1.2.2.2.2.2))))), ((y60.1.2.1.1, (y60.1.2.1.2.1, (y60.1.2.1.2.2.1, y60.1.2.1.2.2.2))), (y60.1.2.2.1, (y60.1.2.2.2.1, (y60.1.2.2.2.2.1, y60.1.2.2.2.2.2))))), (2, ()))) (
            some ((((y30.1.1.1.1, y30.1.1.1.2), ((y30.1.1.2.1.1, y30.1.1.2.1.2), (y30.1.1.2.2.1, (y30.1.1.2.2.2.1, (y30.1.1.2.2.2.2.1, y30.1.1.2.2.2.2.2))))), ((y30.1.2.1.1, (y30.1.2.1.2.1, (y30.1.2.1.2.2.1, y30.1.2.1.2.2.2))), (y30.1.2.2.1, (y57.1, (y30.1.2.2.2.2.1, y30.1.2.2.2.2.2))))), (0, ()))))) (
          ((f116 y30.1.2.2.2.1 y47.1 v19 y48.1)).bind fun y61 =>
          cond (!(decide (y61.2.1 = 0))) (
           ((f20 v1 v2 v3 v4 v5 v6 v7 v8 v9 v10 v11 v12 v13 v14 v15 v16)).bind fun y62 =>
           some ((((y62.1.1.1.1, y62.1.1.1.2), ((y62.1.1.2.1.1, y62.1.1.2.1.2), (y62.1.1.2.2.1, (y62.1.1.2.2.2.1, (y62.1.1.2.2.2.2.1, y62.1.1.2.2.2.2.2))))), ((y62.1.2.1.1, (y62.1.2.1.2.1, (y62.1.2.1.2.2.1, y62.1.2.1.2.2.2))), (y62.1.2.2.1, (y62.1.2.2.2.1, (y62.1.2.2.2.2.1, y62.1.2.2.2.2.2))))), (2, ()))) (
           ((f14 y30.1.1.1.1 y30.1.1.1.2 y30.1.1.2.1.1 y30.1.1.2.1.2 y30.1.1.2.2.1 y30.1.1.2.2.2.1 y30.1.1.2.2.2.2.1 y30.1.1.2.2.2.2.2 y30.1.2.1.1 y30.1.2.1.2.1 y30.1.2.1.2.2.1 y30.1.2.1.2.2.2 y30.1.2.2.1 y61.1 y30.1.2.2.2.2.1 y30.1.2.2.2.2.2)).bind fun y63 =>
           cond (!y63.1) (
            ((f20 v1 v2 v3 v4 v5 v6 v7 v8 v9 v10 v11 v12 v13 v14 v15 v16)).bind fun y64 =>
            some ((((y64.1.1.1.1, y64.1.1.1.2), ((y64.1.1.2.1.1, y64.1.1.2.1.2), (y64.1.1.2.2.1, (y64.1.1.2.2.2.1, (y64.1.1.2.2.2.2.1, y64.1.1.2.2.2.2.2))))), ((y64.1.2.1.1, (y64.1.2.1.2.1, (y64.1.2.1.2.2.1, y64.1.2.1.2.2.2))), (y64.1.2.2.1, (y64.1.2.2.2.1, (y64.1.2.2.2.2.1, y64.1.2.2.2.2.2))))), (2, ()))) (
            some ((((y30.1.1.1.1, y30.1.1.1.2), ((y30.1.1.2.1.1, y30.1.1.2.1.2), (y30.1.1.2.2.1, (y30.1.1.2.2.2.1, (y30.1.1.2.2.2.2.1, y30.1.1.2.2.2.2.2))))), ((y30.1.2.1.1, (y30.1.2.1.2.1, (y30.1.2.1.2.2.1, y30.1.2.1.2.2.2))), (y30.1.2.2.1, (y61.1, (y30.1.2.2.2.2.1, y30.1.2.2.2.2.2))))), (0, ())))))))))))))
noncomputable def f17 (v1 : Int) (v2 : Int) (v3 : Int) (v4 : Int) (v5 : Int) (v6 : Int) (v7 : Int) (v8 : Int) (v9 : Int) (v10 : Int) (v11 : Int) (v12 : Bool) : Option ((((Int × Int) × ((Int × Int) × (Int × (Int × (Int × Int))))) × ((Int × (Int × (Int × Bool))) × (Int × ((List (Int × (Int × Int))) × ((List (Int × (Int × (Int × (Int × Int))))) × (List (Int × (Int × Int)))))))) × (Bool × Unit)) :=
 ((f14 v1 v2 v3 v4 v5 v6 v7 v8 v9 v10 v11 v12 0 [] [] [])).bind fun y13 =>
 cond (!y13.1) (
  some ((((0, 0), ((0, 0), (0, (0, (0, 0))))), ((0, (0, (0, false))), (0, ([], ([], []))))), (false, ()))) (
  some ((((v1, v2), ((v3, v4), (v5, (v6, (v7, v8))))), ((v9, (v10, (v11, v12))), (0, ([], ([], []))))), (true, ())))
noncomputable def f18  : Option (((Int × Int) × ((Int × Int) × (Int × (Int × (Int × Int))))) × Unit) :=
 some (((167772160, 31), ((184549376, 32), (1000, (1099, (20, 10))))), ())
noncomputable def f8  : Option (Bool × Unit) :=
 (f18).bind fun y1 =>
 ((f17 y1.1.1.1 y1.1.1.2 y1.1.2.1.1 y1.1.2.1.2 y1.1.2.2.1 y1.1.2.2.2.1 y1.1.2.2.2.2.1 y1.1.2.2.2.2.2 1 9 5 false)).bind fun y2 =>
 ((f15 y2.1.1.1.1 y2.1.1.1.2 y2.1.1.2.1.1 y2.1.1.2.1.2 y2.1.1.2.2.1 y2.1.1.2.2.2.1 y2.1.1.2.2.2.2.1 y2.1.1.2.2.2.2.2 y2.1.2.1.1 y2.1.2.1.2.1 y2.1.2.1.2.2.1 y2.1.2.1.2.2.2 y2.1.2.2.1 y2.1.2.2.2.1 y2.1.2.2.2.2.1 y2.1.2.2.2.2.2 2 0 0 1 0 0 0 0 false)).bind fun y3 =>
 ((f15 y3.1.1.1.1 y3.1.1.1.2 y3.1.1.2.1.1 y3.1.1.2.1.2 y3.1.1.2.2.1 y3.1.1.2.2.2.1 y3.1.1.2.2.2.2.1 y3.1.1.2.2.2.2.2 y3.1.2.1.1 y3.1.2.1.2.1 y3.1.2.1.2.2.1 y3.1.2.1.2.2.2 y3.1.2.2.1 y3.1.2.2.2.1 y3.1.2.2.2.2.1 y3.1.2.2.2.2.2 0 3 0 0 0 0 0 0 false)).bind fun y4 =>
 ((f11 y4.1.1.1.1 y4.1.1.1.2 y4.1.1.2.1.1 y4.1.1.2.1.2 y4.1.1.2.2.1 y4.1.1.2.2.2.1 y4.1.1.2.2.2.2.1 y4.1.1.2.2.2.2.2 y4.1.2.1.1 y4.1.2.1.2.1 y4.1.2.1.2.2.1 y4.1.2.1.2.2.2 y4.1.2.2.1 y4.1.2.2.2.1 y4.1.2.2.2.2.1 y4.1.2.2.2.2.2)).bind fun y5 =>
 ((f12 y5.1)).bind fun y6 =>
 ((f10 y6.1.1.1.1 y6.1.1.1.2 y6.1.1.2.1.1 y6.1.1.2.1.2 y6.1.1.2.2.1 y6.1.1.2.2.2.1 y6.1.1.2.2.2.2.1 y6.1.1.2.2.2.2.2 y6.1.2.1.1 y6.1.2.1.2.1 y6.1.2.1.2.2.1 y6.1.2.1.2.2.2 y6.1.2.2.1 y6.1.2.2.2.1 y6.1.2.2.2.2.1 y6.1.2.2.2.2.2 7)).bind fun y7 =>
 cond (decide (y3.2.1 = 0)) (
  cond (decide (y4.2.1 = 0)) (
   cond y5.2.1 (
    cond y6.2.1 (
     ((f13 y6.1.1.1.1 y6.1.1.1.2 y6.1.1.2.1.1 y6.1.1.2.1.2 y6.1.1.2.2.1 y6.1.1.2.2.2.1 y6.1.1.2.2.2.2.1 y6.1.1.2.2.2.2.2 y6.1.2.1.1 y6.1.2.1.2.1 y6.1.2.1.2.2.1 y6.1.2.1.2.2.2 y6.1.2.2.1 y6.1.2.2.2.1 y6.1.2.2.2.2.1 y6.1.2.2.2.2.2 y4.1.1.1.1 y4.1.1.1.2 y4.1.1.2.1.1 y4.1.1.2.1.2 y4.1.1.2.2.1 y4.1.1.2.2.2.1 y4.1.1.2.2.2.2.1 y4.1.1.2.2.2.2.2 y4.1.2.1.1 y4.1.2.1.2.1 y4.1.2.1.2.2.1 y4.1.2.1.2.2.2 y4.1.2.2.1 y4.1.2.2.2.1 y4.1.2.2.2.2.1 y4.1.2.2.2.2.2)).bind fun y8 =>
     cond y8.1 (
      cond (decide (((y6.1.2.2.2.2.1.length : Nat) : Int) = 1)) (
       cond (decide (0 < ((y6.1.2.2.2.2.1.length : Nat) : Int))) (
        cond (decide ((rd (.pair (.int .i64) (.pair (.int .i64) (.pair (.int .i64) (.pair (.int .i64) (.int .i64))))) y6.1.2.2.2.2.1 0).2.2.2.1 = 3)) (
         cond y7.2.1 (
          cond (decide (y7.1.2.2.1 = 7)) (
           cond (decide (0 < ((y7.1.2.2.2.2.1.length : Nat) : Int))) (
            some ((decide ((rd (.pair (.int .i64) (.pair (.int .i64) (.pair (.int .i64) (.pair (.int .i64) (.int .i64))))) y7.1.2.2.2.2.1 0).2.2.2.2 = 7)), ())) (
            none)) (
           some (false, ()))) (
          some (false, ()))) (
         some (false, ()))) (
        none)) (
       some (false, ()))) (
      some (false, ()))) (
     some (false, ()))) (
    some (false, ()))) (
   some (false, ()))) (
  some (false, ()))
noncomputable def f19 (v1 : (List (Int × (Int × (Int × (Int × Int)))))) (v2 : (List (Int × (Int × Int)))) : Option (Bool × Unit) :=
 cond (decide (((v1.length : Nat) : Int) ≤ 40)) (
  some ((decide (((v2.length : Nat) : Int) ≤ 40)), ())) (
  some (false, ()))
noncomputable def f9 (v1 : Int) (v2 : Int) (v3 : Int) (v4 : Int) (v5 : Int) (v6 : Int) (v7 : Int) (v8 : Int) (v9 : Int) (v10 : Int) (v11 : Int) (v12 : Bool) (v13 : Int) (v14 : (List (Int × (Int × Int)))) (v15 : (List (Int × (Int × (Int × (Int × Int)))))) (v16 : (List (Int × (Int × Int)))) : Option (Bool × Unit) :=
 ((f19 v15 v16)).bind fun y17 =>
 cond y17.1 (
  some ((decide (((v14.length : Nat) : Int) ≤ 6)), ())) (
  some (false, ()))
noncomputable def f3 (v1 : Int) (v2 : Int) (v3 : Int) (v4 : Int) (v5 : Int) (v6 : Int) (v7 : Int) (v8 : Int) (v9 : Int) (v10 : Int) (v11 : Int) (v12 : Bool) (v13 : Int) (v14 : (List (Int × (Int × Int)))) (v15 : (List (Int × (Int × (Int × (Int × Int)))))) (v16 : (List (Int × (Int × Int)))) (v17 : Int) (v18 : (List Int)) : Option (Bool × Unit) :=
 (f8).bind fun y19 =>
 ((f9 v1 v2 v3 v4 v5 v6 v7 v8 v9 v10 v11 v12 v13 v14 v15 v16)).bind fun y20 =>
 cond (!y19.1) (
  some (y19.1, ())) (
  cond (!y20.1) (
   some (y19.1, ())) (
   cond (decide (600 < ((v18.length : Nat) : Int))) (
    some (y19.1, ())) (
    ((f10 v1 v2 v3 v4 v5 v6 v7 v8 v9 v10 v11 v12 v13 v14 v15 v16 v17)).bind fun y21 =>
    ((f11 y21.1.1.1.1 y21.1.1.1.2 y21.1.1.2.1.1 y21.1.1.2.1.2 y21.1.1.2.2.1 y21.1.1.2.2.2.1 y21.1.1.2.2.2.2.1 y21.1.1.2.2.2.2.2 y21.1.2.1.1 y21.1.2.1.2.1 y21.1.2.1.2.2.1 y21.1.2.1.2.2.2 y21.1.2.2.1 y21.1.2.2.2.1 y21.1.2.2.2.2.1 y21.1.2.2.2.2.2)).bind fun y22 =>
    ((f12 y22.1)).bind fun y23 =>
    cond y21.2.1 (
     cond (!y22.2.1) (
      some (false, ())) (
      cond (!y23.2.1) (
       some (false, ())) (
       ((f13 y23.1.1.1.1 y23.1.1.1.2 y23.1.1.2.1.1 y23.1.1.2.1.2 y23.1.1.2.2.1 y23.1.1.2.2.2.1 y23.1.1.2.2.2.2.1 y23.1.1.2.2.2.2.2 y23.1.2.1.1 y23.1.2.1.2.1 y23.1.2.1.2.2.1 y23.1.2.1.2.2.2 y23.1.2.2.1 y23.1.2.2.2.1 y23.1.2.2.2.2.1 y23.1.2.2.2.2.2 y21.1.1.1.1 y21.1.1.1.2 y21.1.1.2.1.1 y21.1.1.2.1.2 y21.1.1.2.2.1 y21.1.1.2.2.2.1 y21.1.1.2.2.2.2.1 y21.1.1.2.2.2.2.2 y21.1.2.1.1 y21.1.2.1.2.1 y21.1.2.1.2.2.1 y21.1.2.1.2.2.2 y21.1.2.2.1 y21.1.2.2.2.1 y21.1.2.2.2.2.1 y21.1.2.2.2.2.2)).bind fun y24 =>
       cond (!y24.1) (
        some (false, ())) (
        ((f14 y21.1.1.1.1 y21.1.1.1.2 y21.1.1.2.1.1 y21.1.1.2.1.2 y21.1.1.2.2.1 y21.1.1.2.2.2.1 y21.1.1.2.2.2.2.1 y21.1.1.2.2.2.2.2 y21.1.2.1.1 y21.1.2.1.2.1 y21.1.2.1.2.2.1 y21.1.2.1.2.2.2 y21.1.2.2.1 y21.1.2.2.2.1 y21.1.2.2.2.2.1 y21.1.2.2.2.2.2)).bind fun y25 =>
        cond (!y25.1) (
         some (false, ())) (
         ((f12 v18)).bind fun y26 =>
         ((f11 y26.1.1.1.1 y26.1.1.1.2 y26.1.1.2.1.1 y26.1.1.2.1.2 y26.1.1.2.2.1 y26.1.1.2.2.2.1 y26.1.1.2.2.2.2.1 y26.1.1.2.2.2.2.2 y26.1.2.1.1 y26.1.2.1.2.1 y26.1.2.1.2.2.1 y26.1.2.1.2.2.2 y26.1.2.2.1 y26.1.2.2.2.1 y26.1.2.2.2.2.1 y26.1.2.2.2.2.2)).bind fun y27 =>
         cond (!y26.2.1) (
          some (true, ())) (
          ((f14 y26.1.1.1.1 y26.1.1.1.2 y26.1.1.2.1.1 y26.1.1.2.1.2 y26.1.1.2.2.1 y26.1.1.2.2.2.1 y26.1.1.2.2.2.2.1 y26.1.1.2.2.2.2.2 y26.1.2.1.1 y26.1.2.1.2.1 y26.1.2.1.2.2.1 y26.1.2.1.2.2.2 y26.1.2.2.1 y26.1.2.2.2.1 y26.1.2.2.2.2.1 y26.1.2.2.2.2.2)).bind fun y28 =>
          cond y28.1 (
           cond y27.2.1 (
            some (((bytesStr y27.1).toList == (bytesStr v18).toList), ())) (
            some (false, ()))) (
           some (false, ())))))))) (
     ((f12 v18)).bind fun y29 =>
     ((f11 y29.1.1.1.1 y29.1.1.1.2 y29.1.1.2.1.1 y29.1.1.2.1.2 y29.1.1.2.2.1 y29.1.1.2.2.2.1 y29.1.1.2.2.2.2.1 y29.1.1.2.2.2.2.2 y29.1.2.1.1 y29.1.2.1.2.1 y29.1.2.1.2.2.1 y29.1.2.1.2.2.2 y29.1.2.2.1 y29.1.2.2.2.1 y29.1.2.2.2.2.1 y29.1.2.2.2.2.2)).bind fun y30 =>
     cond (!y29.2.1) (
      some (true, ())) (
      ((f14 y29.1.1.1.1 y29.1.1.1.2 y29.1.1.2.1.1 y29.1.1.2.1.2 y29.1.1.2.2.1 y29.1.1.2.2.2.1 y29.1.1.2.2.2.2.1 y29.1.1.2.2.2.2.2 y29.1.2.1.1 y29.1.2.1.2.1 y29.1.2.1.2.2.1 y29.1.2.1.2.2.2 y29.1.2.2.1 y29.1.2.2.2.1 y29.1.2.2.2.2.1 y29.1.2.2.2.2.2)).bind fun y31 =>
      cond y31.1 (
       cond y30.2.1 (
        some (((bytesStr y30.1).toList == (bytesStr v18).toList), ())) (
        some (false, ()))) (
       some (false, ())))))))
noncomputable def f4 (v1 : Int) (v2 : Int) (v3 : Int) (v4 : Int) (v5 : Int) (v6 : Int) (v7 : Int) (v8 : Int) (v9 : Int) (v10 : Int) (v11 : Int) (v12 : Bool) (v13 : Int) (v14 : (List (Int × (Int × Int)))) (v15 : (List (Int × (Int × (Int × (Int × Int)))))) (v16 : (List (Int × (Int × Int)))) (v17 : Int) (v18 : Int) (v19 : Int) (v20 : Int) (v21 : Int) (v22 : Int) (v23 : Int) (v24 : Int) (v25 : Bool) (v26 : Int) : Option (Bool × Unit) :=
 (f8).bind fun y27 =>
 ((f9 v1 v2 v3 v4 v5 v6 v7 v8 v9 v10 v11 v12 v13 v14 v15 v16)).bind fun y28 =>
 cond (!y27.1) (
  some (y27.1, ())) (
  cond (!y28.1) (
   some (y27.1, ())) (
   ((f10 v1 v2 v3 v4 v5 v6 v7 v8 v9 v10 v11 v12 v13 v14 v15 v16 v26)).bind fun y29 =>
   ((f15 v1 v2 v3 v4 v5 v6 v7 v8 v9 v10 v11 v12 v13 v14 v15 v16 v17 v18 v19 v20 v21 v22 v23 v24 v25)).bind fun y30 =>
   cond (!y29.2.1) (
    ((f13 y29.1.1.1.1 y29.1.1.1.2 y29.1.1.2.1.1 y29.1.1.2.1.2 y29.1.1.2.2.1 y29.1.1.2.2.2.1 y29.1.1.2.2.2.2.1 y29.1.1.2.2.2.2.2 y29.1.2.1.1 y29.1.2.1.2.1 y29.1.2.1.2.2.1 y29.1.2.1.2.2.2 y29.1.2.2.1 y29.1.2.2.2.1 y29.1.2.2.2.2.1 y29.1.2.2.2.2.2 v1 v2 v3 v4 v5 v6 v7 v8 v9 v10 v11 v12 v13 v14 v15 v16)).bind fun y31 =>
    cond (!y31.1) (
     some (false, ())) (
     cond (!(decide (y30.2.1 = 0))) (
      ((f13 y30.1.1.1.1 y30.1.1.1.2 y30.1.1.2.1.1 y30.1.1.2.1.2 y30.1.1.2.2.1 y30.1.1.2.2.2.1 y30.1.1.2.2.2.2.1 y30.1.1.2.2.2.2.2 y30.1.2.1.1 y30.1.2.1.2.1 y30.1.2.1.2.2.1 y30.1.2.1.2.2.2 y30.1.2.2.1 y30.1.2.2.2.1 y30.1.2.2.2.2.1 y30.1.2.2.2.2.2 v1 v2 v3 v4 v5 v6 v7 v8 v9 v10 v11 v12 v13 v14 v15 v16)).bind fun y32 =>
      cond (!y32.1) (
       some (false, ())) (
       ((f10 y29.1.1.1.1 y29.1.1.1.2 y29.1.1.2.1.1 y29.1.1.2.1.2 y29.1.1.2.2.1 y29.1.1.2.2.2.1 y29.1.1.2.2.2.2.1 y29.1.1.2.2.2.2.2 y29.1.2.1.1 y29.1.2.1.2.1 y29.1.2.1.2.2.1 y29.1.2.1.2.2.2 y29.1.2.2.1 y29.1.2.2.2.1 y29.1.2.2.2.2.1 y29.1.2.2.2.2.2 v26)).bind fun y33 =>
       cond y29.2.1 (
        ((f14 y29.1.1.1.1 y29.1.1.1.2 y29.1.1.2.1.1 y29.1.1.2.1.2 y29.1.1.2.2.1 y29.1.1.2.2.2.1 y29.1.1.2.2.2.2.1 y29.1.1.2.2.2.2.2 y29.1.2.1.1 y29.1.2.1.2.1 y29.1.2.1.2.2.1 y29.1.2.1.2.2.2 y29.1.2.2.1 y29.1.2.2.2.1 y29.1.2.2.2.2.1 y29.1.2.2.2.2.2)).bind fun y34 =>
        cond (!y34.1) (
         some (false, ())) (
         cond (!y33.2.1) (
          some (false, ())) (
          ((f13 y33.1.1.1.1 y33.1.1.1.2 y33.1.1.2.1.1 y33.1.1.2.1.2 y33.1.1.2.2.1 y33.1.1.2.2.2.1 y33.1.1.2.2.2.2.1 y33.1.1.2.2.2.2.2 y33.1.2.1.1 y33.1.2.1.2.1 y33.1.2.1.2.2.1 y33.1.2.1.2.2.2 y33.1.2.2.1 y33.1.2.2.2.1 y33.1.2.2.2.2.1 y33.1.2.2.2.2.2 y29.1.1.1.1 y29.1.1.1.2 y29.1.1.2.1.1 y29.1.1.2.1.2 y29.1.1.2.2.1 y29.1.1.2.2.2.1 y29.1.1.2.2.2.2.1 y29.1.1.2.2.2.2.2 y29.1.2.1.1 y29.1.2.1.2.1 y29.1.2.1.2.2.1 y29.1.2.1.2.2.2 y29.1.2.2.1 y29.1.2.2.2.1 y29.1.2.2.2.2.1 y29.1.2.2.2.2.2)).bind fun y35 =>
          cond (!y35.1) (
           some (false, ())) (
           cond (!(decide (y30.2.1 = 0))) (
            some (true, ())) (
            ((f14 y30.1.1.1.1 y30.1.1.1.2 y30.1.1.2.1.1 y30.1.1.2.1.2 y30.1.1.2.2.1 y30.1.1.2.2.2.1 y30.1.1.2.2.2.2.1 y30.1.1.2.2.2.2.2 y30.1.2.1.1 y30.1.2.1.2.1 y30.1.2.1.2.2.1 y30.1.2.1.2.2.2 y30.1.2.2.1 y30.1.2.2.2.1 y30.1.2.2.2.2.1 y30.1.2.2.2.2.2)).bind fun y36 =>
            cond y36.1 (
             cond (decide (y30.1.2.2.1 = v18)) (
              some ((((decide (y30.1.1.1.1 = v1)) && ((decide (y30.1.1.1.2 = v2)) && true)) && (((decide (y30.1.1.2.1.1 = v3)) && ((decide (y30.1.1.2.1.2 = v4)) && true)) && ((decide (y30.1.1.2.2.1 = v5)) && ((decide (y30.1.1.2.2.2.1 = v6)) && ((decide (y30.1.1.2.2.2.2.1 = v7)) && ((decide (y30.1.1.2.2.2.2.2 = v8)) && true)))))), ())) (
              some (false, ()))) (
             some (false, ()))))))) (
        cond (!(decide (y30.2.1 = 0))) (
         some (true, ())) (
         ((f14 y30.1.1.1.1 y30.1.1.1.2 y30.1.1.2.1.1 y30.1.1.2.1.2 y30.1.1.2.2.1 y30.1.1.2.2.2.1 y30.1.1.2.2.2.2.1 y30.1.1.2.2.2.2.2 y30.1.2.1.1 y30.1.2.1.2.1 y30.1.2.1.2.2.1 y30.1.2.1.2.2.2 y30.1.2.2.1 y30.1.2.2.2.1 y30.1.2.2.2.2.1 y30.1.2.2.2.2.2)).bind fun y37 =>
         cond y37.1 (
          cond (decide (y30.1.2.2.1 = v18)) (
           some ((((decide (y30.1.1.1.1 = v1)) && ((decide (y30.1.1.1.2 = v2)) && true)) && (((decide (y30.1.1.2.1.1 = v3)) && ((decide (y30.1.1.2.1.2 = v4)) && true)) && ((decide (y30.1.1.2.2.1 = v5)) && ((decide (y30.1.1.2.2.2.1 = v6)) && ((decide (y30.1.1.2.2.2.2.1 = v7)) && ((decide (y30.1.1.2.2.2.2.2 = v8)) && true)))))), ())) (
           some (false, ()))) (
          some (false, ())))))) (
      ((f10 y29.1.1.1.1 y29.1.1.1.2 y29.1.1.2.1.1 y29.1.1.2.1.2 y29.1.1.2.2.1 y29.1.1.2.2.2.1 y29.1.1.2.2.2.2.1 y29.1.1.2.2.2.2.2 y29.1.2.1.1 y29.1.2.1.2.1 y29.1.2.1.2.2.1 y29.1.2.1.2.2.2 y29.1.2.2.1 y29.1.2.2.2.1 y29.1.2.2.2.2.1 y29.1.2.2.2.2.2 v26)).bind fun y38 =>
      cond y29.2.1 (
       ((f14 y29.1.1.1.1 y29.1.1.1.2 y29.1.1.2.1.1 y29.1.1.2.1.2 y29.1.1.2.2.1 y29.1.1.2.2.2.1 y29.1.1.2.2.2.2.1 y29.1.1.2.2.2.2.2 y29.1.2.1.1 y29.1.2.1.2.1 y29.1.2.1.2.2.1 y29.1.2.1.2.2.2 y29.1.2.2.1 y29.1.2.2.2.1 y29.1.2.2.2.2.1 y29.1.2.2.2.2.2)).bind fun y39 =>
       cond (!y39.1) (
        some (false, ())) (
        cond (!y38.2.1) (
         some (false, ())) (
         ((f13 y38.1.1.1.1 y38.1.1.1.2 y38.1.1.2.1.1 y38.1.1.2.1.2 y38.1.1.2.2.1 y38.1.1.2.2.2.1 y38.1.1.2.2.2.2.1 y38.1.1.2.2.2.2.2 y38.1.2.1.1 y38.1.2.1.2.1 y38.1.2.1.2.2.1 y38.1.2.1.2.2.2 y38.1.2.2.1 y38.1.2.2.2.1 y38.1.2.2.2.2.1 y38.1.2.2.2.2.2 y29.1.1.1.1 y29.1.1.1.2 y29.1.1.2.1.1 y29.1.1.2.1.2 y29.1.1.2.2.1 y29.1.1.2.2.2.1 y29.1.1.2.2.2.2.1 y29.1.1.2.2.2.2.2 y29.1.2.1.1 y29.1.2.1.2.1 y29.1.2.1.2.2.1 y29.1.2.1.2.2.2 y29.1.2.2.1 y29.1.2.2.2.1 y29.1.2.2.2.2.1 y29.1.2.2.2.2.2)).bind fun y40 =>
         cond (!y40.1) (
          some (false, ())) (
          cond (!(decide (y30.2.1 = 0))) (
           some (true, ())) (
           ((f14 y30.1.1.1.1 y30.1.1.1.2 y30.1.1.2.1.1 y30.1.1.2.1.2 y30.1.1.2.2.1 y30.1.1.2.2.2.1 y30.1.1.2.2.2.2.1 y30.1.1.2.2.2.2.2 y30.1.2.1.1 y30.1.2.1.2.1 y30.1.2.1.2.2.1 y30.1.2.1.2.2.2 y30.1.2.2.1 y30.1.2.2.2.1 y30.1.2.2.2.2.1 y30.1.2.2.2.2.2)).bind fun y41 =>
           cond y41.1 (
            cond (decide (y30.1.2.2.1 = v18)) (
             some ((((decide (y30.1.1.1.1 = v1)) && ((decide (y30.1.1.1.2 = v2)) && true)) && (((decide (y30.1.1.2.1.1 = v3)) && ((decide (y30.1.1.2.1.2 = v4)) && true)) && ((decide (y30.1.1.2.2.1 = v5)) && ((decide (y30.1.1.2.2.2.1 = v6)) && ((decide (y30.1.1.2.2.2.2.1 = v7)) && ((decide (y30.1.1.2.2.2.2.2 = v8)) && true)))))), ())) (
             some (false, ()))) (
            some (false, ()))))))) (
       cond (!(decide (y30.2.1 = 0))) (
        some (true, ())) (
        ((f14 y30.1.1.1.1 y30.1.1.1.2 y30.1.1.2.1.1 y30.1.1.2.1.2 y30.1.1.2.2.1 y30.1.1.2.2.2.1 y30.1.1.2.2.2.2.1 y30.1.1.2.2.2.2.2 y30.1.2.1.1 y30.1.2.1.2.1 y30.1.2.1.2.2.1 y30.1.2.1.2.2.2 y30.1.2.2.1 y30.1.2.2.2.1 y30.1.2.2.2.2.1 y30.1.2.2.2.2.2)).bind fun y42 =>
        cond y42.1 (
         cond (decide (y30.1.2.2.1 = v18)) (
          some ((((decide (y30.1.1.1.1 = v1)) && ((decide (y30.1.1.1.2 = v2)) && true)) && (((decide (y30.1.1.2.1.1 = v3)) && ((decide (y30.1.1.2.1.2 = v4)) && true)) && ((decide (y30.1.1.2.2.1 = v5)) && ((decide (y30.1.1.2.2.2.1 = v6)) && ((decide (y30.1.1.2.2.2.2.1 = v7)) && ((decide (y30.1.1.2.2.2.2.2 = v8)) && true)))))), ())) (
          some (false, ()))) (
         some (false, ()))))))) (
    cond (!(decide (y30.2.1 = 0))) (
     ((f13 y30.1.1.1.1 y30.1.1.1.2 y30.1.1.2.1.1 y30.1.1.2.1.2 y30.1.1.2.2.1 y30.1.1.2.2.2.1 y30.1.1.2.2.2.2.1 y30.1.1.2.2.2.2.2 y30.1.2.1.1 y30.1.2.1.2.1 y30.1.2.1.2.2.1 y30.1.2.1.2.2.2 y30.1.2.2.1 y30.1.2.2.2.1 y30.1.2.2.2.2.1 y30.1.2.2.2.2.2 v1 v2 v3 v4 v5 v6 v7 v8 v9 v10 v11 v12 v13 v14 v15 v16)).bind fun y43 =>
     cond (!y43.1) (
      some (false, ())) (
      ((f10 y29.1.1.1.1 y29.1.1.1.2 y29.1.1.2.1.1 y29.1.1.2.1.2 y29.1.1.2.2.1 y29.1.1.2.2.2.1 y29.1.1.2.2.2.2.1 y29.1.1.2.2.2.2.2 y29.1.2.1.1 y29.1.2.1.2.1 y29.1.2.1.2.2.1 y29.1.2.1.2.2.2 y29.1.2.2.1 y29.1.2.2.2.1 y29.1.2.2.2.2.1 y29.1.2.2.2.2.2 v26)).bind fun y44 =>
      cond y29.2.1 (
       ((f14 y29.1.1.1.1 y29.1.1.1.2 y29.1.1.2.1.1 y29.1.1.2.1.2 y29.1.1.2.2.1 y29.1.1.2.2.2.1 y29.1.1.2.2.2.2.1 y29.1.1.2.2.2.2.2 y29.1.2.1.1 y29.1.2.1.2.1 y29.1.2.1.2.2.1 y29.1.2.1.2.2.2 y29.1.2.2.1 y29.1.2.2.2.1 y29.1.2.2.2.2.1 y29.1.2.2.2.2.2)).bind fun y45 =>
       cond (!y45.1) (
        some (false, ())) (
        cond (!y44.2.1) (
         some (false, ())) (
         ((f13 y44.1.1.1.1 y44.1.1.1.2 y44.1.1.2.1.1 y44.1.1.2.1.2 y44.1.1.2.2.1 y44.1.1.2.2.2.1 y44.1.1.2.2.2.2.1 y44.1.1.2.2.2.2.2 y44.1.2.1.1 y44.1.2.1.2.1 y44.1.2.1.2.2.1 y44.1.2.1.2.2.2 y44.1.2.2.1 y44.1.2.2.2.1 y44.1.2.2.2.2.1 y44.1.2.2.2.2.2 y29.1.1.1.1 y29.1.1.1.2 y29.1.1.2.1.1 y29.1.1.2.1.2 y29.1.1.2.2.1 y29.1.1.2.2.2.1 y29.1.1.2.2.2.2.1 y29.1.1.2.2.2.2.2 y29.1.2.1.1 y29.1.2.1.2.1 y29.1.2.1.2.2.1 y29.1.2.1.2.2.2 y29.1.2.2.1 y29.1.2.2.2.1 y29.1.2.2.2.2.1 y29.1.2.2.2.2.2)).bind fun y46 =>
         cond (!y46.1) (
          some (false, ())) (
          cond (!(decide (y30.2.1 = 0))) (
           some (true, ())) (
           ((f14 y30.1.1.1.1 y30.1.1.1.2 y30.1.1.2.1.1 y30.1.1.2.1.2 y30.1.1.2.2.1 y30.1.1.2.2.2.1 y30.1.1.2.2.2.2.1 y30.1.1.2.2.2.2.2 y30.1.2.1.1 y30.1.2.1.2.1 y30.1.2.1.2.2.1 y30.1.2.1.2.2.2 y30.1.2.2.1 y30.1.2.2.2.1 y30.1.2.2.2.2.1 y30.1.2.2.2.2.2)).bind fun y47 =>
           cond y47.1 (
            cond (decide (y30.1.2.2.1 = v18)) (
             some ((((decide (y30.1.1.1.1 = v1)) && ((decide (y30.1.1.1.2 = v2)) && true)) && (((decide (y30.1.1.2.1.1 = v3)) && ((decide (y30.1.1.2.1.2 = v4)) && true)) && ((decide (y30.1.1.2.2.1 = v5)) && ((decide (y30.1.1.2.2.2.1 = v6)) && ((decide (y30.1.1.2.2.2.2.1 = v7)) && ((decide (y30.1.1.2.2.2.2.2 = v8)) && true)))))), ())) (
             some (false, ()))) (
            some (false, ()))))))) (
       cond (!(decide (y30.2.1 = 0))) (
        some (true, ())) (
        ((f14 y30.1.1.1.1 y30.1.1.1.2 y30.1.1.2.1.1 y30.1.1.2.1.2 y30.1.1.2.2.1 y30.1.1.2.2.2.1 y30.1.1.2.2.2.2.1 y30.1.1.2.2.2.2.2 y30.1.2.1.1 y30.1.2.1.2.1 y30.1.2.1.2.2.1 y30.1.2.1.2.2.2 y30.1.2.2.1 y30.1.2.2.2.1 y30.1.2.2.2.2.1 y30.1.2.2.2.2.2)).bind fun y48 =>
        cond y48.1 (
         cond (decide (y30.1.2.2.1 = v18)) (
          some ((((decide (y30.1.1.1.1 = v1)) && ((decide (y30.1.1.1.2 = v2)) && true)) && (((decide (y30.1.1.2.1.1 = v3)) && ((decide (y30.1.1.2.1.2 = v4)) && true)) && ((decide (y30.1.1.2.2.1 = v5)) && ((decide (y30.1.1.2.2.2.1 = v6)) && ((decide (y30.1.1.2.2.2.2.1 = v7)) && ((decide (y30.1.1.2.2.2.2.2 = v8)) && true)))))), ())) (
          some (false, ()))) (
         some (false, ())))))) (
     ((f10 y29.1.1.1.1 y29.1.1.1.2 y29.1.1.2.1.1 y29.1.1.2.1.2 y29.1.1.2.2.1 y29.1.1.2.2.2.1 y29.1.1.2.2.2.2.1 y29.1.1.2.2.2.2.2 y29.1.2.1.1 y29.1.2.1.2.1 y29.1.2.1.2.2.1 y29.1.2.1.2.2.2 y29.1.2.2.1 y29.1.2.2.2.1 y29.1.2.2.2.2.1 y29.1.2.2.2.2.2 v26)).bind fun y49 =>
     cond y29.2.1 (
      ((f14 y29.1.1.1.1 y29.1.1.1.2 y29.1.1.2.1.1 y29.1.1.2.1.2 y29.1.1.2.2.1 y29.1.1.2.2.2.1 y29.1.1.2.2.2.2.1 y29.1.1.2.2.2.2.2 y29.1.2.1.1 y29.1.2.1.2.1 y29.1.2.1.2.2.1 y29.1.2.1.2.2.2 y29.1.2.2.1 y29.1.2.2.2.1 y29.1.2.2.2.2.1 y29.1.2.2.2.2.2)).bind fun y50 =>
      cond (!y50.1) (
       some (false, ())) (
       cond (!y49.2.1) (
        some (false, ())) (
        ((f13 y49.1.1.1.1 y49.1.1.1.2 y49.1.1.2.1.1 y49.1.1.2.1.2 y49.1.1.2.2.1 y49.1.1.2.2.2.1 y49.1.1.2.2.2.2.1 y49.1.1.2.2.2.2.2 y49.1.2.1.1 y49.1.2.1.2.1 y49.1.2.1.2.2.1 y49.1.2.1.2.2.2 y49.1.2.2.1 y49.1.2.2.2.1 y49.1.2.2.2.2.1 y49.1.2.2.2.2.2 y29.1.1.1.1 y29.1.1.1.2 y29.1.1.2.1.1 y29.1.1.2.1.2 y29.1.1.2.2.1 y29.1.1.2.2.2.1 y29.1.1.2.2.2.2.1 y29.1.1.2.2.2.2.2 y29.1.2.1.1 y29.1.2.1.2.1 y29.1.2.1.2.2.1 y29.1.2.1.2.2.2 y29.1.2.2.1 y29.1.2.2.2.1 y29.1.2.2.2.2.1 y29.1.2.2.2.2.2)).bind fun y51 =>
        cond (!y51.1) (
         some (false, ())) (
         cond (!(decide (y30.2.1 = 0))) (
          some (true, ())) (
          ((f14 y30.1.1.1.1 y30.1.1.1.2 y30.1.1.2.1.1 y30.1.1.2.1.2 y30.1.1.2.2.1 y30.1.1.2.2.2.1 y30.1.1.2.2.2.2.1 y30.1.1.2.2.2.2.2 y30.1.2.1.1 y30.1.2.1.2.1 y30.1.2.1.2.2.1 y30.1.2.1.2.2.2 y30.1.2.2.1 y30.1.2.2.2.1 y30.1.2.2.2.2.1 y30.1.2.2.2.2.2)).bind fun y52 =>
          cond y52.1 (
           cond (decide (y30.1.2.2.1 = v18)) (
            some ((((decide (y30.1.1.1.1 = v1)) && ((decide (y30.1.1.1.2 = v2)) && true)) && (((decide (y30.1.1.2.1.1 = v3)) && ((decide (y30.1.1.2.1.2 = v4)) && true)) && ((decide (y30.1.1.2.2.1 = v5)) && ((decide (y30.1.1.2.2.2.1 = v6)) && ((decide (y30.1.1.2.2.2.2.1 = v7)) && ((decide (y30.1.1.2.2.2.2.2 = v8)) && true)))))), ())) (
            some (false, ()))) (
           some (false, ()))))))) (
      cond (!(decide (y30.2.1 = 0))) (
       some (true, ())) (
       ((f14 y30.1.1.1.1 y30.1.1.1.2 y30.1.1.2.1.1 y30.1.1.2.1.2 y30.1.1.2.2.1 y30.1.1.2.2.2.1 y30.1.1.2.2.2.2.1 y30.1.1.2.2.2.2.2 y30.1.2.1.1 y30.1.2.1.2.1 y30.1.2.1.2.2.1 y30.1.2.1.2.2.2 y30.1.2.2.1 y30.1.2.2.2.1 y30.1.2.2.2.2.1 y30.1.2.2.2.2.2)).bind fun y53 =>
       cond y53.1 (
        cond (decide (y30.1.2.2.1 = v18)) (
         some ((((decide (y30.1.1.1.1 = v1)) && ((decide (y30.1.1.1.2 = v2)) && true)) && (((decide (y30.1.1.2.1.1 = v3)) && ((decide (y30.1.1.2.1.2 = v4)) && true)) && ((decide (y30.1.1.2.2.1 = v5)) && ((decide (y30.1.1.2.2.2.1 = v6)) && ((decide (y30.1.1.2.2.2.2.1 = v7)) && ((decide (y30.1.1.2.2.2.2.2 = v8)) && true)))))), ())) (
         some (false, ()))) (
        some (false, ()))))))))
noncomputable def f5 (v1 : Int) (v2 : Int) (v3 : Int) (v4 : Int) (v5 : Int) (v6 : Int) (v7 : Int) (v8 : Int) (v9 : Int) (v10 : Int) (v11 : Int) (v12 : Bool) (v13 : Int) (v14 : (List (Int × (Int × Int)))) (v15 : (List (Int × (Int × (Int × (Int × Int)))))) (v16 : (List (Int × (Int × Int)))) : Option (Bool × Unit) :=
 (f8).bind fun y17 =>
 ((f9 v1 v2 v3 v4 v5 v6 v7 v8 v9 v10 v11 v12 v13 v14 v15 v16)).bind fun y18 =>
 cond (!y17.1) (
  some (y17.1, ())) (
  cond (!y18.1) (
   some (y17.1, ())) (
   ((f11 v1 v2 v3 v4 v5 v6 v7 v8 v9 v10 v11 v12 v13 v14 v15 v16)).bind fun y19 =>
   ((f10 v1 v2 v3 v4 v5 v6 v7 v8 v9 v10 v11 v12 v13 v14 v15 v16 v13)).bind fun y20 =>
   ((f11 y20.1.1.1.1 y20.1.1.1.2 y20.1.1.2.1.1 y20.1.1.2.1.2 y20.1.1.2.2.1 y20.1.1.2.2.2.1 y20.1.1.2.2.2.2.1 y20.1.1.2.2.2.2.2 y20.1.2.1.1 y20.1.2.1.2.1 y20.1.2.1.2.2.1 y20.1.2.1.2.2.2 y20.1.2.2.1 y20.1.2.2.2.1 y20.1.2.2.2.2.1 y20.1.2.2.2.2.2)).bind fun y21 =>
   cond y19.2.1 (
    cond (!y20.2.1) (
     some (false, ())) (
     ((f13 y20.1.1.1.1 y20.1.1.1.2 y20.1.1.2.1.1 y20.1.1.2.1.2 y20.1.1.2.2.1 y20.1.1.2.2.2.1 y20.1.1.2.2.2.2.1 y20.1.1.2.2.2.2.2 y20.1.2.1.1 y20.1.2.1.2.1 y20.1.2.1.2.2.1 y20.1.2.1.2.2.2 y20.1.2.2.1 y20.1.2.2.2.1 y20.1.2.2.2.2.1 y20.1.2.2.2.2.2 v1 v2 v3 v4 v5 v6 v7 v8 v9 v10 v11 v12 v13 v14 v15 v16)).bind fun y22 =>
     cond (!y22.1) (
      some (false, ())) (
      cond (!((bytesStr y19.1).toList == (bytesStr y21.1).toList)) (
       some (false, ())) (
       cond y20.2.1 (
        cond (!y21.2.1) (
         some (false, ())) (
         some ((decide (((y21.1.length : Nat) : Int) ≤ 600)), ()))) (
        some ((decide (((y21.1.length : Nat) : Int) ≤ 600)), ())))))) (
    cond y20.2.1 (
     cond (!y21.2.1) (
      some (false, ())) (
      some ((decide (((y21.1.length : Nat) : Int) ≤ 600)), ()))) (
     some ((decide (((y21.1.length : Nat) : Int) ≤ 600)), ())))))
abbrev X16_4 : Type := (Unit × Unit × Unit × Int × (List (Int × (Int × (Int × (Int × (Int × (Int × (Int × (Int × Bool))))))))) × Int × Int × Unit) × ((Int × Int × Int × Int × Int × Int × Int × Int × Int × Int × Int × Bool × Int × (List (Int × (Int × Int))) × (List (Int × (Int × (Int × (Int × Int))))) × (List (Int × (Int × Int))) × Unit) × (Int × Int × Int × Int × Int × Int × Int × Int × Int × Int × Int × Bool × Int × Unit × Unit × Unit × Unit) × (Int × Int × Int × Int × Int × Int × Int × Int × Int × Int × Int × Bool × Int × (List (Int × (Int × Int))) × (List (Int × (Int × (Int × (Int × Int))))) × (List (Int × (Int × Int))) × Unit) × Unit) × ((List (Int × (Int × Int))) × (List (Int × (Int × (Int × (Int × Int))))) × (List (Int × (Int × Int))) × Unit)
abbrev Y16_4 : Type := (Unit × Unit × Unit × Int × Unit) × ((Int × Int × Int × Int × Int × Int × Int × Int × Int × Int × Int × Bool × Int × (List (Int × (Int × Int))) × (List (Int × (Int × (Int × (Int × Int))))) × (List (Int × (Int × Int))) × Unit) × (Int × Int × Int × Int × Int × Int × Int × Int × Int × Int × Int × Bool × Int × Unit × Unit × Unit × Unit) × (Int × Int × Int × Int × Int × Int × Int × Int × Int × Int × Int × Bool × Int × (List (Int × (Int × Int))) × (List (Int × (Int × (Int × (Int × Int))))) × (List (Int × (Int × Int))) × Unit) × Unit) × ((List (Int × (Int × Int))) × (List (Int × (Int × (Int × (Int × Int))))) × (List (Int × (Int × Int))) × Unit)
abbrev Z16_4 : Type := Unit × Unit × Unit
noncomputable def t16_4 (v1 : Int) (v2 : (List (Int × (Int × (Int × (Int × (Int × (Int × (Int × (Int × Bool)))))))))) (v3 : Int) (v4 : Int) (v5 : Int) (v6 : Int) (v7 : Int) (v8 : Int) (v9 : Int) (v10 : Int) (v11 : Int) (v12 : Int) (v13 : Int) (v14 : Int) (v15 : Int) (v16 : Bool) (v17 : Int) (v18 : (List (Int × (Int × Int)))) (v19 : (List (Int × (Int × (Int × (Int × Int)))))) (v20 : (List (Int × (Int × Int)))) (v21 : Int) (v22 : Int) (v23 : Int) (v24 : Int) (v25 : Int) (v26 : Int) (v27 : Int) (v28 : Int) (v29 : Int) (v30 : Int) (v31 : Int) (v32 : Bool) (v33 : Int) (v34 : Int) (v35 : Int) (v36 : Int) (v37 : Int) (v38 : Int) (v39 : Int) (v40 : Int) (v41 : Int) (v42 : Int) (v43 : Int) (v44 : Int) (v45 : Bool) (v46 : Int) (v47 : (List (Int × (Int × Int)))) (v48 : (List (Int × (Int × (Int × (Int × Int)))))) (v49 : (List (Int × (Int × Int)))) (v50 : (List (Int × (Int × Int)))) (v51 : (List (Int × (Int × (Int × (Int × Int)))))) (v52 : (List (Int × (Int × Int)))) : Option (R3 X16_4 Y16_4 Z16_4) :=
 cond (decide (v4 < v3)) (
  cond ((decide (0 ≤ v4)) && (decide (v4 < ((v2.length : Nat) : Int)))) (
   ((f15 v34 v35 v36 v37 v38 v39 v40 v41 v42 v43 v44 v45 v46 v47 v48 v49 (rd (.pair (.int .i64) (.pair (.int .i64) (.pair (.int .i64) (.pair (.int .i64) (.pair (.int .i64) (.pair (.int .i64) (.pair (.int .i64) (.pair (.int .i64) .bool)))))))) v2 (Int.toNat v4)).1 (rd (.pair (.int .i64) (.pair (.int .i64) (.pair (.int .i64) (.pair (.int .i64) (.pair (.int .i64) (.pair (.int .i64) (.pair (.int .i64) (.pair (.int .i64) .bool)))))))) v2 (Int.toNat v4)).2.1 (rd (.pair (.int .i64) (.pair (.int .i64) (.pair (.int .i64) (.pair (.int .i64) (.pair (.int .i64) (.pair (.int .i64) (.pair (.int .i64) (.pair (.int .i64) .bool)))))))) v2 (Int.toNat v4)).2.2.1 (rd (.pair (.int .i64) (.pair (.int .i64) (.pair (.int .i64) (.pair (.int .i64) (.pair (.int .i64) (.pair (.int .i64) (.pair (.int .i64) (.pair (.int .i64) .bool)))))))) v2 (Int.toNat v4)).2.2.2.1 (rd (.pair (.int .i64) (.pair (.int .i64) (.pair (.int .i64) (.pair (.int .i64) (.pair (.int .i64) (.pair (.int .i64) (.pair (.int .i64) (.pair (.int .i64) .bool)))))))) v2 (Int.toNat v4)).2.2.2.2.1 (rd (.pair (.int .i64) (.pair (.int .i64) (.pair (.int .i64) (.pair (.int .i64) (.pair (.int .i64) (.pair (.int .i64) (.pair (.int .i64) (.pair (.int .i64) .bool)))))))) v2 (Int.toNat v4)).2.2.2.2.2.1 (rd (.pair (.int .i64) (.pair (.int .i64) (.pair (.int .i64) (.pair (.int .i64) (.pair (.int .i64) (.pair (.int .i64) (.pair (.int .i64) (.pair (.int .i64) .bool)))))))) v2 (Int.toNat v4)).2.2.2.2.2.2.1 (rd (.pair (.int .i64) (.pair (.int .i64) (.pair (.int .i64) (.pair (.int .i64) (.pair (.int .i64) (.pair (.int .i64) (.pair (.int .i64) (.pair (.int .i64) .bool)))))))) v2 (Int.toNat v4)).2.2.2.2.2.2.2.1 (rd (.pair (.int .i64) (.pair (.int .i64) (.pair (.int .i64) (.pair (.int .i64) (.pair (.int .i64) (.pair (.int .i64) (.pair (.int .i64) (.pair (.int .i64) .bool)))))))) v2 (Int.toNat v4)).2.2.2.2.2.2.2.2)).bind fun y53 =>
   cond (!(decide (y53.2.1 = 0))) (
    some (R3.out (((), ((), ((), (y53.2.1, ())))), (((v5, (v6, (v7, (v8, (v9, (v10, (v11, (v12, (v13, (v14, (v15, (v16, (v17, (v18, (v19, (v20, ())))))))))))))))), ((v21, (v22, (v23, (v24, (v25, (v26, (v27, (v28, (v29, (v30, (v31, (v32, (v33, ((), ((), ((), ())))))))))))))))), ((y53.1.1.1.1, (y53.1.1.1.2, (y53.1.1.2.1.1, (y53.1.1.2.1.2, (y53.1.1.2.2.1, (y53.1.1.2.2.2.1, (y53.1.1.2.2.2.2.1, (y53.1.1.2.2.2.2.2, (y53.1.2.1.1, (y53.1.2.1.2.1, (y53.1.2.1.2.2.1, (y53.1.2.1.2.2.2, (y53.1.2.2.1, (y53.1.2.2.2.1, (y53.1.2.2.2.2.1, (y53.1.2.2.2.2.2, ())))))))))))))))), ()))), (v50, (v51, (v52, ()))))))) (
    some (R3.next (((), ((), ((), (y53.2.1, (v2, (v3, ((IntKind.wrap .i64 (v4 + 1)), ()))))))), (((v5, (v6, (v7, (v8, (v9, (v10, (v11, (v12, (v13, (v14, (v15, (v16, (v17, (v18, (v19, (v20, ())))))))))))))))), ((v21, (v22, (v23, (v24, (v25, (v26, (v27, (v28, (v29, (v30, (v31, (v32, (v33, ((), ((), ((), ())))))))))))))))), ((y53.1.1.1.1, (y53.1.1.1.2, (y53.1.1.2.1.1, (y53.1.1.2.1.2, (y53.1.1.2.2.1, (y53.1.1.2.2.2.1, (y53.1.1.2.2.2.2.1, (y53.1.1.2.2.2.2.2, (y53.1.2.1.1, (y53.1.2.1.2.1, (y53.1.2.1.2.2.1, (y53.1.2.1.2.2.2, (y53.1.2.2.1, (y53.1.2.2.2.1, (y53.1.2.2.2.2.1, (y53.1.2.2.2.2.2, ())))))))))))))))), ()))), (v50, (v51, (v52, ())))))))) (
   none)) (
  some (R3.out (((), ((), ((), (v1, ())))), (((v5, (v6, (v7, (v8, (v9, (v10, (v11, (v12, (v13, (v14, (v15, (v16, (v17, (v18, (v19, (v20, ())))))))))))))))), ((v21, (v22, (v23, (v24, (v25, (v26, (v27, (v28, (v29, (v30, (v31, (v32, (v33, ((), ((), ((), ())))))))))))))))), ((v34, (v35, (v36, (v37, (v38, (v39, (v40, (v41, (v42, (v43, (v44, (v45, (v46, (v47, (v48, (v49, ())))))))))))))))), ()))), (v50, (v51, (v52, ())))))))
noncomputable def u16_4 (z : X16_4) : Option (R3 X16_4 Y16_4 Z16_4) := t16_4 z.1.2.2.2.1 z.1.2.2.2.2.1 z.1.2.2.2.2.2.1 z.1.2.2.2.2.2.2.1 z.2.1.1.1 z.2.1.1.2.1 z.2.1.1.2.2.1 z.2.1.1.2.2.2.1 z.2.1.1.2.2.2.2.1 z.2.1.1.2.2.2.2.2.1 z.2.1.1.2.2.2.2.2.2.1 z.2.1.1.2.2.2.2.2.2.2.1 z.2.1.1.2.2.2.2.2.2.2.2.1 z.2.1.1.2.2.2.2.2.2.2.2.2.1 z.2.1.1.2.2.2.2.2.2.2.2.2.2.1 z.2.1.1.2.2.2.2.2.2.2.2.2.2.2.1 z.2.1.1.2.2.2.2.2.2.2.2.2.2.2.2.1 z.2.1.1.2.2.2.2.2.2.2.2.2.2.2.2.2.1 z.2.1.1.2.2.2.2.2.2.2.2.2.2.2.2.2.2.1 z.2.1.1.2.2.2.2.2.2.2.2.2.2.2.2.2.2.2.1 z.2.1.2.1.1 z.2.1.2.1.2.1 z.2.1.2.1.2.2.1 z.2.1.2.1.2.2.2.1 z.2.1.2.1.2.2.2.2.1 z.2.1.2.1.2.2.2.2.2.1 z.2.1.2.1.2.2.2.2.2.2.1 z.2.1.2.1.2.2.2.2.2.2.2.1 z.2.1.2.1.2.2.2.2.2.2.2.2.1 z.2.1.2.1.2.2.2.2.2.2.2.2.2.1 z.2.1.2.1.2.2.2.2.2.2.2.2.2.2.1 z.2.1.2.1.2.2.2.2.2.2.2.2.2.2.2.1 z.2.1.2.1.2.2.2.2.2.2.2.2.2.2.2.2.1 z.2.1.2.2.1.1 z.2.1.2.2.1.2.1 z.2.1.2.2.1.2.2.1 z.2.1.2.2.1.2.2.2.1 z.2.1.2.2.1.2.2.2.2.1 z.2.1.2.2.1.2.2.2.2.2.1 z.2.1.2.2.1.2.2.2.2.2.2.1 z.2.1.2.2.1.2.2.2.2.2.2.2.1 z.2.1.2.2.1.2.2.2.2.2.2.2.2.1 z.2.1.2.2.1.2.2.2.2.2.2.2.2.2.1 z.2.1.2.2.1.2.2.2.2.2.2.2.2.2.2.1 z.2.1.2.2.1.2.2.2.2.2.2.2.2.2.2.2.1 z.2.1.2.2.1.2.2.2.2.2.2.2.2.2.2.2.2.1 z.2.1.2.2.1.2.2.2.2.2.2.2.2.2.2.2.2.2.1 z.2.1.2.2.1.2.2.2.2.2.2.2.2.2.2.2.2.2.2.1 z.2.1.2.2.1.2.2.2.2.2.2.2.2.2.2.2.2.2.2.2.1 z.2.2.1 z.2.2.2.1 z.2.2.2.2.1
noncomputable def f16 (v1 : Int) (v2 : Int) (v3 : Int) (v4 : Int) (v5 : Int) (v6 : Int) (v7 : Int) (v8 : Int) (v9 : Int) (v10 : Int) (v11 : Int) (v12 : Bool) (v13 : Int) (v14 : (List (Int × (Int × Int)))) (v15 : (List (Int × (Int × (Int × (Int × Int)))))) (v16 : (List (Int × (Int × Int)))) (v17 : (List (Int × (Int × (Int × (Int × (Int × (Int × (Int × (Int × Bool)))))))))) : Option ((((Int × Int) × ((Int × Int) × (Int × (Int × (Int × Int))))) × ((Int × (Int × (Int × Bool))) × (Int × ((List (Int × (Int × Int))) × ((List (Int × (Int × (Int × (Int × Int))))) × (List (Int × (Int × Int)))))))) × (Int × Unit)) :=
 ((f20 v1 v2 v3 v4 v5 v6 v7 v8 v9 v10 v11 v12 v13 v14 v15 v16)).bind fun y18 =>
 ((iter big u16_4 (((), ((), ((), (0, (v17, (((v17.length : Nat) : Int), (0, ()))))))), (((v1, (v2, (v3, (v4, (v5, (v6, (v7, (v8, (v9, (v10, (v11, (v12, (v13, (v14, (v15, (v16, ())))))))))))))))), ((0, (0, (0, (0, (0, (0, (0, (0, (0, (0, (0, (false, (0, ((), ((), ((), ())))))))))))))))), ((y18.1.1.1.1, (y18.1.1.1.2, (y18.1.1.2.1.1, (y18.1.1.2.1.2, (y18.1.1.2.2.1, (y18.1.1.2.2.2.1, (y18.1.1.2.2.2.2.1, (y18.1.1.2.2.2.2.2, (y18.1.2.1.1, (y18.1.2.1.2.1, (y18.1.2.1.2.2.1, (y18.1.2.1.2.2.2, (y18.1.2.2.1, (y18.1.2.2.2.1, (y18.1.2.2.2.2.1, (y18.1.2.2.2.2.2, ())))))))))))))))), ()))), ([], ([], ([], ()))))))).bind fun r => match r with
 | .inl y19 =>
   cond (!(decide (y19.1.2.2.2.1 = 0))) (
    ((f20 y19.2.1.1.1 y19.2.1.1.2.1 y19.2.1.1.2.2.1 y19.2.1.1.2.2.2.1 y19.2.1.1.2.2.2.2.1 y19.2.1.1.2.2.2.2.2.1 y19.2.1.1.2.2.2.2.2.2.1 y19.2.1.1.2.2.2.2.2.2.2.1 y19.2.1.1.2.2.2.2.2.2.2.2.1 y19.2.1.1.2.2.2.2.2.2.2.2.2.1 y19.2.1.1.2.2.2.2.2.2.2.2.2.2.1 y19.2.1.1.2.2.2.2.2.2.2.2.2.2.2.1 y19.2.1.1.2.2.2.2.2.2.2.2.2.2.2.2.1 y19.2.1.1.2.2.2.2.2.2.2.2.2.2.2.2.2.1 y19.2.1.1.2.2.2.2.2.2.2.2.2.2.2.2.2.2.1 y19.2.1.1.2.2.2.2.2.2.2.2.2.2.2.2.2.2.2.1)).bind fun y21 =>
    some ((((y21.1.1.1.1, y21.1.1.1.2), ((y21.1.1.2.1.1, y21.1.1.2.1.2), (y21.1.1.2.2.1, (y21.1.1.2.2.2.1, (y21.1.1.2.2.2.2.1, y21.1.1.2.2.2.2.2))))), ((y21.1.2.1.1, (y21.1.2.1.2.1, (y21.1.2.1.2.2.1, y21.1.2.1.2.2.2))), (y21.1.2.2.1, (y21.1.2.2.2.1, (y21.1.2.2.2.2.1, y21.1.2.2.2.2.2))))), (y19.1.2.2.2.1, ()))) (
    some ((((y19.2.1.2.2.1.1, y19.2.1.2.2.1.2.1), ((y19.2.1.2.2.1.2.2.1, y19.2.1.2.2.1.2.2.2.1), (y19.2.1.2.2.1.2.2.2.2.1, (y19.2.1.2.2.1.2.2.2.2.2.1, (y19.2.1.2.2.1.2.2.2.2.2.2.1, y19.2.1.2.2.1.2.2.2.2.2.2.2.1))))), ((y19.2.1.2.2.1.2.2.2.2.2.2.2.2.1, (y19.2.1.2.2.1.2.2.2.2.2.2.2.2.2.1, (y19.2.1.2.2.1.2.2.2.2.2.2.2.2.2.2.1, y19.2.1.2.2.1.2.2.2.2.2.2.2.2.2.2.2.1))), (y19.2.1.2.2.1.2.2.2.2.2.2.2.2.2.2.2.2.1, (y19.2.1.2.2.1.2.2.2.2.2.2.2.2.2.2.2.2.2.1, (y19.2.1.2.2.1.2.2.2.2.2.2.2.2.2.2.2.2.2.2.1, y19.2.1.2.2.1.2.2.2.2.2.2.2.2.2.2.2.2.2.2.2.1))))), (0, ())))
 | .inr z20 =>
   none
noncomputable def f7 (v1 : Int) (v2 : Int) (v3 : Int) (v4 : Int) (v5 : Int) (v6 : Int) (v7 : Int) (v8 : Int) (v9 : Int) (v10 : Int) (v11 : Int) (v12 : Bool) (v13 : Int) (v14 : (List (Int × (Int × Int)))) (v15 : (List (Int × (Int × (Int × (Int × Int)))))) (v16 : (List (Int × (Int × Int)))) (v17 : (List (Int × (Int × (Int × (Int × (Int × (Int × (Int × (Int × Bool)))))))))) (v18 : Int) : Option (Bool × Unit) :=
 (f8).bind fun y19 =>
 ((f9 v1 v2 v3 v4 v5 v6 v7 v8 v9 v10 v11 v12 v13 v14 v15 v16)).bind fun y20 =>
 cond (!y19.1) (
  some (y19.1, ())) (
  cond (!y20.1) (
   some (y19.1, ())) (
   cond (decide (30 < ((v17.length : Nat) : Int))) (
    some (y19.1, ())) (
    cond (decide (v18 < 0)) (
     some (y19.1, ())) (
     cond (decide (((v17.length : Nat) : Int) < v18)) (
      some (y19.1, ())) (
      ((f16 v1 v2 v3 v4 v5 v6 v7 v8 v9 v10 v11 v12 v13 v14 v15 v16 v17)).bind fun y21 =>
      cond ((decide (0 ≤ v18)) && (decide (v18 ≤ ((v17.length : Nat) : Int)))) (
       ((f16 v1 v2 v3 v4 v5 v6 v7 v8 v9 v10 v11 v12 v13 v14 v15 v16 (List.drop 0 (List.take (Int.toNat v18) v17)))).bind fun y22 =>
       cond (((decide (0 ≤ v18)) && (decide (v18 ≤ ((v17.length : Nat) : Int)))) && (decide (((v17.length : Nat) : Int) ≤ ((v17.length : Nat) : Int)))) (
        ((f16 y22.1.1.1.1 y22.1.1.1.2 y22.1.1.2.1.1 y22.1.1.2.1.2 y22.1.1.2.2.1 y22.1.1.2.2.2.1 y22.1.1.2.2.2.2.1 y22.1.1.2.2.2.2.2 y22.1.2.1.1 y22.1.2.1.2.1 y22.1.2.1.2.2.1 y22.1.2.1.2.2.2 y22.1.2.2.1 y22.1.2.2.2.1 y22.1.2.2.2.2.1 y22.1.2.2.2.2.2 (List.drop (Int.toNat v18) (List.take (Int.toNat ((v17.length : Nat) : Int)) v17)))).bind fun y23 =>
        ((f16 v1 v2 v3 v4 v5 v6 v7 v8 v9 v10 v11 v12 v13 v14 v15 v16 [])).bind fun y24 =>
        cond (!(decide (y24.2.1 = 0))) (
         cond (decide (y24.2.1 = 0)) (
          ((f13 y24.1.1.1.1 y24.1.1.1.2 y24.1.1.2.1.1 y24.1.1.2.1.2 y24.1.1.2.2.1 y24.1.1.2.2.2.1 y24.1.1.2.2.2.2.1 y24.1.1.2.2.2.2.2 y24.1.2.1.1 y24.1.2.1.2.1 y24.1.2.1.2.2.1 y24.1.2.1.2.2.2 y24.1.2.2.1 y24.1.2.2.2.1 y24.1.2.2.2.2.1 y24.1.2.2.2.2.2 v1 v2 v3 v4 v5 v6 v7 v8 v9 v10 v11 v12 v13 v14 v15 v16)).bind fun y25 =>
          cond y25.1 (
           some ((decide (y21.2.1 = y22.2.1)), ())) (
           some (false, ()))) (
          some (false, ()))) (
         ((f13 y24.1.1.1.1 y24.1.1.1.2 y24.1.1.2.1.1 y24.1.1.2.1.2 y24.1.1.2.2.1 y24.1.1.2.2.2.1 y24.1.1.2.2.2.2.1 y24.1.1.2.2.2.2.2 y24.1.2.1.1 y24.1.2.1.2.1 y24.1.2.1.2.2.1 y24.1.2.1.2.2.2 y24.1.2.2.1 y24.1.2.2.2.1 y24.1.2.2.2.2.1 y24.1.2.2.2.2.2 v1 v2 v3 v4 v5 v6 v7 v8 v9 v10 v11 v12 v13 v14 v15 v16)).bind fun y26 =>
         cond (!y26.1) (
          cond (decide (y24.2.1 = 0)) (
           ((f13 y24.1.1.1.1 y24.1.1.1.2 y24.1.1.2.1.1 y24.1.1.2.1.2 y24.1.1.2.2.1 y24.1.1.2.2.2.1 y24.1.1.2.2.2.2.1 y24.1.1.2.2.2.2.2 y24.1.2.1.1 y24.1.2.1.2.1 y24.1.2.1.2.2.1 y24.1.2.1.2.2.2 y24.1.2.2.1 y24.1.2.2.2.1 y24.1.2.2.2.2.1 y24.1.2.2.2.2.2 v1 v2 v3 v4 v5 v6 v7 v8 v9 v10 v11 v12 v13 v14 v15 v16)).bind fun y27 =>
           cond y27.1 (
            some ((decide (y21.2.1 = y22.2.1)), ())) (
            some (false, ()))) (
           some (false, ()))) (
          cond (!(decide (y22.2.1 = 0))) (
           cond (decide (y24.2.1 = 0)) (
            ((f13 y24.1.1.1.1 y24.1.1.1.2 y24.1.1.2.1.1 y24.1.1.2.1.2 y24.1.1.2.2.1 y24.1.1.2.2.2.1 y24.1.1.2.2.2.2.1 y24.1.1.2.2.2.2.2 y24.1.2.1.1 y24.1.2.1.2.1 y24.1.2.1.2.2.1 y24.1.2.1.2.2.2 y24.1.2.2.1 y24.1.2.2.2.1 y24.1.2.2.2.2.1 y24.1.2.2.2.2.2 v1 v2 v3 v4 v5 v6 v7 v8 v9 v10 v11 v12 v13 v14 v15 v16)).bind fun y28 =>
            cond y28.1 (
             some ((decide (y21.2.1 = y22.2.1)), ())) (
             some (false, ()))) (
            some (false, ()))) (
           cond (decide (y21.2.1 = y23.2.1)) (
            cond (!(decide (y21.2.1 = 0))) (
             some (true, ())) (
             ((f13 y21.1.1.1.1 y21.1.1.1.2 y21.1.1.2.1.1 y21.1.1.2.1.2 y21.1.1.2.2.1 y21.1.1.2.2.2.1 y21.1.1.2.2.2.2.1 y21.1.1.2.2.2.2.2 y21.1.2.1.1 y21.1.2.1.2.1 y21.1.2.1.2.2.1 y21.1.2.1.2.2.2 y21.1.2.2.1 y21.1.2.2.2.1 y21.1.2.2.2.2.1 y21.1.2.2.2.2.2 y23.1.1.1.1 y23.1.1.1.2 y23.1.1.2.1.1 y23.1.1.2.1.2 y23.1.1.2.2.1 y23.1.1.2.2.2.1 y23.1.1.2.2.2.2.1 y23.1.1.2.2.2.2.2 y23.1.2.1.1 y23.1.2.1.2.1 y23.1.2.1.2.2.1 y23.1.2.1.2.2.2 y23.1.2.2.1 y23.1.2.2.2.1 y23.1.2.2.2.2.1 y23.1.2.2.2.2.2)).bind fun y29 =>
             some (y29.1, ()))) (
            some (false, ())))))) (
        none)) (
       none))))))
end Go.Proofs.Zz
