/- What the functions come to, told of data. -/
import Derived.Test.YticonaifcigpoaaLib12
namespace Go.Proofs.Zz
open Go Go.Sy
set_option linter.unusedVariables false
noncomputable def f8 (v1 : (List (Int × (Int × (Int × (Int × Int)))))) (v2 : (List (Int × (Int × Int)))) : Option (Bool × Unit) :=
 cond (decide (((v1.length : Nat) : Int) ≤ 40)) (
  some ((decide (((v2.length : Nat) : Int) ≤ 40)), ())) (
  some (false, ()))
abbrev X9_4 : Type := ((List (Int × (Int × (Int × (Int × Int))))) × (List (Int × (Int × (Int × (Int × Int))))) × Int × Unit) × (Unit) × (Unit)
abbrev Y9_4 : Type := (Unit) × (Unit) × (Unit)
abbrev Z9_4 : Type := (Bool × Unit) × (Unit) × (Unit)
noncomputable def t9_4 (v1 : (List (Int × (Int × (Int × (Int × Int)))))) (v2 : (List (Int × (Int × (Int × (Int × Int)))))) (v3 : Int) : Option (R3 X9_4 Y9_4 Z9_4) :=
 cond (decide (v3 < ((v1.length : Nat) : Int))) (
  cond ((decide (0 ≤ v3)) && (decide (v3 < ((v1.length : Nat) : Int)))) (
   cond ((decide (0 ≤ v3)) && (decide (v3 < ((v2.length : Nat) : Int)))) (
    cond (!((decide ((rd (.pair (.int .i64) (.pair (.int .i64) (.pair (.int .i64) (.pair (.int .i64) (.int .i64))))) v1 (Int.toNat v3)).1 = (rd (.pair (.int .i64) (.pair (.int .i64) (.pair (.int .i64) (.pair (.int .i64) (.int .i64))))) v2 (Int.toNat v3)).1)) && ((decide ((rd (.pair (.int .i64) (.pair (.int .i64) (.pair (.int .i64) (.pair (.int .i64) (.int .i64))))) v1 (Int.toNat v3)).2.1 = (rd (.pair (.int .i64) (.pair (.int .i64) (.pair (.int .i64) (.pair (.int .i64) (.int .i64))))) v2 (Int.toNat v3)).2.1)) && ((decide ((rd (.pair (.int .i64) (.pair (.int .i64) (.pair (.int .i64) (.pair (.int .i64) (.int .i64))))) v1 (Int.toNat v3)).2.2.1 = (rd (.pair (.int .i64) (.pair (.int .i64) (.pair (.int .i64) (.pair (.int .i64) (.int .i64))))) v2 (Int.toNat v3)).2.2.1)) && ((decide ((rd (.pair (.int .i64) (.pair (.int .i64) (.pair (.int .i64) (.pair (.int .i64) (.int .i64))))) v1 (Int.toNat v3)).2.2.2.1 = (rd (.pair (.int .i64) (.pair (.int .i64) (.pair (.int .i64) (.pair (.int .i64) (.int .i64))))) v2 (Int.toNat v3)).2.2.2.1)) && ((decide ((rd (.pair (.int .i64) (.pair (.int .i64) (.pair (.int .i64) (.pair (.int .i64) (.int .i64))))) v1 (Int.toNat v3)).2.2.2.2 = (rd (.pair (.int .i64) (.pair (.int .i64) (.pair (.int .i64) (.pair (.int .i64) (.int .i64))))) v2 (Int.toNat v3)).2.2.2.2)) && true)))))) (
     some (R3.ret ((false, ()), ((), ())))) (
     some (R3.next ((v1, (v2, ((IntKind.wrap .i64 (v3 + 1)), ()))), ((), ()))))) (
    none)) (
   none)) (
  some (R3.out ((), ((), ()))))
noncomputable def u9_4 (z : X9_4) : Option (R3 X9_4 Y9_4 Z9_4) := t9_4 z.1.1 z.1.2.1 z.1.2.2.1
noncomputable def f9 (v1 : (List (Int × (Int × (Int × (Int × Int)))))) (v2 : (List (Int × (Int × (Int × (Int × Int)))))) : Option (Bool × Unit) :=
 cond (!(decide (((v1.length : Nat) : Int) = ((v2.length : Nat) : Int)))) (
  some (false, ())) (
  ((iter big u9_4 ((v1, (v2, (0, ()))), ((), ())))).bind fun r => match r with
  | .inl y3 =>
    some (true, ())
  | .inr z4 =>
    some (z4.1.1, ()))
abbrev X10_4 : Type := ((List (Int × (Int × Int))) × (List (Int × (Int × Int))) × Int × Unit) × (Unit) × (Unit)
abbrev Y10_4 : Type := (Unit) × (Unit) × (Unit)
abbrev Z10_4 : Type := (Bool × Unit) × (Unit) × (Unit)
noncomputable def t10_4 (v1 : (List (Int × (Int × Int)))) (v2 : (List (Int × (Int × Int)))) (v3 : Int) : Option (R3 X10_4 Y10_4 Z10_4) :=
 cond (decide (v3 < ((v1.length : Nat) : Int))) (
  cond ((decide (0 ≤ v3)) && (decide (v3 < ((v1.length : Nat) : Int)))) (
   cond ((decide (0 ≤ v3)) && (decide (v3 < ((v2.length : Nat) : Int)))) (
    cond (!((decide ((rd (.pair (.int .i64) (.pair (.int .i64) (.int .i64))) v1 (Int.toNat v3)).1 = (rd (.pair (.int .i64) (.pair (.int .i64) (.int .i64))) v2 (Int.toNat v3)).1)) && ((decide ((rd (.pair (.int .i64) (.pair (.int .i64) (.int .i64))) v1 (Int.toNat v3)).2.1 = (rd (.pair (.int .i64) (.pair (.int .i64) (.int .i64))) v2 (Int.toNat v3)).2.1)) && ((decide ((rd (.pair (.int .i64) (.pair (.int .i64) (.int .i64))) v1 (Int.toNat v3)).2.2 = (rd (.pair (.int .i64) (.pair (.int .i64) (.int .i64))) v2 (Int.toNat v3)).2.2)) && true)))) (
     some (R3.ret ((false, ()), ((), ())))) (
     some (R3.next ((v1, (v2, ((IntKind.wrap .i64 (v3 + 1)), ()))), ((), ()))))) (
    none)) (
   none)) (
  some (R3.out ((), ((), ()))))
noncomputable def u10_4 (z : X10_4) : Option (R3 X10_4 Y10_4 Z10_4) := t10_4 z.1.1 z.1.2.1 z.1.2.2.1
noncomputable def f10 (v1 : (List (Int × (Int × Int)))) (v2 : (List (Int × (Int × Int)))) : Option (Bool × Unit) :=
 cond (!(decide (((v1.length : Nat) : Int) = ((v2.length : Nat) : Int)))) (
  some (false, ())) (
  ((iter big u10_4 ((v1, (v2, (0, ()))), ((), ())))).bind fun r => match r with
  | .inl y3 =>
    some (true, ())
  | .inr z4 =>
    some (z4.1.1, ()))
abbrev X22_4 : Type := ((List (Int × (Int × (Int × (Int × Int))))) × (List (Int × (Int × (Int × (Int × Int))))) × Int × Int × Unit) × (Unit) × (Unit)
abbrev Y22_4 : Type := (Unit) × (Unit) × (Unit)
abbrev Z22_4 : Type := (Bool × Unit) × (Unit) × (Unit)
noncomputable def t22_4 (v1 : (List (Int × (Int × (Int × (Int × Int)))))) (v2 : (List (Int × (Int × (Int × (Int × Int)))))) (v3 : Int) (v4 : Int) : Option (R3 X22_4 Y22_4 Z22_4) :=
 cond (decide (v4 < v3)) (
  cond ((decide (0 ≤ v4)) && (decide (v4 < ((v1.length : Nat) : Int)))) (
   cond ((decide (0 ≤ v4)) && (decide (v4 < ((v2.length : Nat) : Int)))) (
    cond (!((decide ((rd (.pair (.int .i64) (.pair (.int .i64) (.pair (.int .i64) (.pair (.int .i64) (.int .i64))))) v1 (Int.toNat v4)).1 = (rd (.pair (.int .i64) (.pair (.int .i64) (.pair (.int .i64) (.pair (.int .i64) (.int .i64))))) v2 (Int.toNat v4)).1)) && ((decide ((rd (.pair (.int .i64) (.pair (.int .i64) (.pair (.int .i64) (.pair (.int .i64) (.int .i64))))) v1 (Int.toNat v4)).2.1 = (rd (.pair (.int .i64) (.pair (.int .i64) (.pair (.int .i64) (.pair (.int .i64) (.int .i64))))) v2 (Int.toNat v4)).2.1)) && ((decide ((rd (.pair (.int .i64) (.pair (.int .i64) (.pair (.int .i64) (.pair (.int .i64) (.int .i64))))) v1 (Int.toNat v4)).2.2.1 = (rd (.pair (.int .i64) (.pair (.int .i64) (.pair (.int .i64) (.pair (.int .i64) (.int .i64))))) v2 (Int.toNat v4)).2.2.1)) && ((decide ((rd (.pair (.int .i64) (.pair (.int .i64) (.pair (.int .i64) (.pair (.int .i64) (.int .i64))))) v1 (Int.toNat v4)).2.2.2.1 = (rd (.pair (.int .i64) (.pair (.int .i64) (.pair (.int .i64) (.pair (.int .i64) (.int .i64))))) v2 (Int.toNat v4)).2.2.2.1)) && ((decide ((rd (.pair (.int .i64) (.pair (.int .i64) (.pair (.int .i64) (.pair (.int .i64) (.int .i64))))) v1 (Int.toNat v4)).2.2.2.2 = (rd (.pair (.int .i64) (.pair (.int .i64) (.pair (.int .i64) (.pair (.int .i64) (.int .i64))))) v2 (Int.toNat v4)).2.2.2.2)) && true)))))) (
     some (R3.ret ((false, ()), ((), ())))) (
     some (R3.next ((v1, (v2, (v3, ((IntKind.wrap .i64 (v4 + 1)), ())))), ((), ()))))) (
    none)) (
   none)) (
  some (R3.out ((), ((), ()))))
noncomputable def u22_4 (z : X22_4) : Option (R3 X22_4 Y22_4 Z22_4) := t22_4 z.1.1 z.1.2.1 z.1.2.2.1 z.1.2.2.2.1
noncomputable def f22 (v1 : (List (Int × (Int × (Int × (Int × Int)))))) (v2 : (List (Int × (Int × (Int × (Int × Int)))))) : Option (Bool × Unit) :=
 cond (!(decide (((v1.length : Nat) : Int) = ((v2.length : Nat) : Int)))) (
  some (false, ())) (
  ((iter big u22_4 ((v1, (v2, (((v1.length : Nat) : Int), (0, ())))), ((), ())))).bind fun r => match r with
  | .inl y3 =>
    some (true, ())
  | .inr z4 =>
    some (z4.1.1, ()))
abbrev X23_4 : Type := ((List (Int × (Int × Int))) × (List (Int × (Int × Int))) × Int × Int × Unit) × (Unit) × (Unit)
abbrev Y23_4 : Type := (Unit) × (Unit) × (Unit)
abbrev Z23_4 : Type := (Bool × Unit) × (Unit) × (Unit)
noncomputable def t23_4 (v1 : (List (Int × (Int × Int)))) (v2 : (List (Int × (Int × Int)))) (v3 : Int) (v4 : Int) : Option (R3 X23_4 Y23_4 Z23_4) :=
 cond (decide (v4 < v3)) (
  cond ((decide (0 ≤ v4)) && (decide (v4 < ((v1.length : Nat) : Int)))) (
   cond ((decide (0 ≤ v4)) && (decide (v4 < ((v2.length : Nat) : Int)))) (
    cond (!((decide ((rd (.pair (.int .i64) (.pair (.int .i64) (.int .i64))) v1 (Int.toNat v4)).1 = (rd (.pair (.int .i64) (.pair (.int .i64) (.int .i64))) v2 (Int.toNat v4)).1)) && ((decide ((rd (.pair (.int .i64) (.pair (.int .i64) (.int .i64))) v1 (Int.toNat v4)).2.1 = (rd (.pair (.int .i64) (.pair (.int .i64) (.int .i64))) v2 (Int.toNat v4)).2.1)) && ((decide ((rd (.pair (.int .i64) (.pair (.int .i64) (.int .i64))) v1 (Int.toNat v4)).2.2 = (rd (.pair (.int .i64) (.pair (.int .i64) (.int .i64))) v2 (Int.toNat v4)).2.2)) && true)))) (
     some (R3.ret ((false, ()), ((), ())))) (
     some (R3.next ((v1, (v2, (v3, ((IntKind.wrap .i64 (v4 + 1)), ())))), ((), ()))))) (
    none)) (
   none)) (
  some (R3.out ((), ((), ()))))
noncomputable def u23_4 (z : X23_4) : Option (R3 X23_4 Y23_4 Z23_4) := t23_4 z.1.1 z.1.2.1 z.1.2.2.1 z.1.2.2.2.1
noncomputable def f23 (v1 : (List (Int × (Int × Int)))) (v2 : (List (Int × (Int × Int)))) : Option (Bool × Unit) :=
 cond (!(decide (((v1.length : Nat) : Int) = ((v2.length : Nat) : Int)))) (
  some (false, ())) (
  ((iter big u23_4 ((v1, (v2, (((v1.length : Nat) : Int), (0, ())))), ((), ())))).bind fun r => match r with
  | .inl y3 =>
    some (true, ())
  | .inr z4 =>
    some (z4.1.1, ()))
noncomputable def f11 (v1 : (List (Int × (Int × (Int × (Int × Int)))))) (v2 : (List (Int × (Int × (Int × (Int × Int)))))) : Option (Bool × Unit) :=
 ((f22 v1 v2)).bind fun y3 =>
 some (y3.1, ())
noncomputable def f12 (v1 : (List (Int × (Int × Int)))) (v2 : (List (Int × (Int × Int)))) : Option (Bool × Unit) :=
 ((f23 v1 v2)).bind fun y3 =>
 some (y3.1, ())
abbrev X14_2 : Type := ((List (Int × (Int × (Int × (Int × Int))))) × Int × Unit) × (Unit) × (Unit)
abbrev Y14_2 : Type := (Unit) × (Unit) × (Unit)
abbrev Z14_2 : Type := (Bool × Unit) × (Unit) × (Unit)
noncomputable def t14_2 (v1 : (List (Int × (Int × (Int × (Int × Int)))))) (v2 : Int) : Option (R3 X14_2 Y14_2 Z14_2) :=
 cond (decide (v2 < ((v1.length : Nat) : Int))) (
  cond ((decide (0 ≤ (IntKind.wrap .i64 (v2 - 1)))) && (decide ((IntKind.wrap .i64 (v2 - 1)) < ((v1.length : Nat) : Int)))) (
   cond ((decide (0 ≤ v2)) && (decide (v2 < ((v1.length : Nat) : Int)))) (
    cond (decide ((rd (.pair (.int .i64) (.pair (.int .i64) (.pair (.int .i64) (.pair (.int .i64) (.int .i64))))) v1 (Int.toNat v2)).2.1 < (rd (.pair (.int .i64) (.pair (.int .i64) (.pair (.int .i64) (.pair (.int .i64) (.int .i64))))) v1 (Int.toNat (IntKind.wrap .i64 (v2 - 1)))).2.1)) (
     some (R3.ret ((false, ()), ((), ())))) (
     cond (decide ((rd (.pair (.int .i64) (.pair (.int .i64) (.pair (.int .i64) (.pair (.int .i64) (.int .i64))))) v1 (Int.toNat v2)).2.1 = (rd (.pair (.int .i64) (.pair (.int .i64) (.pair (.int .i64) (.pair (.int .i64) (.int .i64))))) v1 (Int.toNat (IntKind.wrap .i64 (v2 - 1)))).2.1)) (
      cond (decide ((rd (.pair (.int .i64) (.pair (.int .i64) (.pair (.int .i64) (.pair (.int .i64) (.int .i64))))) v1 (Int.toNat v2)).2.2.1 ≤ (rd (.pair (.int .i64) (.pair (.int .i64) (.pair (.int .i64) (.pair (.int .i64) (.int .i64))))) v1 (Int.toNat (IntKind.wrap .i64 (v2 - 1)))).2.2.1)) (
       some (R3.ret ((false, ()), ((), ())))) (
       some (R3.next ((v1, ((IntKind.wrap .i64 (v2 + 1)), ())), ((), ()))))) (
      some (R3.next ((v1, ((IntKind.wrap .i64 (v2 + 1)), ())), ((), ())))))) (
    none)) (
   none)) (
  some (R3.out ((), ((), ()))))
noncomputable def u14_2 (z : X14_2) : Option (R3 X14_2 Y14_2 Z14_2) := t14_2 z.1.1 z.1.2.1
noncomputable def f14 (v1 : (List (Int × (Int × (Int × (Int × Int)))))) : Option (Bool × Unit) :=
 ((iter big u14_2 ((v1, (1, ())), ((), ())))).bind fun r => match r with
 | .inl y2 =>
   some (true, ())
 | .inr z3 =>
   some (z3.1.1, ())
abbrev X16_4 : Type := ((List Int) × (List Int) × Int × Unit) × (Unit) × (Unit)
abbrev Y16_4 : Type := (Unit) × (Unit) × (Unit)
abbrev Z16_4 : Type := (Bool × Unit) × (Unit) × (Unit)
noncomputable def t16_4 (v1 : (List Int)) (v2 : (List Int)) (v3 : Int) : Option (R3 X16_4 Y16_4 Z16_4) :=
 cond (decide (v3 < ((v1.length : Nat) : Int))) (
  cond ((decide (0 ≤ v3)) && (decide (v3 < ((v1.length : Nat) : Int)))) (
   cond ((decide (0 ≤ v3)) && (decide (v3 < ((v2.length : Nat) : Int)))) (
    cond (!(decide ((rd (.int .i64) v1 (Int.toNat v3)) = (rd (.int .i64) v2 (Int.toNat v3))))) (
     some (R3.ret ((false, ()), ((), ())))) (
     some (R3.next ((v1, (v2, ((IntKind.wrap .i64 (v3 + 1)), ()))), ((), ()))))) (
    none)) (
   none)) (
  some (R3.out ((), ((), ()))))
noncomputable def u16_4 (z : X16_4) : Option (R3 X16_4 Y16_4 Z16_4) := t16_4 z.1.1 z.1.2.1 z.1.2.2.1
noncomputable def f16 (v1 : (List Int)) (v2 : (List Int)) : Option (Bool × Unit) :=
 cond (!(decide (((v1.length : Nat) : Int) = ((v2.length : Nat) : Int)))) (
  some (false, ())) (
  ((iter big u16_4 ((v1, (v2, (0, ()))), ((), ())))).bind fun r => match r with
  | .inl y3 =>
    some (true, ())
  | .inr z4 =>
    some (z4.1.1, ()))
abbrev X17_3 : Type := (Int × (List (Int × (Int × (Int × (Int × Int))))) × Int × Int × Unit) × (Unit) × ((List Int) × Unit)
abbrev Y17_3 : Type := (Unit) × (Unit) × ((List Int) × Unit)
abbrev Z17_3 : Type := Unit × Unit × Unit
noncomputable def t17_3 (v1 : Int) (v2 : (List (Int × (Int × (Int × (Int × Int)))))) (v3 : Int) (v4 : Int) (v5 : (List Int)) : Option (R3 X17_3 Y17_3 Z17_3) :=
 cond (decide (v4 < v3)) (
  cond ((decide (0 ≤ v4)) && (decide (v4 < ((v2.length : Nat) : Int)))) (
   cond (decide ((rd (.pair (.int .i64) (.pair (.int .i64) (.pair (.int .i64) (.pair (.int .i64) (.int .i64))))) v2 (Int.toNat v4)).1 = v1)) (
    cond ((decide (((v5.length + 1) * 8) ≤ 140737488355328)) && (decide ((v5.length + 1) ≤ 9223372036854775807))) (
     some (R3.next ((v1, (v2, (v3, ((IntKind.wrap .i64 (v4 + 1)), ())))), ((), ((v5 ++ [v4]), ()))))) (
     none)) (
    some (R3.next ((v1, (v2, (v3, ((IntKind.wrap .i64 (v4 + 1)), ())))), ((), (v5, ())))))) (
   none)) (
  some (R3.out ((), ((), (v5, ())))))
noncomputable def u17_3 (z : X17_3) : Option (R3 X17_3 Y17_3 Z17_3) := t17_3 z.1.1 z.1.2.1 z.1.2.2.1 z.1.2.2.2.1 z.2.2.1
noncomputable def f17 (v1 : (List (Int × (Int × (Int × (Int × Int)))))) (v2 : Int) : Option ((List Int) × Unit) :=
 ((iter big u17_3 ((v2, (v1, (((v1.length : Nat) : Int), (0, ())))), ((), ([], ()))))).bind fun r => match r with
 | .inl y3 =>
   some (y3.2.2.1, ())
 | .inr z4 =>
   none
abbrev X65_3 : Type := (Int × (List Int) × Int × Int × Unit) × (Unit) × (Unit)
abbrev Y65_3 : Type := (Int × Unit) × (Unit) × (Unit)
abbrev Z65_3 : Type := (Int × Unit) × (Unit) × (Unit)
noncomputable def t65_3 (v1 : Int) (v2 : (List Int)) (v3 : Int) (v4 : Int) : Option (R3 X65_3 Y65_3 Z65_3) :=
 cond (decide (v4 < v3)) (
  cond ((decide (0 ≤ v4)) && (decide (v4 < ((v2.length : Nat) : Int)))) (
   cond (!(decide ((rd (.int .i64) v2 (Int.toNat v4)) = v1))) (
    some (R3.ret (((rd (.int .i64) v2 (Int.toNat v4)), ()), ((), ())))) (
    some (R3.next ((v1, (v2, (v3, ((IntKind.wrap .i64 (v4 + 1)), ())))), ((), ()))))) (
   none)) (
  some (R3.out ((v1, ()), ((), ()))))
noncomputable def u65_3 (z : X65_3) : Option (R3 X65_3 Y65_3 Z65_3) := t65_3 z.1.1 z.1.2.1 z.1.2.2.1 z.1.2.2.2.1
noncomputable def f65 (v1 : (List Int)) : Option (Int × Unit) :=
 ((iter big u65_3 ((0, (v1, (((v1.length : Nat) : Int), (0, ())))), ((), ())))).bind fun r => match r with
 | .inl y2 =>
   some (y2.1.1, ())
 | .inr z3 =>
   some (z3.1.1, ())
noncomputable def f66 (v1 : Int) (v2 : Int) : Option (Int × Unit) :=
 cond (!(decide (v1 = v1))) (
  cond (!(decide (v2 = v2))) (
   some (0, ())) (
   some ((-1), ()))) (
  cond (!(decide (v2 = v2))) (
   some (1, ())) (
   cond (decide (v1 < v2)) (
    some ((-1), ())) (
    cond (decide (v2 < v1)) (
     some (1, ())) (
     some (0, ())))))
noncomputable def f46 (v1 : Int) (v2 : Int) (v3 : Int) (v4 : Int) : Option (Int × Unit) :=
 ((f66 v1 v3)).bind fun y5 =>
 ((f66 v2 v4)).bind fun y6 =>
 ((f65 [y5.1, y6.1])).bind fun y7 =>
 some (y7.1, ())
noncomputable def f24 (v1 : Int) (v2 : Int) (v3 : Int) (v4 : Int) (v5 : Int) : Option (((Int × Int) × (Int × (Int × (Int × (Int × Int))))) × Unit) :=
 some (((v2, v3), (v1, (v2, (v3, (v4, v5))))), ())
noncomputable def f49 (v1 : Int) (v2 : Int) (v3 : Int) : Option (((Int × Int) × (Int × (Int × Int))) × Unit) :=
 some (((v1, v2), (v1, (v2, v3))), ())
noncomputable def f30 (v1 : Int) (v2 : Int) (v3 : Int) (v4 : Int) (v5 : Int) : Option ((Int × Int) × Unit) :=
 ((f24 v1 v2 v3 v4 v5)).bind fun y6 =>
 some ((y6.1.1.1, y6.1.1.2), ())
noncomputable def f36 (v1 : Int) (v2 : Int) (v3 : Int) : Option ((Int × Int) × Unit) :=
 ((f49 v1 v2 v3)).bind fun y4 =>
 some ((y4.1.1.1, y4.1.1.2), ())
abbrev X32_44_2_0 : Type := ((List (Int × (Int × (Int × (Int × Int))))) × Unit × Int × Int × Unit) × ((Int × Int × Unit) × (Unit × Unit) × Unit) × (Unit)
abbrev Y32_44_2_0 : Type := (Unit) × ((Int × Int × Unit) × (Unit × Unit) × Unit) × (Unit)
abbrev Z32_44_2_0 : Type := (Int × Unit) × ((Int × Int × Unit) × (Unit × Unit) × Unit) × (Unit)
noncomputable def t32_44_2_0 (v1 : (List (Int × (Int × (Int × (Int × Int)))))) (v2 : Int) (v3 : Int) (v4 : Int) (v5 : Int) : Option (R3 X32_44_2_0 Y32_44_2_0 Z32_44_2_0) :=
 cond (decide (v3 < v2)) (
  cond ((decide (0 ≤ v3)) && (decide (v3 < ((v1.length : Nat) : Int)))) (
   ((f30 (rd (.pair (.int .i64) (.pair (.int .i64) (.pair (.int .i64) (.pair (.int .i64) (.int .i64))))) v1 (Int.toNat v3)).1 (rd (.pair (.int .i64) (.pair (.int .i64) (.pair (.int .i64) (.pair (.int .i64) (.int .i64))))) v1 (Int.toNat v3)).2.1 (rd (.pair (.int .i64) (.pair (.int .i64) (.pair (.int .i64) (.pair (.int .i64) (.int .i64))))) v1 (Int.toNat v3)).2.2.1 (rd (.pair (.int .i64) (.pair (.int .i64) (.pair (.int .i64) (.pair (.int .i64) (.int .i64))))) v1 (Int.toNat v3)).2.2.2.1 (rd (.pair (.int .i64) (.pair (.int .i64) (.pair (.int .i64) (.pair (.int .i64) (.int .i64))))) v1 (Int.toNat v3)).2.2.2.2)).bind fun y6 =>
   cond ((decide (y6.1.1 = v4)) && ((decide (y6.1.2 = v5)) && true)) (
    some (R3.ret ((v3, ()), (((v4, (v5, ())), (((), ()), ())), ())))) (
    some (R3.next ((v1, ((), (v2, ((IntKind.wrap .i64 (v3 + 1)), ())))), (((v4, (v5, ())), (((), ()), ())), ()))))) (
   none)) (
  some (R3.out ((), (((v4, (v5, ())), (((), ()), ())), ()))))
noncomputable def u32_44_2_0 (z : X32_44_2_0) : Option (R3 X32_44_2_0 Y32_44_2_0 Z32_44_2_0) := t32_44_2_0 z.1.1 z.1.2.2.1 z.1.2.2.2.1 z.2.1.1.1 z.2.1.1.2.1
noncomputable def f32 (v1 : (List (Int × (Int × (Int × (Int × Int)))))) (v2 : Int) (v3 : Int) : Option (Int × Unit) :=
 ((iter big u32_44_2_0 ((v1, ((), (((v1.length : Nat) : Int), (0, ())))), (((v2, (v3, ())), (((), ()), ())), ())))).bind fun r => match r with
 | .inl y4 =>
   some ((-1), ())
 | .inr z5 =>
   some (z5.1.1, ())
abbrev X29_44_2_0 : Type := ((List (Int × (Int × (Int × (Int × Int))))) × Unit × Int × Int × Unit) × ((Int × Int × Unit) × (Unit × Unit) × Unit) × (Unit)
abbrev Y29_44_2_0 : Type := (Unit) × ((Int × Int × Unit) × (Unit × Unit) × Unit) × (Unit)
abbrev Z29_44_2_0 : Type := (Int × Unit) × ((Int × Int × Unit) × (Unit × Unit) × Unit) × (Unit)
noncomputable def t29_44_2_0 (v1 : (List (Int × (Int × (Int × (Int × Int)))))) (v2 : Int) (v3 : Int) (v4 : Int) (v5 : Int) : Option (R3 X29_44_2_0 Y29_44_2_0 Z29_44_2_0) :=
 cond (decide (v3 < v2)) (
  cond ((decide (0 ≤ v3)) && (decide (v3 < ((v1.length : Nat) : Int)))) (
   ((f30 (rd (.pair (.int .i64) (.pair (.int .i64) (.pair (.int .i64) (.pair (.int .i64) (.int .i64))))) v1 (Int.toNat v3)).1 (rd (.pair (.int .i64) (.pair (.int .i64) (.pair (.int .i64) (.pair (.int .i64) (.int .i64))))) v1 (Int.toNat v3)).2.1 (rd (.pair (.int .i64) (.pair (.int .i64) (.pair (.int .i64) (.pair (.int .i64) (.int .i64))))) v1 (Int.toNat v3)).2.2.1 (rd (.pair (.int .i64) (.pair (.int .i64) (.pair (.int .i64) (.pair (.int .i64) (.int .i64))))) v1 (Int.toNat v3)).2.2.2.1 (rd (.pair (.int .i64) (.pair (.int .i64) (.pair (.int .i64) (.pair (.int .i64) (.int .i64))))) v1 (Int.toNat v3)).2.2.2.2)).bind fun y6 =>
   ((f46 y6.1.1 y6.1.2 v4 v5)).bind fun y7 =>
   cond (decide (0 < y7.1)) (
    some (R3.ret ((v3, ()), (((v4, (v5, ())), (((), ()), ())), ())))) (
    some (R3.next ((v1, ((), (v2, ((IntKind.wrap .i64 (v3 + 1)), ())))), (((v4, (v5, ())), (((), ()), ())), ()))))) (
   none)) (
  some (R3.out ((), (((v4, (v5, ())), (((), ()), ())), ()))))
noncomputable def u29_44_2_0 (z : X29_44_2_0) : Option (R3 X29_44_2_0 Y29_44_2_0 Z29_44_2_0) := t29_44_2_0 z.1.1 z.1.2.2.1 z.1.2.2.2.1 z.2.1.1.1 z.2.1.1.2.1
noncomputable def f29 (v1 : (List (Int × (Int × (Int × (Int × Int)))))) (v2 : Int) (v3 : Int) : Option (Int × Unit) :=
 ((iter big u29_44_2_0 ((v1, ((), (((v1.length : Nat) : Int), (0, ())))), (((v2, (v3, ())), (((), ()), ())), ())))).bind fun r => match r with
 | .inl y4 =>
   some (((v1.length : Nat) : Int), ())
 | .inr z5 =>
   cond (decide (z5.1.1 = (-1))) (
    some (((v1.length : Nat) : Int), ())) (
    some (z5.1.1, ()))
abbrev X38_48_2_0 : Type := ((List (Int × (Int × Int))) × Unit × Int × Int × Unit) × ((Int × Int × Unit) × (Unit × Unit) × Unit) × (Unit)
abbrev Y38_48_2_0 : Type := (Unit) × ((Int × Int × Unit) × (Unit × Unit) × Unit) × (Unit)
abbrev Z38_48_2_0 : Type := (Int × Unit) × ((Int × Int × Unit) × (Unit × Unit) × Unit) × (Unit)
noncomputable def t38_48_2_0 (v1 : (List (Int × (Int × Int)))) (v2 : Int) (v3 : Int) (v4 : Int) (v5 : Int) : Option (R3 X38_48_2_0 Y38_48_2_0 Z38_48_2_0) :=
 cond (decide (v3 < v2)) (
  cond ((decide (0 ≤ v3)) && (decide (v3 < ((v1.length : Nat) : Int)))) (
   ((f36 (rd (.pair (.int .i64) (.pair (.int .i64) (.int .i64))) v1 (Int.toNat v3)).1 (rd (.pair (.int .i64) (.pair (.int .i64) (.int .i64))) v1 (Int.toNat v3)).2.1 (rd (.pair (.int .i64) (.pair (.int .i64) (.int .i64))) v1 (Int.toNat v3)).2.2)).bind fun y6 =>
   ((f46 y6.1.1 y6.1.2 v4 v5)).bind fun y7 =>
   cond (decide (0 < y7.1)) (
    some (R3.ret ((v3, ()), (((v4, (v5, ())), (((), ()), ())), ())))) (
    some (R3.next ((v1, ((), (v2, ((IntKind.wrap .i64 (v3 + 1)), ())))), (((v4, (v5, ())), (((), ()), ())), ()))))) (
   none)) (
  some (R3.out ((), (((v4, (v5, ())), (((), ()), ())), ()))))
noncomputable def u38_48_2_0 (z : X38_48_2_0) : Option (R3 X38_48_2_0 Y38_48_2_0 Z38_48_2_0) := t38_48_2_0 z.1.1 z.1.2.2.1 z.1.2.2.2.1 z.2.1.1.1 z.2.1.1.2.1
noncomputable def f38 (v1 : (List (Int × (Int × Int)))) (v2 : Int) (v3 : Int) : Option (Int × Unit) :=
 ((iter big u38_48_2_0 ((v1, ((), (((v1.length : Nat) : Int), (0, ())))), (((v2, (v3, ())), (((), ()), ())), ())))).bind fun r => match r with
 | .inl y4 =>
   some (((v1.length : Nat) : Int), ())
 | .inr z5 =>
   cond (decide (z5.1.1 = (-1))) (
    some (((v1.length : Nat) : Int), ())) (
    some (z5.1.1, ()))
noncomputable def f19 (v1 : (List (Int × (Int × (Int × (Int × Int)))))) (v2 : Int) (v3 : Int) : Option (Int × Unit) :=
 ((f32 v1 v2 v3)).bind fun y4 =>
 some (y4.1, ())
noncomputable def f15 (v1 : (List (Int × (Int × (Int × (Int × Int)))))) (v2 : Int) (v3 : Int) (v4 : Int) (v5 : Int) (v6 : Int) : Option ((List (Int × (Int × (Int × (Int × Int))))) × (Bool × Unit)) :=
 ((fCloneLease v1)).bind fun y7 =>
 ((f19 v1 v3 v4)).bind fun y8 =>
 cond (!(decide (y8.1 = (-1)))) (
  some (y7.1, (false, ()))) (
  cond (decide (32 ≤ ((v1.length : Nat) : Int))) (
   some (y7.1, (false, ()))) (
   ((f30 v2 v3 v4 v5 v6)).bind fun y9 =>
   ((f29 v1 y9.1.1 y9.1.2)).bind fun y10 =>
   ((fInsLease y7.1 y10.1 [(v2, (v3, (v4, (v5, v6))))])).bind fun y11 =>
   some (y11, (true, ()))))
noncomputable def f18 (v1 : (List (Int × (Int × (Int × (Int × Int)))))) (v2 : Int) (v3 : Int) : Option ((List (Int × (Int × (Int × (Int × Int))))) × (Bool × Unit)) :=
 ((fCloneLease v1)).bind fun y4 =>
 ((f19 v1 v2 v3)).bind fun y5 =>
 cond (decide (y5.1 = (-1))) (
  some (y4.1, (false, ()))) (
  cond ((((decide (0 ≤ y5.1)) && (decide (y5.1 ≤ (IntKind.wrap .i64 (y5.1 + 1))))) && (decide ((IntKind.wrap .i64 (y5.1 + 1)) ≤ ((y4.1.length : Nat) : Int)))) && (decide ((0 + ((y4.1.length : Nat) : Int)) ≤ ((y4.1.length : Nat) : Int)))) (
   cond (decide (y5.1 = (IntKind.wrap .i64 (y5.1 + 1)))) (
    some (y4.1, (true, ()))) (
    cond ((decide (0 ≤ y5.1)) && (decide ((0 + y5.1) ≤ ((y4.1.length : Nat) : Int)))) (
     cond (((decide (0 ≤ (IntKind.wrap .i64 (y5.1 + 1)))) && (decide ((IntKind.wrap .i64 (y5.1 + 1)) ≤ (((y4.1.length - 0) : Nat) : Int)))) && (decide ((0 + (((y4.1.length - 0) : Nat) : Int)) ≤ ((y4.1.length : Nat) : Int)))) (
      cond (decide (((0 + (Int.toNat y5.1)) + (List.drop (0 + (Int.toNat (IntKind.wrap .i64 (y5.1 + 1)))) (List.take (0 + (Int.toNat (((y4.1.length - 0) : Nat) : Int))) y4.1)).length) ≤ y4.1.length)) (
       cond (((decide (0 ≤ (((((0 + (Int.toNat y5.1)) + (List.drop (0 + (Int.toNat (IntKind.wrap .i64 (y5.1 + 1)))) (List.take (0 + (Int.toNat (((y4.1.length - 0) : Nat) : Int))) y4.1)).length) - 0) : Nat) : Int))) && (decide ((((((0 + (Int.toNat y5.1)) + (List.drop (0 + (Int.toNat (IntKind.wrap .i64 (y5.1 + 1)))) (List.take (0 + (Int.toNat (((y4.1.length - 0) : Nat) : Int))) y4.1)).length) - 0) : Nat) : Int) ≤ ((y4.1.length : Nat) : Int)))) && (decide ((0 + ((y4.1.length : Nat) : Int)) ≤ (((((List.take (0 + (Int.toNat y5.1)) y4.1) ++ (List.drop (0 + (Int.toNat (IntKind.wrap .i64 (y5.1 + 1)))) (List.take (0 + (Int.toNat (((y4.1.length - 0) : Nat) : Int))) y4.1))) ++ (List.drop ((0 + (Int.toNat y5.1)) + (List.drop (0 + (Int.toNat (IntKind.wrap .i64 (y5.1 + 1)))) (List.take (0 + (Int.toNat (((y4.1.length - 0) : Nat) : Int))) y4.1)).length) y4.1)).length : Nat) : Int)))) (
        some ((List.take ((0 + (Int.toNat y5.1)) + (List.drop (0 + (Int.toNat (IntKind.wrap .i64 (y5.1 + 1)))) (List.take (0 + (Int.toNat (((y4.1.length - 0) : Nat) : Int))) y4.1)).length) (((List.take (0 + (Int.toNat (((((0 + (Int.toNat y5.1)) + (List.drop (0 + (Int.toNat (IntKind.wrap .i64 (y5.1 + 1)))) (List.take (0 + (Int.toNat (((y4.1.length - 0) : Nat) : Int))) y4.1)).length) - 0) : Nat) : Int))) (((List.take (0 + (Int.toNat y5.1)) y4.1) ++ (List.drop (0 + (Int.toNat (IntKind.wrap .i64 (y5.1 + 1)))) (List.take (0 + (Int.toNat (((y4.1.length - 0) : Nat) : Int))) y4.1))) ++ (List.drop ((0 + (Int.toNat y5.1)) + (List.drop (0 + (Int.toNat (IntKind.wrap .i64 (y5.1 + 1)))) (List.take (0 + (Int.toNat (((y4.1.length - 0) : Nat) : Int))) y4.1)).length) y4.1))) ++ (List.replicate ((0 + (Int.toNat ((y4.1.length : Nat) : Int))) - (0 + (Int.toNat (((((0 + (Int.toNat y5.1)) + (List.drop (0 + (Int.toNat (IntKind.wrap .i64 (y5.1 + 1)))) (List.take (0 + (Int.toNat (((y4.1.length - 0) : Nat) : Int))) y4.1)).length) - 0) : Nat) : Int)))) (0, (0, (0, (0, 0)))))) ++ (List.drop ((0 + (Int.toNat (((((0 + (Int.toNat y5.1)) + (List.drop (0 + (Int.toNat (IntKind.wrap .i64 (y5.1 + 1)))) (List.take (0 + (Int.toNat (((y4.1.length - 0) : Nat) : Int))) y4.1)).length) - 0) : Nat) : Int))) + ((0 + (Int.toNat ((y4.1.length : Nat) : Int))) - (0 + (Int.toNat (((((0 + (Int.toNat y5.1)) + (List.drop (0 + (Int.toNat (IntKind.wrap .i64 (y5.1 + 1)))) (List.take (0 + (Int.toNat (((y4.1.length - 0) : Nat) : Int))) y4.1)).length) - 0) : Nat) : Int))))) (((List.take (0 + (Int.toNat y5.1)) y4.1) ++ (List.drop (0 + (Int.toNat (IntKind.wrap .i64 (y5.1 + 1)))) (List.take (0 + (Int.toNat (((y4.1.length - 0) : Nat) : Int))) y4.1))) ++ (List.drop ((0 + (Int.toNat y5.1)) + (List.drop (0 + (Int.toNat (IntKind.wrap .i64 (y5.1 + 1)))) (List.take (0 + (Int.toNat (((y4.1.length - 0) : Nat) : Int))) y4.1)).length) y4.1))))), (true, ()))) (
        none)) (
       none)) (
      none)) (
     none))) (
   none))
abbrev X20_48_2_0 : Type := (Unit × Unit × Int × Int × Unit) × ((Int × Int × Int × Unit) × (List (Int × (Int × Int))) × Unit) × (Unit)
abbrev Y20_48_2_0 : Type := (Unit) × ((Int × Int × Int × Unit) × (List (Int × (Int × Int))) × Unit) × (Unit)
abbrev Z20_48_2_0 : Type := (Int × Unit) × ((Int × Int × Int × Unit) × (List (Int × (Int × Int))) × Unit) × (Unit)
noncomputable def t20_48_2_0 (v1 : Int) (v2 : Int) (v3 : Int) (v4 : Int) (v5 : Int) (v6 : (List (Int × (Int × Int)))) : Option (R3 X20_48_2_0 Y20_48_2_0 Z20_48_2_0) :=
 cond (decide (v2 < v1)) (
  cond ((decide (0 ≤ v2)) && (decide (v2 < ((v6.length : Nat) : Int)))) (
   cond (decide ((Int.toNat v2) < v6.length)) (
    ((f36 (rd (.pair (.int .i64) (.pair (.int .i64) (.int .i64))) v6 (Int.toNat v2)).1 (rd (.pair (.int .i64) (.pair (.int .i64) (.int .i64))) v6 (Int.toNat v2)).2.1 (rd (.pair (.int .i64) (.pair (.int .i64) (.int .i64))) v6 (Int.toNat v2)).2.2)).bind fun y7 =>
    ((f36 v3 v4 v5)).bind fun y8 =>
    cond ((decide (y7.1.1 = y8.1.1)) && ((decide (y7.1.2 = y8.1.2)) && true)) (
     some (R3.ret ((v2, ()), (((v3, (v4, (v5, ()))), (v6, ())), ())))) (
     some (R3.next (((), ((), (v1, ((IntKind.wrap .i64 (v2 + 1)), ())))), (((v3, (v4, (v5, ()))), (v6, ())), ()))))) (
    none)) (
   none)) (
  some (R3.out ((), (((v3, (v4, (v5, ()))), (v6, ())), ()))))
noncomputable def u20_48_2_0 (z : X20_48_2_0) : Option (R3 X20_48_2_0 Y20_48_2_0 Z20_48_2_0) := t20_48_2_0 z.1.2.2.1 z.1.2.2.2.1 z.2.1.1.1 z.2.1.1.2.1 z.2.1.1.2.2.1 z.2.1.2.1
abbrev X20_33_5_0 : Type := (Unit × Unit × Int × Int × Unit) × ((Int × Int × Int × Unit) × (List (Int × (Int × Int))) × Unit) × (Unit)
abbrev Y20_33_5_0 : Type := (Unit × Int × Unit) × ((Int × Int × Int × Unit) × (List (Int × (Int × Int))) × Unit) × (Unit)
abbrev Z20_33_5_0 : Type := (Unit) × ((Int × Int × Int × Unit) × (List (Int × (Int × Int))) × Unit) × (Unit)
noncomputable def t20_33_5_0 (v1 : Int) (v2 : Int) (v3 : Int) (v4 : Int) (v5 : Int) (v6 : (List (Int × (Int × Int)))) : Option (R3 X20_33_5_0 Y20_33_5_0 Z20_33_5_0) :=
 cond (decide (v2 < ((v6.length : Nat) : Int))) (
  cond ((decide (0 ≤ v2)) && (decide (v2 < ((v6.length : Nat) : Int)))) (
   cond (decide ((Int.toNat v2) < v6.length)) (
    ((f36 (rd (.pair (.int .i64) (.pair (.int .i64) (.int .i64))) v6 (Int.toNat v2)).1 (rd (.pair (.int .i64) (.pair (.int .i64) (.int .i64))) v6 (Int.toNat v2)).2.1 (rd (.pair (.int .i64) (.pair (.int .i64) (.int .i64))) v6 (Int.toNat v2)).2.2)).bind fun y7 =>
    ((f36 v3 v4 v5)).bind fun y8 =>
    cond (!((decide (y7.1.1 = y8.1.1)) && ((decide (y7.1.2 = y8.1.2)) && true))) (
     cond ((decide (0 ≤ v1)) && (decide (v1 < ((v6.length : Nat) : Int)))) (
      cond (decide ((Int.toNat v1) < v6.length)) (
       some (R3.next (((), ((), ((IntKind.wrap .i64 (v1 + 1)), ((IntKind.wrap .i64 (v2 + 1)), ())))), (((v3, (v4, (v5, ()))), ((v6.set (Int.toNat v1) ((rd (.pair (.int .i64) (.pair (.int .i64) (.int .i64))) v6 (Int.toNat v2)).1, ((rd (.pair (.int .i64) (.pair (.int .i64) (.int .i64))) v6 (Int.toNat v2)).2.1, (rd (.pair (.int .i64) (.pair (.int .i64) (.int .i64))) v6 (Int.toNat v2)).2.2))), ())), ())))) (
       none)) (
      none)) (
     some (R3.next (((), ((), (v1, ((IntKind.wrap .i64 (v2 + 1)), ())))), (((v3, (v4, (v5, ()))), (v6, ())), ()))))) (
    none)) (
   none)) (
  some (R3.out (((), (v1, ())), (((v3, (v4, (v5, ()))), (v6, ())), ()))))
noncomputable def u20_33_5_0 (z : X20_33_5_0) : Option (R3 X20_33_5_0 Y20_33_5_0 Z20_33_5_0) := t20_33_5_0 z.1.2.2.1 z.1.2.2.2.1 z.2.1.1.1 z.2.1.1.2.1 z.2.1.1.2.2.1 z.2.1.2.1
noncomputable def f20 (v1 : (List (Int × (Int × Int)))) (v2 : Int) (v3 : Int) (v4 : Int) : Option ((List (Int × (Int × Int))) × Unit) :=
 ((fCloneHeld v1)).bind fun y5 =>
 ((iter big u20_48_2_0 (((), ((), (((y5.1.length : Nat) : Int), (0, ())))), (((v2, (v3, (v4, ()))), (y5.1, ())), ())))).bind fun r => match r with
 | .inl y6 =>
   ((f36 y6.2.1.1.1 y6.2.1.1.2.1 y6.2.1.1.2.2.1)).bind fun y8 =>
   ((f38 y6.2.1.2.1 y8.1.1 y8.1.2)).bind fun y9 =>
   ((fInsHeld y6.2.1.2.1 y9.1 [(y6.2.1.1.1, (y6.2.1.1.2.1, y6.2.1.1.2.2.1))])).bind fun y10 =>
   some (y10, ())
 | .inr z7 =>
   cond (decide (z7.1.1 = (-1))) (
    ((f36 z7.2.1.1.1 z7.2.1.1.2.1 z7.2.1.1.2.2.1)).bind fun y11 =>
    ((f38 z7.2.1.2.1 y11.1.1 y11.1.2)).bind fun y12 =>
    ((fInsHeld z7.2.1.2.1 y12.1 [(z7.2.1.1.1, (z7.2.1.1.2.1, z7.2.1.1.2.2.1))])).bind fun y13 =>
    some (y13, ())) (
    ((iter big u20_33_5_0 (((), ((), (z7.1.1, ((IntKind.wrap .i64 (z7.1.1 + 1)), ())))), (((z7.2.1.1.1, (z7.2.1.1.2.1, (z7.2.1.1.2.2.1, ()))), (z7.2.1.2.1, ())), ())))).bind fun r => match r with
    | .inl y14 =>
      cond (((decide (0 ≤ y14.1.2.1)) && (decide (y14.1.2.1 ≤ (((y14.2.1.2.1.length - 0) : Nat) : Int)))) && (decide ((0 + (((y14.2.1.2.1.length - 0) : Nat) : Int)) ≤ ((y14.2.1.2.1.length : Nat) : Int)))) (
       cond ((decide (0 ≤ y14.1.2.1)) && (decide ((0 + y14.1.2.1) ≤ (((((List.take (0 + (Int.toNat y14.1.2.1)) y14.2.1.2.1) ++ (List.replicate ((0 + (Int.toNat (((y14.2.1.2.1.length - 0) : Nat) : Int))) - (0 + (Int.toNat y14.1.2.1))) (0, (0, 0)))) ++ (List.drop ((0 + (Int.toNat y14.1.2.1)) + ((0 + (Int.toNat (((y14.2.1.2.1.length - 0) : Nat) : Int))) - (0 + (Int.toNat y14.1.2.1)))) y14.2.1.2.1)).length : Nat) : Int)))) (
        ((f36 y14.2.1.1.1 y14.2.1.1.2.1 y14.2.1.1.2.2.1)).bind fun y16 =>
        ((f38 (List.drop 0 (List.take (0 + (Int.toNat y14.1.2.1)) (((List.take (0 + (Int.toNat y14.1.2.1)) y14.2.1.2.1) ++ (List.replicate ((0 + (Int.toNat (((y14.2.1.2.1.length - 0) : Nat) : Int))) - (0 + (Int.toNat y14.1.2.1))) (0, (0, 0)))) ++ (List.drop ((0 + (Int.toNat y14.1.2.1)) + ((0 + (Int.toNat (((y14.2.1.2.1.length - 0) : Nat) : Int))) - (0 + (Int.toNat y14.1.2.1)))) y14.2.1.2.1)))) y16.1.1 y16.1.2)).bind fun y17 =>
        ((fInsHeld (List.take (0 + (Int.toNat y14.1.2.1)) (((List.take (0 + (Int.toNat y14.1.2.1)) y14.2.1.2.1) ++ (List.replicate ((0 + (Int.toNat (((y14.2.1.2.1.length - 0) : Nat) : Int))) - (0 + (Int.toNat y14.1.2.1))) (0, (0, 0)))) ++ (List.drop ((0 + (Int.toNat y14.1.2.1)) + ((0 + (Int.toNat (((y14.2.1.2.1.length - 0) : Nat) : Int))) - (0 + (Int.toNat y14.1.2.1)))) y14.2.1.2.1))) y17.1 [(y14.2.1.1.1, (y14.2.1.1.2.1, y14.2.1.1.2.2.1))])).bind fun y18 =>
        some (y18, ())) (
        none)) (
       none)
    | .inr z15 =>
      ((f36 z15.2.1.1.1 z15.2.1.1.2.1 z15.2.1.1.2.2.1)).bind fun y19 =>
      none)
abbrev X21_48_2_0 : Type := (Unit × Unit × Int × Int × Unit) × ((Int × Unit) × (List (Int × (Int × Int))) × Unit) × (Unit)
abbrev Y21_48_2_0 : Type := (Unit) × ((Int × Unit) × (List (Int × (Int × Int))) × Unit) × (Unit)
abbrev Z21_48_2_0 : Type := (Int × Unit) × ((Int × Unit) × (List (Int × (Int × Int))) × Unit) × (Unit)
noncomputable def t21_48_2_0 (v1 : Int) (v2 : Int) (v3 : Int) (v4 : (List (Int × (Int × Int)))) : Option (R3 X21_48_2_0 Y21_48_2_0 Z21_48_2_0) :=
 cond (decide (v2 < v1)) (
  cond ((decide (0 ≤ v2)) && (decide (v2 < ((v4.length : Nat) : Int)))) (
   cond (decide ((Int.toNat v2) < v4.length)) (
    cond (decide ((rd (.pair (.int .i64) (.pair (.int .i64) (.int .i64))) v4 (Int.toNat v2)).2.2 ≤ v3)) (
     some (R3.ret ((v2, ()), (((v3, ()), (v4, ())), ())))) (
     some (R3.next (((), ((), (v1, ((IntKind.wrap .i64 (v2 + 1)), ())))), (((v3, ()), (v4, ())), ()))))) (
    none)) (
   none)) (
  some (R3.out ((), (((v3, ()), (v4, ())), ()))))
noncomputable def u21_48_2_0 (z : X21_48_2_0) : Option (R3 X21_48_2_0 Y21_48_2_0 Z21_48_2_0) := t21_48_2_0 z.1.2.2.1 z.1.2.2.2.1 z.2.1.1.1 z.2.1.2.1
abbrev X21_33_5_0 : Type := (Unit × Unit × Int × Int × Unit) × ((Int × Unit) × (List (Int × (Int × Int))) × Unit) × (Unit)
abbrev Y21_33_5_0 : Type := (Unit × Int × Unit) × ((Int × Unit) × (List (Int × (Int × Int))) × Unit) × (Unit)
abbrev Z21_33_5_0 : Type := (Unit) × ((Int × Unit) × (List (Int × (Int × Int))) × Unit) × (Unit)
noncomputable def t21_33_5_0 (v1 : Int) (v2 : Int) (v3 : Int) (v4 : (List (Int × (Int × Int)))) : Option (R3 X21_33_5_0 Y21_33_5_0 Z21_33_5_0) :=
 cond (decide (v2 < ((v4.length : Nat) : Int))) (
  cond ((decide (0 ≤ v2)) && (decide (v2 < ((v4.length : Nat) : Int)))) (
   cond (decide ((Int.toNat v2) < v4.length)) (
    cond (!(decide ((rd (.pair (.int .i64) (.pair (.int .i64) (.int .i64))) v4 (Int.toNat v2)).2.2 ≤ v3))) (
     cond ((decide (0 ≤ v1)) && (decide (v1 < ((v4.length : Nat) : Int)))) (
      cond (decide ((Int.toNat v1) < v4.length)) (
       some (R3.next (((), ((), ((IntKind.wrap .i64 (v1 + 1)), ((IntKind.wrap .i64 (v2 + 1)), ())))), (((v3, ()), ((v4.set (Int.toNat v1) ((rd (.pair (.int .i64) (.pair (.int .i64) (.int .i64))) v4 (Int.toNat v2)).1, ((rd (.pair (.int .i64) (.pair (.int .i64) (.int .i64))) v4 (Int.toNat v2)).2.1, (rd (.pair (.int .i64) (.pair (.int .i64) (.int .i64))) v4 (Int.toNat v2)).2.2))), ())), ())))) (
       none)) (
      none)) (
     some (R3.next (((), ((), (v1, ((IntKind.wrap .i64 (v2 + 1)), ())))), (((v3, ()), (v4, ())), ()))))) (
    none)) (
   none)) (
  some (R3.out (((), (v1, ())), (((v3, ()), (v4, ())), ()))))
noncomputable def u21_33_5_0 (z : X21_33_5_0) : Option (R3 X21_33_5_0 Y21_33_5_0 Z21_33_5_0) := t21_33_5_0 z.1.2.2.1 z.1.2.2.2.1 z.2.1.1.1 z.2.1.2.1
noncomputable def f21 (v1 : (List (Int × (Int × Int)))) (v2 : Int) : Option ((List (Int × (Int × Int))) × Unit) :=
 ((fCloneHeld v1)).bind fun y3 =>
 ((iter big u21_48_2_0 (((), ((), (((y3.1.length : Nat) : Int), (0, ())))), (((v2, ()), (y3.1, ())), ())))).bind fun r => match r with
 | .inl y4 =>
   some (y4.2.1.2.1, ())
 | .inr z5 =>
   cond (decide (z5.1.1 = (-1))) (
    some (z5.2.1.2.1, ())) (
    ((iter big u21_33_5_0 (((), ((), (z5.1.1, ((IntKind.wrap .i64 (z5.1.1 + 1)), ())))), (((z5.2.1.1.1, ()), (z5.2.1.2.1, ())), ())))).bind fun r => match r with
    | .inl y6 =>
      cond (((decide (0 ≤ y6.1.2.1)) && (decide (y6.1.2.1 ≤ (((y6.2.1.2.1.length - 0) : Nat) : Int)))) && (decide ((0 + (((y6.2.1.2.1.length - 0) : Nat) : Int)) ≤ ((y6.2.1.2.1.length : Nat) : Int)))) (
       cond ((decide (0 ≤ y6.1.2.1)) && (decide ((0 + y6.1.2.1) ≤ (((((List.take (0 + (Int.toNat y6.1.2.1)) y6.2.1.2.1) ++ (List.replicate ((0 + (Int.toNat (((y6.2.1.2.1.length - 0) : Nat) : Int))) - (0 + (Int.toNat y6.1.2.1))) (0, (0, 0)))) ++ (List.drop ((0 + (Int.toNat y6.1.2.1)) + ((0 + (Int.toNat (((y6.2.1.2.1.length - 0) : Nat) : Int))) - (0 + (Int.toNat y6.1.2.1)))) y6.2.1.2.1)).length : Nat) : Int)))) (
        some ((List.take (0 + (Int.toNat y6.1.2.1)) (((List.take (0 + (Int.toNat y6.1.2.1)) y6.2.1.2.1) ++ (List.replicate ((0 + (Int.toNat (((y6.2.1.2.1.length - 0) : Nat) : Int))) - (0 + (Int.toNat y6.1.2.1))) (0, (0, 0)))) ++ (List.drop ((0 + (Int.toNat y6.1.2.1)) + ((0 + (Int.toNat (((y6.2.1.2.1.length - 0) : Nat) : Int))) - (0 + (Int.toNat y6.1.2.1)))) y6.2.1.2.1))), ())) (
        none)) (
       none)
    | .inr z7 =>
      none)
abbrev X13_3 : Type := ((List (Int × (Int × (Int × (Int × Int))))) × Int × Int × Unit) × (Unit) × ((List Int) × Unit)
abbrev Y13_3 : Type := (Unit) × (Unit) × ((List Int) × Unit)
abbrev Z13_3 : Type := Unit × Unit × Unit
noncomputable def t13_3 (v1 : (List (Int × (Int × (Int × (Int × Int)))))) (v2 : Int) (v3 : Int) (v4 : (List Int)) : Option (R3 X13_3 Y13_3 Z13_3) :=
 cond (decide (v3 < v2)) (
  cond ((decide (0 ≤ v3)) && (decide (v3 < ((v1.length : Nat) : Int)))) (
   ((f24 (rd (.pair (.int .i64) (.pair (.int .i64) (.pair (.int .i64) (.pair (.int .i64) (.int .i64))))) v1 (Int.toNat v3)).1 (rd (.pair (.int .i64) (.pair (.int .i64) (.pair (.int .i64) (.pair (.int .i64) (.int .i64))))) v1 (Int.toNat v3)).2.1 (rd (.pair (.int .i64) (.pair (.int .i64) (.pair (.int .i64) (.pair (.int .i64) (.int .i64))))) v1 (Int.toNat v3)).2.2.1 (rd (.pair (.int .i64) (.pair (.int .i64) (.pair (.int .i64) (.pair (.int .i64) (.int .i64))))) v1 (Int.toNat v3)).2.2.2.1 (rd (.pair (.int .i64) (.pair (.int .i64) (.pair (.int .i64) (.pair (.int .i64) (.int .i64))))) v1 (Int.toNat v3)).2.2.2.2)).bind fun y5 =>
   cond ((decide (((v4.length + 1) * 8) ≤ 140737488355328)) && (decide ((v4.length + 1) ≤ 9223372036854775807))) (
    some (R3.next ((v1, (v2, ((IntKind.wrap .i64 (v3 + 1)), ()))), ((), ((v4 ++ [y5.1.1.1]), ()))))) (
    none)) (
   none)) (
  some (R3.out ((), ((), (v4, ())))))
noncomputable def u13_3 (z : X13_3) : Option (R3 X13_3 Y13_3 Z13_3) := t13_3 z.1.1 z.1.2.1 z.1.2.2.1 z.2.2.1
noncomputable def f13 (v1 : (List (Int × (Int × (Int × (Int × Int)))))) : Option ((List Int) × Unit) :=
 ((iter big u13_3 ((v1, (((v1.length : Nat) : Int), (0, ()))), ((), ([], ()))))).bind fun r => match r with
 | .inl y2 =>
   ((fSort y2.2.2.1)).bind fun y4 =>
   cond ((Nat.beq y4.length y2.2.2.1.length) && true) (
    ((fCompact y4)).bind fun y5 =>
    some (y5, ())) (
    none)
 | .inr z3 =>
   none
noncomputable def f7  : Option (Bool × Unit) :=
 ((f15 [] 0 1 1 0 0)).bind fun y1 =>
 ((f15 y1.1 5 0 2 0 0)).bind fun y2 =>
 ((f20 [] 0 3 9)).bind fun y3 =>
 cond y1.2.1 (
  cond y2.2.1 (
   cond (decide (((y2.1.length : Nat) : Int) = 2)) (
    cond (decide (0 < ((y2.1.length : Nat) : Int))) (
     cond (decide (0 < y2.1.length)) (
      cond (decide ((rd (.pair (.int .i64) (.pair (.int .i64) (.pair (.int .i64) (.pair (.int .i64) (.int .i64))))) y2.1 0).2.2.1 = 2)) (
       ((f19 y2.1 1 1)).bind fun y4 =>
       cond (decide (y4.1 = 1)) (
        ((f17 y2.1 5)).bind fun y5 =>
        cond (decide (((y5.1.length : Nat) : Int) = 1)) (
         cond (decide (((y3.1.length : Nat) : Int) = 1)) (
          ((f21 y3.1 9)).bind fun y6 =>
          cond (decide (((y6.1.length : Nat) : Int) = 0)) (
           ((f13 y2.1)).bind fun y7 =>
           cond (decide (((y7.1.length : Nat) : Int) = 2)) (
            ((f11 y2.1 y2.1)).bind fun y8 =>
            cond y8.1 (
             ((f12 y3.1 y3.1)).bind fun y9 =>
             some (y9.1, ())) (
             some (false, ()))) (
            some (false, ()))) (
           some (false, ()))) (
          some (false, ()))) (
         some (false, ()))) (
        some (false, ()))) (
       some (false, ()))) (
      none)) (
     none)) (
    some (false, ()))) (
   some (false, ()))) (
  some (false, ()))
noncomputable def f3 (v1 : (List (Int × (Int × (Int × (Int × Int)))))) (v2 : (List (Int × (Int × (Int × (Int × Int)))))) (v3 : (List (Int × (Int × Int)))) (v4 : (List (Int × (Int × Int)))) : Option (Bool × Unit) :=
 (f7).bind fun y5 =>
 ((f8 v1 v3)).bind fun y6 =>
 ((f8 v2 v4)).bind fun y7 =>
 cond (!y5.1) (
  some (y5.1, ())) (
  cond (!y6.1) (
   some (y5.1, ())) (
   cond (!y7.1) (
    some (y5.1, ())) (
    ((f9 v1 v2)).bind fun y8 =>
    ((f10 v3 v4)).bind fun y9 =>
    ((f11 v1 v2)).bind fun y10 =>
    cond (y10.1 == y8.1) (
     ((f12 v3 v4)).bind fun y11 =>
     cond (y11.1 == y9.1) (
      ((f11 v1 v1)).bind fun y12 =>
      cond y12.1 (
       ((f12 v4 v4)).bind fun y13 =>
       some (y13.1, ())) (
       some (false, ()))) (
      some (false, ()))) (
     some (false, ())))))
abbrev X4_6 : Type := ((List (Int × (Int × (Int × (Int × Int))))) × Int × Int × Unit) × (Unit) × ((List Int) × Unit)
abbrev X4_10 : Type := ((List (Int × (Int × (Int × (Int × Int))))) × Int × Int × Bool × Int × Unit) × (Unit) × ((List Int) × Unit)
abbrev Y4_10 : Type := ((List (Int × (Int × (Int × (Int × Int))))) × Int × Int × Bool × Unit) × (Unit) × ((List Int) × Unit)
abbrev Z4_10 : Type := Unit × Unit × Unit
noncomputable def t4_10 (v1 : (List (Int × (Int × (Int × (Int × Int)))))) (v2 : Int) (v3 : Int) (v4 : Bool) (v5 : Int) (v6 : (List Int)) : Option (R3 X4_10 Y4_10 Z4_10) :=
 cond (decide (v5 < ((v1.length : Nat) : Int))) (
  cond v4 (
   some (R3.next ((v1, (v2, (v3, (true, ((IntKind.wrap .i64 (v5 + 1)), ()))))), ((), (v6, ()))))) (
   cond ((decide (0 ≤ v5)) && (decide (v5 < ((v1.length : Nat) : Int)))) (
    cond ((decide (0 ≤ v3)) && (decide (v3 < ((v6.length : Nat) : Int)))) (
     cond (decide ((Int.toNat v3) < v6.length)) (
      some (R3.next ((v1, (v2, (v3, ((decide ((rd (.pair (.int .i64) (.pair (.int .i64) (.pair (.int .i64) (.pair (.int .i64) (.int .i64))))) v1 (Int.toNat v5)).2.1 = (rd (.int .i64) v6 (Int.toNat v3)))), ((IntKind.wrap .i64 (v5 + 1)), ()))))), ((), (v6, ()))))) (
      none)) (
     none)) (
    none))) (
  some (R3.out ((v1, (v2, (v3, (v4, ())))), ((), (v6, ())))))
noncomputable def u4_10 (z : X4_10) : Option (R3 X4_10 Y4_10 Z4_10) := t4_10 z.1.1 z.1.2.1 z.1.2.2.1 z.1.2.2.2.1 z.1.2.2.2.2.1 z.2.2.1
abbrev Y4_6 : Type := ((List (Int × (Int × (Int × (Int × Int))))) × Int × Unit) × (Unit) × ((List Int) × Unit)
abbrev Z4_6 : Type := (Bool × Unit) × (Unit) × (Unit)
noncomputable def t4_6 (v1 : (List (Int × (Int × (Int × (Int × Int)))))) (v2 : Int) (v3 : Int) (v4 : (List Int)) : Option (R3 X4_6 Y4_6 Z4_6) :=
 cond (decide (v3 < ((v4.length : Nat) : Int))) (
  ((iter big u4_10 ((v1, (v2, (v3, (false, (0, ()))))), ((), (v4, ()))))).bind fun r => match r with
  | .inl y5 =>
    cond (!y5.1.2.2.2.1) (
     some (R3.ret ((false, ()), ((), ())))) (
     cond (decide (0 < y5.1.2.2.1)) (
      cond ((decide (0 ≤ y5.1.2.2.1)) && (decide (y5.1.2.2.1 < ((y5.2.2.1.length : Nat) : Int)))) (
       cond (decide ((Int.toNat y5.1.2.2.1) < y5.2.2.1.length)) (
        cond ((decide (0 ≤ (IntKind.wrap .i64 (y5.1.2.2.1 - 1)))) && (decide ((IntKind.wrap .i64 (y5.1.2.2.1 - 1)) < ((y5.2.2.1.length : Nat) : Int)))) (
         cond (decide ((Int.toNat (IntKind.wrap .i64 (y5.1.2.2.1 - 1))) < y5.2.2.1.length)) (
          cond (decide ((rd (.int .i64) y5.2.2.1 (Int.toNat y5.1.2.2.1)) ≤ (rd (.int .i64) y5.2.2.1 (Int.toNat (IntKind.wrap .i64 (y5.1.2.2.1 - 1)))))) (
           some (R3.ret ((false, ()), ((), ())))) (
           some (R3.next ((y5.1.1, (y5.1.2.1, ((IntKind.wrap .i64 (y5.1.2.2.1 + 1)), ()))), ((), (y5.2.2.1, ())))))) (
          none)) (
         none)) (
        none)) (
       none)) (
      some (R3.next ((y5.1.1, (y5.1.2.1, ((IntKind.wrap .i64 (y5.1.2.2.1 + 1)), ()))), ((), (y5.2.2.1, ()))))))
  | .inr z6 =>
    none) (
  some (R3.out ((v1, (v2, ())), ((), (v4, ())))))
noncomputable def u4_6 (z : X4_6) : Option (R3 X4_6 Y4_6 Z4_6) := t4_6 z.1.1 z.1.2.1 z.1.2.2.1 z.2.2.1
abbrev X4_19 : Type := ((List (Int × (Int × (Int × (Int × Int))))) × Int × Bool × Int × Unit) × (Unit) × ((List Int) × Unit)
abbrev Y4_19 : Type := (Bool × Unit) × (Unit) × (Unit)
abbrev Z4_19 : Type := Unit × Unit × Unit
noncomputable def t4_19 (v1 : (List (Int × (Int × (Int × (Int × Int)))))) (v2 : Int) (v3 : Bool) (v4 : Int) (v5 : (List Int)) : Option (R3 X4_19 Y4_19 Z4_19) :=
 cond (decide (v4 < ((v5.length : Nat) : Int))) (
  cond v3 (
   some (R3.next ((v1, (v2, (true, ((IntKind.wrap .i64 (v4 + 1)), ())))), ((), (v5, ()))))) (
   cond ((decide (0 ≤ v4)) && (decide (v4 < ((v5.length : Nat) : Int)))) (
    cond (decide ((Int.toNat v4) < v5.length)) (
     cond ((decide (0 ≤ v2)) && (decide (v2 < ((v1.length : Nat) : Int)))) (
      some (R3.next ((v1, (v2, ((decide ((rd (.int .i64) v5 (Int.toNat v4)) = (rd (.pair (.int .i64) (.pair (.int .i64) (.pair (.int .i64) (.pair (.int .i64) (.int .i64))))) v1 (Int.toNat v2)).2.1)), ((IntKind.wrap .i64 (v4 + 1)), ())))), ((), (v5, ()))))) (
      none)) (
     none)) (
    none))) (
  some (R3.out ((v3, ()), ((), ()))))
noncomputable def u4_19 (z : X4_19) : Option (R3 X4_19 Y4_19 Z4_19) := t4_19 z.1.1 z.1.2.1 z.1.2.2.1 z.1.2.2.2.1 z.2.2.1
noncomputable def f4 (v1 : (List (Int × (Int × (Int × (Int × Int)))))) (v2 : Int) : Option (Bool × Unit) :=
 (f7).bind fun y3 =>
 cond (!y3.1) (
  some (y3.1, ())) (
  cond (decide (40 < ((v1.length : Nat) : Int))) (
   some (y3.1, ())) (
   ((f13 v1)).bind fun y4 =>
   ((iter big u4_6 ((v1, (v2, (0, ()))), ((), (y4.1, ()))))).bind fun r => match r with
   | .inl y5 =>
     cond (decide (y5.1.2.1 < 0)) (
      some (true, ())) (
      cond (decide (((y5.1.1.length : Nat) : Int) ≤ y5.1.2.1)) (
       some (true, ())) (
       ((iter big u4_19 ((y5.1.1, (y5.1.2.1, (false, (0, ())))), ((), (y5.2.2.1, ()))))).bind fun r => match r with
       | .inl y7 =>
         some (y7.1.1, ())
       | .inr z8 =>
         none))
   | .inr z6 =>
     some (z6.1.1, ())))
noncomputable def f5 (v1 : (List (Int × (Int × (Int × (Int × Int)))))) (v2 : Int) (v3 : Int) (v4 : Int) (v5 : Int) (v6 : Int) (v7 : Int) (v8 : Int) (v9 : Int) (v10 : Int) (v11 : Int) : Option (Bool × Unit) :=
 (f7).bind fun y12 =>
 ((f14 v1)).bind fun y13 =>
 cond (!y12.1) (
  some (y12.1, ())) (
  cond (!y13.1) (
   some (y12.1, ())) (
   cond (decide (30 < ((v1.length : Nat) : Int))) (
    some (y12.1, ())) (
    cond (decide (v3 = v8)) (
     cond (decide (v4 = v9)) (
      some (y12.1, ())) (
      ((f15 v1 v2 v3 v4 v5 v6)).bind fun y14 =>
      ((f15 y14.1 v7 v8 v9 v10 v11)).bind fun y15 =>
      ((f15 v1 v7 v8 v9 v10 v11)).bind fun y16 =>
      ((f15 y16.1 v2 v3 v4 v5 v6)).bind fun y17 =>
      ((f17 y15.1 v2)).bind fun y18 =>
      ((f17 y17.1 v2)).bind fun y19 =>
      ((f16 y18.1 y19.1)).bind fun y20 =>
      cond (y14.2.1 == y17.2.1) (
       cond (y15.2.1 == y16.2.1) (
        ((f11 y15.1 y17.1)).bind fun y21 =>
        cond y21.1 (
         some (y20.1, ())) (
         some (false, ()))) (
        some (false, ()))) (
       some (false, ())))) (
     ((f15 v1 v2 v3 v4 v5 v6)).bind fun y22 =>
     ((f15 y22.1 v7 v8 v9 v10 v11)).bind fun y23 =>
     ((f15 v1 v7 v8 v9 v10 v11)).bind fun y24 =>
     ((f15 y24.1 v2 v3 v4 v5 v6)).bind fun y25 =>
     ((f17 y23.1 v2)).bind fun y26 =>
     ((f17 y25.1 v2)).bind fun y27 =>
     ((f16 y26.1 y27.1)).bind fun y28 =>
     cond (y22.2.1 == y25.2.1) (
      cond (y23.2.1 == y24.2.1) (
       ((f11 y23.1 y25.1)).bind fun y29 =>
       cond y29.1 (
        some (y28.1, ())) (
        some (false, ()))) (
       some (false, ()))) (
      some (false, ()))))))
noncomputable def f6 (v1 : (List (Int × (Int × (Int × (Int × Int)))))) (v2 : Int) (v3 : Int) (v4 : Int) (v5 : Int) (v6 : Int) : Option (Bool × Unit) :=
 (f7).bind fun y7 =>
 ((f14 v1)).bind fun y8 =>
 cond (!y7.1) (
  some (y7.1, ())) (
  cond (!y8.1) (
   some (y7.1, ())) (
   cond (decide (40 < ((v1.length : Nat) : Int))) (
    some (y7.1, ())) (
    ((f15 v1 v2 v3 v4 v5 v6)).bind fun y9 =>
    ((f18 v1 v3 v4)).bind fun y10 =>
    ((f14 y9.1)).bind fun y11 =>
    ((f14 y10.1)).bind fun y12 =>
    cond (!y11.1) (
     some (false, ())) (
     cond (!y12.1) (
      some (false, ())) (
      cond (!y9.2.1) (
       ((f11 y9.1 v1)).bind fun y13 =>
       cond (!y13.1) (
        some (false, ())) (
        cond (!y10.2.1) (
         ((f11 y10.1 v1)).bind fun y14 =>
         cond (!y14.1) (
          some (false, ())) (
          ((f19 v1 v3 v4)).bind fun y15 =>
          cond (decide (y15.1 = (-1))) (
           cond (!(y9.2.1 == (decide (((v1.length : Nat) : Int) < 32)))) (
            some (false, ())) (
            cond (!y9.2.1) (
             some (true, ())) (
             ((f19 y9.1 v3 v4)).bind fun y16 =>
             ((f18 y9.1 v3 v4)).bind fun y17 =>
             cond (decide (0 ≤ y16.1)) (
              cond (decide (y16.1 < ((y9.1.length : Nat) : Int))) (
               cond ((decide (0 ≤ y16.1)) && (decide (y16.1 < ((y9.1.length : Nat) : Int)))) (
                cond (decide ((Int.toNat y16.1) < y9.1.length)) (
                 cond ((decide ((rd (.pair (.int .i64) (.pair (.int .i64) (.pair (.int .i64) (.pair (.int .i64) (.int .i64))))) y9.1 (Int.toNat y16.1)).1 = v2)) && ((decide ((rd (.pair (.int .i64) (.pair (.int .i64) (.pair (.int .i64) (.pair (.int .i64) (.int .i64))))) y9.1 (Int.toNat y16.1)).2.1 = v3)) && ((decide ((rd (.pair (.int .i64) (.pair (.int .i64) (.pair (.int .i64) (.pair (.int .i64) (.int .i64))))) y9.1 (Int.toNat y16.1)).2.2.1 = v4)) && ((decide ((rd (.pair (.int .i64) (.pair (.int .i64) (.pair (.int .i64) (.pair (.int .i64) (.int .i64))))) y9.1 (Int.toNat y16.1)).2.2.2.1 = v5)) && ((decide ((rd (.pair (.int .i64) (.pair (.int .i64) (.pair (.int .i64) (.pair (.int .i64) (.int .i64))))) y9.1 (Int.toNat y16.1)).2.2.2.2 = v6)) && true))))) (
                  cond y17.2.1 (
                   ((f11 y17.1 v1)).bind fun y18 =>
                   some (y18.1, ())) (
                   some (false, ()))) (
                  some (false, ()))) (
                 none)) (
                none)) (
               some (false, ()))) (
              some (false, ()))))) (
           cond (!(y9.2.1 == false)) (
            some (false, ())) (
            cond (!y9.2.1) (
             some (true, ())) (
             ((f19 y9.1 v3 v4)).bind fun y19 =>
             ((f18 y9.1 v3 v4)).bind fun y20 =>
             cond (decide (0 ≤ y19.1)) (
              cond (decide (y19.1 < ((y9.1.length : Nat) : Int))) (
               cond ((decide (0 ≤ y19.1)) && (decide (y19.1 < ((y9.1.length : Nat) : Int)))) (
                cond (decide ((Int.toNat y19.1) < y9.1.length)) (
                 cond ((decide ((rd (.pair (.int .i64) (.pair (.int .i64) (.pair (.int .i64) (.pair (.int .i64) (.int .i64))))) y9.1 (Int.toNat y19.1)).1 = v2)) && ((decide ((rd (.pair (.int .i64) (.pair (.int .i64) (.pair (.int .i64) (.pair (.int .i64) (.int .i64))))) y9.1 (Int.toNat y19.1)).2.1 = v3)) && ((decide ((rd (.pair (.int .i64) (.pair (.int .i64) (.pair (.int .i64) (.pair (.int .i64) (.int .i64))))) y9.1 (Int.toNat y19.1)).2.2.1 = v4)) && ((decide ((rd (.pair (.int .i64) (.pair (.int .i64) (.pair (.int .i64) (.pair (.int .i64) (.int .i64))))) y9.1 (Int.toNat y19.1)).2.2.2.1 = v5)) && ((decide ((rd (.pair (.int .i64) (.pair (.int .i64) (.pair (.int .i64) (.pair (.int .i64) (.int .i64))))) y9.1 (Int.toNat y19.1)).2.2.2.2 = v6)) && true))))) (
                  cond y20.2.1 (
                   ((f11 y20.1 v1)).bind fun y21 =>
                   some (y21.1, ())) (
                   some (false, ()))) (
                  some (false, ()))) (
                 none)) (
                none)) (
               some (false, ()))) (
              some (false, ()))))))) (
         ((f19 v1 v3 v4)).bind fun y22 =>
         cond (decide (y22.1 = (-1))) (
          cond (!(y9.2.1 == (decide (((v1.length : Nat) : Int) < 32)))) (
           some (false, ())) (
           cond (!y9.2.1) (
            some (true, ())) (
            ((f19 y9.1 v3 v4)).bind fun y23 =>
            ((f18 y9.1 v3 v4)).bind fun y24 =>
            cond (decide (0 ≤ y23.1)) (
             cond (decide (y23.1 < ((y9.1.length : Nat) : Int))) (
              cond ((decide (0 ≤ y23.1)) && (decide (y23.1 < ((y9.1.length : Nat) : Int)))) (
               cond (decide ((Int.toNat y23.1) < y9.1.length)) (
                cond ((decide ((rd (.pair (.int .i64) (.pair (.int .i64) (.pair (.int .i64) (.pair (.int .i64) (.int .i64))))) y9.1 (Int.toNat y23.1)).1 = v2)) && ((decide ((rd (.pair (.int .i64) (.pair (.int .i64) (.pair (.int .i64) (.pair (.int .i64) (.int .i64))))) y9.1 (Int.toNat y23.1)).2.1 = v3)) && ((decide ((rd (.pair (.int .i64) (.pair (.int .i64) (.pair (.int .i64) (.pair (.int .i64) (.int .i64))))) y9.1 (Int.toNat y23.1)).2.2.1 = v4)) && ((decide ((rd (.pair (.int .i64) (.pair (.int .i64) (.pair (.int .i64) (.pair (.int .i64) (.int .i64))))) y9.1 (Int.toNat y23.1)).2.2.2.1 = v5)) && ((decide ((rd (.pair (.int .i64) (.pair (.int .i64) (.pair (.int .i64) (.pair (.int .i64) (.int .i64))))) y9.1 (Int.toNat y23.1)).2.2.2.2 = v6)) && true))))) (
                 cond y24.2.1 (
                  ((f11 y24.1 v1)).bind fun y25 =>
                  some (y25.1, ())) (
                  some (false, ()))) (
                 some (false, ()))) (
                none)) (
               none)) (
              some (false, ()))) (
             some (false, ()))))) (
          cond (!(y9.2.1 == false)) (
           some (false, ())) (
           cond (!y9.2.1) (
            some (true, ())) (
            ((f19 y9.1 v3 v4)).bind fun y26 =>
            ((f18 y9.1 v3 v4)).bind fun y27 =>
            cond (decide (0 ≤ y26.1)) (
             cond (decide (y26.1 < ((y9.1.length : Nat) : Int))) (
              cond ((decide (0 ≤ y26.1)) && (decide (y26.1 < ((y9.1.length : Nat) : Int)))) (
               cond (decide ((Int.toNat y26.1) < y9.1.length)) (
                cond ((decide ((rd (.pair (.int .i64) (.pair (.int .i64) (.pair (.int .i64) (.pair (.int .i64) (.int .i64))))) y9.1 (Int.toNat y26.1)).1 = v2)) && ((decide ((rd (.pair (.int .i64) (.pair (.int .i64) (.pair (.int .i64) (.pair (.int .i64) (.int .i64))))) y9.1 (Int.toNat y26.1)).2.1 = v3)) && ((decide ((rd (.pair (.int .i64) (.pair (.int .i64) (.pair (.int .i64) (.pair (.int .i64) (.int .i64))))) y9.1 (Int.toNat y26.1)).2.2.1 = v4)) && ((decide ((rd (.pair (.int .i64) (.pair (.int .i64) (.pair (.int .i64) (.pair (.int .i64) (.int .i64))))) y9.1 (Int.toNat y26.1)).2.2.2.1 = v5)) && ((decide ((rd (.pair (.int .i64) (.pair (.int .i64) (.pair (.int .i64) (.pair (.int .i64) (.int .i64))))) y9.1 (Int.toNat y26.1)).2.2.2.2 = v6)) && true))))) (
                 cond y27.2.1 (
                  ((f11 y27.1 v1)).bind fun y28 =>
                  some (y28.1, ())) (
                  some (false, ()))) (
                 some (false, ()))) (
                none)) (
               none)) (
              some (false, ()))) (
             some (false, ())))))))) (
       cond (!y10.2.1) (
        ((f11 y10.1 v1)).bind fun y29 =>
        cond (!y29.1) (
         some (false, ())) (
         ((f19 v1 v3 v4)).bind fun y30 =>
         cond (decide (y30.1 = (-1))) (
          cond (!(y9.2.1 == (decide (((v1.length : Nat) : Int) < 32)))) (
           some (false, ())) (
           cond (!y9.2.1) (
            some (true, ())) (
            ((f19 y9.1 v3 v4)).bind fun y31 =>
            ((f18 y9.1 v3 v4)).bind fun y32 =>
            cond (decide (0 ≤ y31.1)) (
             cond (decide (y31.1 < ((y9.1.length : Nat) : Int))) (
              cond ((decide (0 ≤ y31.1)) && (decide (y31.1 < ((y9.1.length : Nat) : Int)))) (
               cond (decide ((Int.toNat y31.1) < y9.1.length)) (
                cond ((decide ((rd (.pair (.int .i64) (.pair (.int .i64) (.pair (.int .i64) (.pair (.int .i64) (.int .i64))))) y9.1 (Int.toNat y31.1)).1 = v2)) && ((decide ((rd (.pair (.int .i64) (.pair (.int .i64) (.pair (.int .i64) (.pair (.int .i64) (.int .i64))))) y9.1 (Int.toNat y31.1)).2.1 = v3)) && ((decide ((rd (.pair (.int .i64) (.pair (.int .i64) (.pair (.int .i64) (.pair (.int .i64) (.int .i64))))) y9.1 (Int.toNat y31.1)).2.2.1 = v4)) && ((decide ((rd (.pair (.int .i64) (.pair (.int .i64) (.pair (.int .i64) (.pair (.int .i64) (.int .i64))))) y9.1 (Int.toNat y31.1)).2.2.2.1 = v5)) && ((decide ((rd (.pair (.int .i64) (.pair (.int .i64) (.pair (.int .i64) (.pair (.int .i64) (.int .i64))))) y9.1 (Int.toNat y31.1)).2.2.2.2 = v6)) && true))))) (
                 cond y32.2.1 (
                  ((f11 y32.1 v1)).bind fun y33 =>
                  some (y33.1, ())) (
                  some (false, ()))) (
                 some (false, ()))) (
                none)) (
               none)) (
              some (false, ()))) (
             some (false, ()))))) (
          cond (!(y9.2.1 == false)) (
           some (false, ())) (
           cond (!y9.2.1) (
            some (true, ())) (
            ((f19 y9.1 v3 v4)).bind fun y34 =>
            ((f18 y9.1 v3 v4)).bind fun y35 =>
            cond (decide (0 ≤ y34.1)) (
             cond (decide (y34.1 < ((y9.1.length : Nat) : Int))) (
              cond ((decide (0 ≤ y34.1)) && (decide (y34.1 < ((y9.1.length : Nat) : Int)))) (
               cond (decide ((Int.toNat y34.1) < y9.1.length)) (
                cond ((decide ((rd (.pair (.int .i64) (.pair (.int .i64) (.pair (.int .i64) (.pair (.int .i64) (.int .i64))))) y9.1 (Int.toNat y34.1)).1 = v2)) && ((decide ((rd (.pair (.int .i64) (.pair (.int .i64) (.pair (.int .i64) (.pair (.int .i64) (.int .i64))))) y9.1 (Int.toNat y34.1)).2.1 = v3)) && ((decide ((rd (.pair (.int .i64) (.pair (.int .i64) (.pair (.int .i64) (.pair (.int .i64) (.int .i64))))) y9.1 (Int.toNat y34.1)).2.2.1 = v4)) && ((decide ((rd (.pair (.int .i64) (.pair (.int .i64) (.pair (.int .i64) (.pair (.int .i64) (.int .i64))))) y9.1 (Int.toNat y34.1)).2.2.2.1 = v5)) && ((decide ((rd (.pair (.int .i64) (.pair (.int .i64) (.pair (.int .i64) (.pair (.int .i64) (.int .i64))))) y9.1 (Int.toNat y34.1)).2.2.2.2 = v6)) && true))))) (
                 cond y35.2.1 (
                  ((f11 y35.1 v1)).bind fun y36 =>
                  some (y36.1, ())) (
                  some (false, ()))) (
                 some (false, ()))) (
                none)) (
               none)) (
              some (false, ()))) (
             some (false, ()))))))) (
        ((f19 v1 v3 v4)).bind fun y37 =>
        cond (decide (y37.1 = (-1))) (
         cond (!(y9.2.1 == (decide (((v1.length : Nat) : Int) < 32)))) (
          some (false, ())) (
          cond (!y9.2.1) (
           some (true, ())) (
           ((f19 y9.1 v3 v4)).bind fun y38 =>
           ((f18 y9.1 v3 v4)).bind fun y39 =>
           cond (decide (0 ≤ y38.1)) (
            cond (decide (y38.1 < ((y9.1.length : Nat) : Int))) (
             cond ((decide (0 ≤ y38.1)) && (decide (y38.1 < ((y9.1.length : Nat) : Int)))) (
              cond (decide ((Int.toNat y38.1) < y9.1.length)) (
               cond ((decide ((rd (.pair (.int .i64) (.pair (.int .i64) (.pair (.int .i64) (.pair (.int .i64) (.int .i64))))) y9.1 (Int.toNat y38.1)).1 = v2)) && ((decide ((rd (.pair (.int .i64) (.pair (.int .i64) (.pair (.int .i64) (.pair (.int .i64) (.int .i64))))) y9.1 (Int.toNat y38.1)).2.1 = v3)) && ((decide ((rd (.pair (.int .i64) (.pair (.int .i64) (.pair (.int .i64) (.pair (.int .i64) (.int .i64))))) y9.1 (Int.toNat y38.1)).2.2.1 = v4)) && ((decide ((rd (.pair (.int .i64) (.pair (.int .i64) (.pair (.int .i64) (.pair (.int .i64) (.int .i64))))) y9.1 (Int.toNat y38.1)).2.2.2.1 = v5)) && ((decide ((rd (.pair (.int .i64) (.pair (.int .i64) (.pair (.int .i64) (.pair (.int .i64) (.int .i64))))) y9.1 (Int.toNat y38.1)).2.2.2.2 = v6)) && true))))) (
                cond y39.2.1 (
                 ((f11 y39.1 v1)).bind fun y40 =>
                 some (y40.1, ())) (
                 some (false, ()))) (
                some (false, ()))) (
               none)) (
              none)) (
             some (false, ()))) (
            some (false, ()))))) (
         cond (!(y9.2.1 == false)) (
          some (false, ())) (
          cond (!y9.2.1) (
           some (true, ())) (
           ((f19 y9.1 v3 v4)).bind fun y41 =>
           ((f18 y9.1 v3 v4)).bind fun y42 =>
           cond (decide (0 ≤ y41.1)) (
            cond (decide (y41.1 < ((y9.1.length : Nat) : Int))) (
             cond ((decide (0 ≤ y41.1)) && (decide (y41.1 < ((y9.1.length : Nat) : Int)))) (
              cond (decide ((Int.toNat y41.1) < y9.1.length)) (
               cond ((decide ((rd (.pair (.int .i64) (.pair (.int .i64) (.pair (.int .i64) (.pair (.int .i64) (.int .i64))))) y9.1 (Int.toNat y41.1)).1 = v2)) && ((decide ((rd (.pair (.int .i64) (.pair (.int .i64) (.pair (.int .i64) (.pair (.int .i64) (.int .i64))))) y9.1 (Int.toNat y41.1)).2.1 = v3)) && ((decide ((rd (.pair (.int .i64) (.pair (.int .i64) (.pair (.int .i64) (.pair (.int .i64) (.int .i64))))) y9.1 (Int.toNat y41.1)).2.2.1 = v4)) && ((decide ((rd (.pair (.int .i64) (.pair (.int .i64) (.pair (.int .i64) (.pair (.int .i64) (.int .i64))))) y9.1 (Int.toNat y41.1)).2.2.2.1 = v5)) && ((decide ((rd (.pair (.int .i64) (.pair (.int .i64) (.pair (.int .i64) (.pair (.int .i64) (.int .i64))))) y9.1 (Int.toNat y41.1)).2.2.2.2 = v6)) && true))))) (
                cond y42.2.1 (
                 ((f11 y42.1 v1)).bind fun y43 =>
                 some (y43.1, ())) (
                 some (false, ()))) (
                some (false, ()))) (
               none)) (
              none)) (
             some (false, ()))) (
            some (false, ()))))))))))))
end Go.Proofs.Zz
