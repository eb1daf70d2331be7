/- What the functions come to, told of data. -/
import Derived.Test.YtimnecbhjgllmaaDoorLibD
namespace Go.Proofs.Zz
open Go Go.Sy
set_option linter.unusedVariables false
noncomputable def f5 (v1 : (List (Int × (Int × (Int × (Int × Int)))))) (v2 : (List (Int × (Int × Int)))) : Option (Bool × Unit) :=
 cond (decide (((v1.length : Nat) : Int) ≤ 40)) (
  some ((decide (((v2.length : Nat) : Int) ≤ 40)), ())) (
  some (false, ()))
abbrev X39_4 : Type := ((List (Int × (Int × (Int × (Int × Int))))) × (List (Int × (Int × (Int × (Int × Int))))) × Int × Int × Unit) × (Unit) × (Unit)
abbrev Y39_4 : Type := (Unit) × (Unit) × (Unit)
abbrev Z39_4 : Type := (Bool × Unit) × (Unit) × (Unit)
noncomputable def t39_4 (v1 : (List (Int × (Int × (Int × (Int × Int)))))) (v2 : (List (Int × (Int × (Int × (Int × Int)))))) (v3 : Int) (v4 : Int) : Option (R3 X39_4 Y39_4 Z39_4) :=
 cond (decide (v4 < v3)) (
  cond ((decide (0 ≤ v4)) && (decide (v4 < ((v1.length : Nat) : Int)))) (
   cond ((decide (0 ≤ v4)) && (decide (v4 < ((v2.length : Nat) : Int)))) (
    cond (!((decide ((rd (.pair (.int .i64) (.pair (.int .i64) (.pair (.int .i64) (.pair (.int .i64) (.int .i64))))) v1 (Int.toNat v4)).1 = (rd (.pair (.int .i64) (.pair (.int .i64) (.pair (.int .i64) (.pair (.int .i64) (.int .i64))))) v2 (Int.toNat v4)).1)) && ((decide ((rd (.pair (.int .i64) (.pair (.int .i64) (.pair (.int .i64) (.pair (.int .i64) (.int .i64))))) v1 (Int.toNat v4)).2.1 = (rd (.pair (.int .i64) (.pair (.int .i64) (.pair (.int .i64) (.pair (.int .i64) (.int .i64))))) v2 (Int.toNat v4)).2.1)) && ((decide ((rd (.pair (.int .i64) (.pair (.int .i64) (.pair (.int .i64) (.pair (.int .i64) (.int .i64))))) v1 (Int.toNat v4)).2.2.1 = (rd (.pair (.int .i64) (.pair (.int .i64) (.pair (.int .i64) (.pair (.int .i64) (.int .i64))))) v2 (Int.toNat v4)).2.2.1)) && ((decide ((rd (.pair (.int .i64) (.pair (.int .i64) (.pair (.int .i64) (.pair (.int .i64) (.int .i64))))) v1 (Int.toNat v4)).2.2.2.1 = (rd (.pair (.int .i64) (.pair (.int .i64) (.pair (.int .i64) (.pair (.int .i64) (.int .i64))))) v2 (Int.toNat v4)).2.2.2.1)) && ((decide ((rd (.pair (.int .i64) (.pair (.int .i64) (.pair (.int .i64) (.pair (.int .i64) (.int .i64))))) v1 (Int.toNat v4)).2.2.2.2 = (rd (.pair (.int .i64) (.pair (.int .i64) (.pair (.int .i64) (.pair (.int .i64) (.int .i64))))) v2 (Int.toNat v4)).2.2.2.2)) && true)))))) (
     some (R3.ret ((false, ()), ((), ())))) (
     some (R3.next ((v1, (v2, (v3, ((IntKind.wrap .i64 (v4 + 1)), ())))), ((), ()))))) (
    none)) (
   none)) (
  some (R3.out ((), ((), ()))))
noncomputable def u39_4 (z : X39_4) : Option (R3 X39_4 Y39_4 Z39_4) := t39_4 z.1.1 z.1.2.1 z.1.2.2.1 z.1.2.2.2.1
noncomputable def f39 (v1 : (List (Int × (Int × (Int × (Int × Int)))))) (v2 : (List (Int × (Int × (Int × (Int × Int)))))) : Option (Bool × Unit) :=
 cond (!(decide (((v1.length : Nat) : Int) = ((v2.length : Nat) : Int)))) (
  some (false, ())) (
  ((iter big u39_4 ((v1, (v2, (((v1.length : Nat) : Int), (0, ())))), ((), ())))).bind fun r => match r with
  | .inl y3 =>
    some (true, ())
  | .inr z4 =>
    some (z4.1.1, ()))
abbrev X40_4 : Type := ((List (Int × (Int × Int))) × (List (Int × (Int × Int))) × Int × Int × Unit) × (Unit) × (Unit)
abbrev Y40_4 : Type := (Unit) × (Unit) × (Unit)
abbrev Z40_4 : Type := (Bool × Unit) × (Unit) × (Unit)
noncomputable def t40_4 (v1 : (List (Int × (Int × Int)))) (v2 : (List (Int × (Int × Int)))) (v3 : Int) (v4 : Int) : Option (R3 X40_4 Y40_4 Z40_4) :=
 cond (decide (v4 < v3)) (
  cond ((decide (0 ≤ v4)) && (decide (v4 < ((v1.length : Nat) : Int)))) (
   cond ((decide (0 ≤ v4)) && (decide (v4 < ((v2.length : Nat) : Int)))) (
    cond (!((decide ((rd (.pair (.int .i64) (.pair (.int .i64) (.int .i64))) v1 (Int.toNat v4)).1 = (rd (.pair (.int .i64) (.pair (.int .i64) (.int .i64))) v2 (Int.toNat v4)).1)) && ((decide ((rd (.pair (.int .i64) (.pair (.int .i64) (.int .i64))) v1 (Int.toNat v4)).2.1 = (rd (.pair (.int .i64) (.pair (.int .i64) (.int .i64))) v2 (Int.toNat v4)).2.1)) && ((decide ((rd (.pair (.int .i64) (.pair (.int .i64) (.int .i64))) v1 (Int.toNat v4)).2.2 = (rd (.pair (.int .i64) (.pair (.int .i64) (.int .i64))) v2 (Int.toNat v4)).2.2)) && true)))) (
     some (R3.ret ((false, ()), ((), ())))) (
     some (R3.next ((v1, (v2, (v3, ((IntKind.wrap .i64 (v4 + 1)), ())))), ((), ()))))) (
    none)) (
   none)) (
  some (R3.out ((), ((), ()))))
noncomputable def u40_4 (z : X40_4) : Option (R3 X40_4 Y40_4 Z40_4) := t40_4 z.1.1 z.1.2.1 z.1.2.2.1 z.1.2.2.2.1
noncomputable def f40 (v1 : (List (Int × (Int × Int)))) (v2 : (List (Int × (Int × Int)))) : Option (Bool × Unit) :=
 cond (!(decide (((v1.length : Nat) : Int) = ((v2.length : Nat) : Int)))) (
  some (false, ())) (
  ((iter big u40_4 ((v1, (v2, (((v1.length : Nat) : Int), (0, ())))), ((), ())))).bind fun r => match r with
  | .inl y3 =>
    some (true, ())
  | .inr z4 =>
    some (z4.1.1, ()))
noncomputable def f16 (v1 : (List (Int × (Int × (Int × (Int × Int)))))) (v2 : (List (Int × (Int × (Int × (Int × Int)))))) : Option (Bool × Unit) :=
 ((f39 v1 v2)).bind fun y3 =>
 some (y3.1, ())
noncomputable def f17 (v1 : (List (Int × (Int × Int)))) (v2 : (List (Int × (Int × Int)))) : Option (Bool × Unit) :=
 ((f40 v1 v2)).bind fun y3 =>
 some (y3.1, ())
abbrev X13_3 : Type := (Int × (List (Int × (Int × (Int × (Int × Int))))) × Int × Int × Unit) × (Unit) × ((List Int) × Unit)
abbrev Y13_3 : Type := (Unit) × (Unit) × ((List Int) × Unit)
abbrev Z13_3 : Type := Unit × Unit × Unit
noncomputable def t13_3 (v1 : Int) (v2 : (List (Int × (Int × (Int × (Int × Int)))))) (v3 : Int) (v4 : Int) (v5 : (List Int)) : Option (R3 X13_3 Y13_3 Z13_3) :=
 cond (decide (v4 < v3)) (
  cond ((decide (0 ≤ v4)) && (decide (v4 < ((v2.length : Nat) : Int)))) (
   cond (decide ((rd (.pair (.int .i64) (.pair (.int .i64) (.pair (.int .i64) (.pair (.int .i64) (.int .i64))))) v2 (Int.toNat v4)).1 = v1)) (
    cond ((decide (((v5.length + 1) * 8) ≤ 140737488355328)) && (decide ((v5.length + 1) ≤ 9223372036854775807))) (
     some (R3.next ((v1, (v2, (v3, ((IntKind.wrap .i64 (v4 + 1)), ())))), ((), ((v5 ++ [v4]), ()))))) (
     none)) (
    some (R3.next ((v1, (v2, (v3, ((IntKind.wrap .i64 (v4 + 1)), ())))), ((), (v5, ())))))) (
   none)) (
  some (R3.out ((), ((), (v5, ())))))
noncomputable def u13_3 (z : X13_3) : Option (R3 X13_3 Y13_3 Z13_3) := t13_3 z.1.1 z.1.2.1 z.1.2.2.1 z.1.2.2.2.1 z.2.2.1
noncomputable def f13 (v1 : (List (Int × (Int × (Int × (Int × Int)))))) (v2 : Int) : Option ((List Int) × Unit) :=
 ((iter big u13_3 ((v2, (v1, (((v1.length : Nat) : Int), (0, ())))), ((), ([], ()))))).bind fun r => match r with
 | .inl y3 =>
   some (y3.2.2.1, ())
 | .inr z4 =>
   none
abbrev X72_3 : Type := (Int × (List Int) × Int × Int × Unit) × (Unit) × (Unit)
abbrev Y72_3 : Type := (Int × Unit) × (Unit) × (Unit)
abbrev Z72_3 : Type := (Int × Unit) × (Unit) × (Unit)
noncomputable def t72_3 (v1 : Int) (v2 : (List Int)) (v3 : Int) (v4 : Int) : Option (R3 X72_3 Y72_3 Z72_3) :=
 cond (decide (v4 < v3)) (
  cond ((decide (0 ≤ v4)) && (decide (v4 < ((v2.length : Nat) : Int)))) (
   cond (!(decide ((rd (.int .i64) v2 (Int.toNat v4)) = v1))) (
    some (R3.ret (((rd (.int .i64) v2 (Int.toNat v4)), ()), ((), ())))) (
    some (R3.next ((v1, (v2, (v3, ((IntKind.wrap .i64 (v4 + 1)), ())))), ((), ()))))) (
   none)) (
  some (R3.out ((v1, ()), ((), ()))))
noncomputable def u72_3 (z : X72_3) : Option (R3 X72_3 Y72_3 Z72_3) := t72_3 z.1.1 z.1.2.1 z.1.2.2.1 z.1.2.2.2.1
noncomputable def f72 (v1 : (List Int)) : Option (Int × Unit) :=
 ((iter big u72_3 ((0, (v1, (((v1.length : Nat) : Int), (0, ())))), ((), ())))).bind fun r => match r with
 | .inl y2 =>
   some (y2.1.1, ())
 | .inr z3 =>
   some (z3.1.1, ())
noncomputable def f73 (v1 : Int) (v2 : Int) : Option (Int × Unit) :=
 cond (!(decide (v1 = v1))) (
  cond (!(decide (v2 = v2))) (
   some (0, ())) (
   some ((-1), ()))) (
  cond (!(decide (v2 = v2))) (
   some (1, ())) (
   cond (decide (v1 < v2)) (
    some ((-1), ())) (
    cond (decide (v2 < v1)) (
     some (1, ())) (
     some (0, ())))))
noncomputable def f50 (v1 : Int) (v2 : Int) (v3 : Int) (v4 : Int) : Option (Int × Unit) :=
 ((f73 v1 v3)).bind fun y5 =>
 ((f73 v2 v4)).bind fun y6 =>
 ((f72 [y5.1, y6.1])).bind fun y7 =>
 some (y7.1, ())
noncomputable def f20 (v1 : Int) (v2 : Int) (v3 : Int) (v4 : Int) (v5 : Int) : Option (((Int × Int) × (Int × (Int × (Int × (Int × Int))))) × Unit) :=
 some (((v2, v3), (v1, (v2, (v3, (v4, v5))))), ())
noncomputable def f21 (v1 : Int) (v2 : Int) (v3 : Int) : Option (((Int × Int) × (Int × (Int × Int))) × Unit) :=
 some (((v1, v2), (v1, (v2, v3))), ())
noncomputable def f24 (v1 : Int) (v2 : Int) (v3 : Int) (v4 : Int) (v5 : Int) : Option ((Int × Int) × Unit) :=
 ((f20 v1 v2 v3 v4 v5)).bind fun y6 =>
 some ((y6.1.1.1, y6.1.1.2), ())
noncomputable def f33 (v1 : Int) (v2 : Int) (v3 : Int) : Option ((Int × Int) × Unit) :=
 ((f21 v1 v2 v3)).bind fun y4 =>
 some ((y4.1.1.1, y4.1.1.2), ())
abbrev X23_43_2_0 : Type := ((List (Int × (Int × (Int × (Int × Int))))) × Unit × Int × Int × Unit) × ((Int × Int × Unit) × (Unit × Unit) × Unit) × (Unit)
abbrev Y23_43_2_0 : Type := (Unit) × ((Int × Int × Unit) × (Unit × Unit) × Unit) × (Unit)
abbrev Z23_43_2_0 : Type := (Int × Unit) × ((Int × Int × Unit) × (Unit × Unit) × Unit) × (Unit)
noncomputable def t23_43_2_0 (v1 : (List (Int × (Int × (Int × (Int × Int)))))) (v2 : Int) (v3 : Int) (v4 : Int) (v5 : Int) : Option (R3 X23_43_2_0 Y23_43_2_0 Z23_43_2_0) :=
 cond (decide (v3 < v2)) (
  cond ((decide (0 ≤ v3)) && (decide (v3 < ((v1.length : Nat) : Int)))) (
   ((f24 (rd (.pair (.int .i64) (.pair (.int .i64) (.pair (.int .i64) (.pair (.int .i64) (.int .i64))))) v1 (Int.toNat v3)).1 (rd (.pair (.int .i64) (.pair (.int .i64) (.pair (.int .i64) (.pair (.int .i64) (.int .i64))))) v1 (Int.toNat v3)).2.1 (rd (.pair (.int .i64) (.pair (.int .i64) (.pair (.int .i64) (.pair (.int .i64) (.int .i64))))) v1 (Int.toNat v3)).2.2.1 (rd (.pair (.int .i64) (.pair (.int .i64) (.pair (.int .i64) (.pair (.int .i64) (.int .i64))))) v1 (Int.toNat v3)).2.2.2.1 (rd (.pair (.int .i64) (.pair (.int .i64) (.pair (.int .i64) (.pair (.int .i64) (.int .i64))))) v1 (Int.toNat v3)).2.2.2.2)).bind fun y6 =>
   cond ((decide (y6.1.1 = v4)) && ((decide (y6.1.2 = v5)) && true)) (
    some (R3.ret ((v3, ()), (((v4, (v5, ())), (((), ()), ())), ())))) (
    some (R3.next ((v1, ((), (v2, ((IntKind.wrap .i64 (v3 + 1)), ())))), (((v4, (v5, ())), (((), ()), ())), ()))))) (
   none)) (
  some (R3.out ((), (((v4, (v5, ())), (((), ()), ())), ()))))
noncomputable def u23_43_2_0 (z : X23_43_2_0) : Option (R3 X23_43_2_0 Y23_43_2_0 Z23_43_2_0) := t23_43_2_0 z.1.1 z.1.2.2.1 z.1.2.2.2.1 z.2.1.1.1 z.2.1.1.2.1
noncomputable def f23 (v1 : (List (Int × (Int × (Int × (Int × Int)))))) (v2 : Int) (v3 : Int) : Option (Int × Unit) :=
 ((iter big u23_43_2_0 ((v1, ((), (((v1.length : Nat) : Int), (0, ())))), (((v2, (v3, ())), (((), ()), ())), ())))).bind fun r => match r with
 | .inl y4 =>
   some ((-1), ())
 | .inr z5 =>
   some (z5.1.1, ())
abbrev X29_43_2_0 : Type := ((List (Int × (Int × (Int × (Int × Int))))) × Unit × Int × Int × Unit) × ((Int × Int × Unit) × (Unit × Unit) × Unit) × (Unit)
abbrev Y29_43_2_0 : Type := (Unit) × ((Int × Int × Unit) × (Unit × Unit) × Unit) × (Unit)
abbrev Z29_43_2_0 : Type := (Int × Unit) × ((Int × Int × Unit) × (Unit × Unit) × Unit) × (Unit)
noncomputable def t29_43_2_0 (v1 : (List (Int × (Int × (Int × (Int × Int)))))) (v2 : Int) (v3 : Int) (v4 : Int) (v5 : Int) : Option (R3 X29_43_2_0 Y29_43_2_0 Z29_43_2_0) :=
 cond (decide (v3 < v2)) (
  cond ((decide (0 ≤ v3)) && (decide (v3 < ((v1.length : Nat) : Int)))) (
   ((f24 (rd (.pair (.int .i64) (.pair (.int .i64) (.pair (.int .i64) (.pair (.int .i64) (.int .i64))))) v1 (Int.toNat v3)).1 (rd (.pair (.int .i64) (.pair (.int .i64) (.pair (.int .i64) (.pair (.int .i64) (.int .i64))))) v1 (Int.toNat v3)).2.1 (rd (.pair (.int .i64) (.pair (.int .i64) (.pair (.int .i64) (.pair (.int .i64) (.int .i64))))) v1 (Int.toNat v3)).2.2.1 (rd (.pair (.int .i64) (.pair (.int .i64) (.pair (.int .i64) (.pair (.int .i64) (.int .i64))))) v1 (Int.toNat v3)).2.2.2.1 (rd (.pair (.int .i64) (.pair (.int .i64) (.pair (.int .i64) (.pair (.int .i64) (.int .i64))))) v1 (Int.toNat v3)).2.2.2.2)).bind fun y6 =>
   ((f50 y6.1.1 y6.1.2 v4 v5)).bind fun y7 =>
   cond (decide (0 < y7.1)) (
    some (R3.ret ((v3, ()), (((v4, (v5, ())), (((), ()), ())), ())))) (
    some (R3.next ((v1, ((), (v2, ((IntKind.wrap .i64 (v3 + 1)), ())))), (((v4, (v5, ())), (((), ()), ())), ()))))) (
   none)) (
  some (R3.out ((), (((v4, (v5, ())), (((), ()), ())), ()))))
noncomputable def u29_43_2_0 (z : X29_43_2_0) : Option (R3 X29_43_2_0 Y29_43_2_0 Z29_43_2_0) := t29_43_2_0 z.1.1 z.1.2.2.1 z.1.2.2.2.1 z.2.1.1.1 z.2.1.1.2.1
noncomputable def f29 (v1 : (List (Int × (Int × (Int × (Int × Int)))))) (v2 : Int) (v3 : Int) : Option (Int × Unit) :=
 ((iter big u29_43_2_0 ((v1, ((), (((v1.length : Nat) : Int), (0, ())))), (((v2, (v3, ())), (((), ()), ())), ())))).bind fun r => match r with
 | .inl y4 =>
   some (((v1.length : Nat) : Int), ())
 | .inr z5 =>
   cond (decide (z5.1.1 = (-1))) (
    some (((v1.length : Nat) : Int), ())) (
    some (z5.1.1, ()))
abbrev X35_51_2_0 : Type := ((List (Int × (Int × Int))) × Unit × Int × Int × Unit) × ((Int × Int × Unit) × (Unit × Unit) × Unit) × (Unit)
abbrev Y35_51_2_0 : Type := (Unit) × ((Int × Int × Unit) × (Unit × Unit) × Unit) × (Unit)
abbrev Z35_51_2_0 : Type := (Int × Unit) × ((Int × Int × Unit) × (Unit × Unit) × Unit) × (Unit)
noncomputable def t35_51_2_0 (v1 : (List (Int × (Int × Int)))) (v2 : Int) (v3 : Int) (v4 : Int) (v5 : Int) : Option (R3 X35_51_2_0 Y35_51_2_0 Z35_51_2_0) :=
 cond (decide (v3 < v2)) (
  cond ((decide (0 ≤ v3)) && (decide (v3 < ((v1.length : Nat) : Int)))) (
   ((f33 (rd (.pair (.int .i64) (.pair (.int .i64) (.int .i64))) v1 (Int.toNat v3)).1 (rd (.pair (.int .i64) (.pair (.int .i64) (.int .i64))) v1 (Int.toNat v3)).2.1 (rd (.pair (.int .i64) (.pair (.int .i64) (.int .i64))) v1 (Int.toNat v3)).2.2)).bind fun y6 =>
   ((f50 y6.1.1 y6.1.2 v4 v5)).bind fun y7 =>
   cond (decide (0 < y7.1)) (
    some (R3.ret ((v3, ()), (((v4, (v5, ())), (((), ()), ())), ())))) (
    some (R3.next ((v1, ((), (v2, ((IntKind.wrap .i64 (v3 + 1)), ())))), (((v4, (v5, ())), (((), ()), ())), ()))))) (
   none)) (
  some (R3.out ((), (((v4, (v5, ())), (((), ()), ())), ()))))
noncomputable def u35_51_2_0 (z : X35_51_2_0) : Option (R3 X35_51_2_0 Y35_51_2_0 Z35_51_2_0) := t35_51_2_0 z.1.1 z.1.2.2.1 z.1.2.2.2.1 z.2.1.1.1 z.2.1.1.2.1
noncomputable def f35 (v1 : (List (Int × (Int × Int)))) (v2 : Int) (v3 : Int) : Option (Int × Unit) :=
 ((iter big u35_51_2_0 ((v1, ((), (((v1.length : Nat) : Int), (0, ())))), (((v2, (v3, ())), (((), ()), ())), ())))).bind fun r => match r with
 | .inl y4 =>
   some (((v1.length : Nat) : Int), ())
 | .inr z5 =>
   cond (decide (z5.1.1 = (-1))) (
    some (((v1.length : Nat) : Int), ())) (
    some (z5.1.1, ()))
noncomputable def f7 (v1 : (List (Int × (Int × (Int × (Int × Int)))))) (v2 : Int) (v3 : Int) : Option (Int × Unit) :=
 ((f23 v1 v2 v3)).bind fun y4 =>
 some (y4.1, ())
noncomputable def f11 (v1 : (List (Int × (Int × (Int × (Int × Int)))))) (v2 : Int) (v3 : Int) (v4 : Int) (v5 : Int) (v6 : Int) : Option ((List (Int × (Int × (Int × (Int × Int))))) × (Bool × Unit)) :=
 ((fCloneLease v1)).bind fun y7 =>
 ((f7 v1 v3 v4)).bind fun y8 =>
 cond (!(decide (y8.1 = (-1)))) (
  some (y7.1, (false, ()))) (
  cond (decide (32 ≤ ((v1.length : Nat) : Int))) (
   some (y7.1, (false, ()))) (
   ((f24 v2 v3 v4 v5 v6)).bind fun y9 =>
   ((f29 v1 y9.1.1 y9.1.2)).bind fun y10 =>
   ((fInsLease y7.1 y10.1 [(v2, (v3, (v4, (v5, v6))))])).bind fun y11 =>
   some (y11, (true, ()))))
abbrev X12_51_2_0 : Type := (Unit × Unit × Int × Int × Unit) × ((Int × Int × Int × Unit) × (List (Int × (Int × Int))) × Unit) × (Unit)
abbrev Y12_51_2_0 : Type := (Unit) × ((Int × Int × Int × Unit) × (List (Int × (Int × Int))) × Unit) × (Unit)
abbrev Z12_51_2_0 : Type := (Int × Unit) × ((Int × Int × Int × Unit) × (List (Int × (Int × Int))) × Unit) × (Unit)
noncomputable def t12_51_2_0 (v1 : Int) (v2 : Int) (v3 : Int) (v4 : Int) (v5 : Int) (v6 : (List (Int × (Int × Int)))) : Option (R3 X12_51_2_0 Y12_51_2_0 Z12_51_2_0) :=
 cond (decide (v2 < v1)) (
  cond ((decide (0 ≤ v2)) && (decide (v2 < ((v6.length : Nat) : Int)))) (
   cond (decide ((Int.toNat v2) < v6.length)) (
    ((f33 (rd (.pair (.int .i64) (.pair (.int .i64) (.int .i64))) v6 (Int.toNat v2)).1 (rd (.pair (.int .i64) (.pair (.int .i64) (.int .i64))) v6 (Int.toNat v2)).2.1 (rd (.pair (.int .i64) (.pair (.int .i64) (.int .i64))) v6 (Int.toNat v2)).2.2)).bind fun y7 =>
    ((f33 v3 v4 v5)).bind fun y8 =>
    cond ((decide (y7.1.1 = y8.1.1)) && ((decide (y7.1.2 = y8.1.2)) && true)) (
     some (R3.ret ((v2, ()), (((v3, (v4, (v5, ()))), (v6, ())), ())))) (
     some (R3.next (((), ((), (v1, ((IntKind.wrap .i64 (v2 + 1)), ())))), (((v3, (v4, (v5, ()))), (v6, ())), ()))))) (
    none)) (
   none)) (
  some (R3.out ((), (((v3, (v4, (v5, ()))), (v6, ())), ()))))
noncomputable def u12_51_2_0 (z : X12_51_2_0) : Option (R3 X12_51_2_0 Y12_51_2_0 Z12_51_2_0) := t12_51_2_0 z.1.2.2.1 z.1.2.2.2.1 z.2.1.1.1 z.2.1.1.2.1 z.2.1.1.2.2.1 z.2.1.2.1
abbrev X12_30_5_0 : Type := (Unit × Unit × Int × Int × Unit) × ((Int × Int × Int × Unit) × (List (Int × (Int × Int))) × Unit) × (Unit)
abbrev Y12_30_5_0 : Type := (Unit × Int × Unit) × ((Int × Int × Int × Unit) × (List (Int × (Int × Int))) × Unit) × (Unit)
abbrev Z12_30_5_0 : Type := (Unit) × ((Int × Int × Int × Unit) × (List (Int × (Int × Int))) × Unit) × (Unit)
noncomputable def t12_30_5_0 (v1 : Int) (v2 : Int) (v3 : Int) (v4 : Int) (v5 : Int) (v6 : (List (Int × (Int × Int)))) : Option (R3 X12_30_5_0 Y12_30_5_0 Z12_30_5_0) :=
 cond (decide (v2 < ((v6.length : Nat) : Int))) (
  cond ((decide (0 ≤ v2)) && (decide (v2 < ((v6.length : Nat) : Int)))) (
   cond (decide ((Int.toNat v2) < v6.length)) (
    ((f33 (rd (.pair (.int .i64) (.pair (.int .i64) (.int .i64))) v6 (Int.toNat v2)).1 (rd (.pair (.int .i64) (.pair (.int .i64) (.int .i64))) v6 (Int.toNat v2)).2.1 (rd (.pair (.int .i64) (.pair (.int .i64) (.int .i64))) v6 (Int.toNat v2)).2.2)).bind fun y7 =>
    ((f33 v3 v4 v5)).bind fun y8 =>
    cond (!((decide (y7.1.1 = y8.1.1)) && ((decide (y7.1.2 = y8.1.2)) && true))) (
     cond ((decide (0 ≤ v1)) && (decide (v1 < ((v6.length : Nat) : Int)))) (
      cond (decide ((Int.toNat v1) < v6.length)) (
       some (R3.next (((), ((), ((IntKind.wrap .i64 (v1 + 1)), ((IntKind.wrap .i64 (v2 + 1)), ())))), (((v3, (v4, (v5, ()))), ((v6.set (Int.toNat v1) ((rd (.pair (.int .i64) (.pair (.int .i64) (.int .i64))) v6 (Int.toNat v2)).1, ((rd (.pair (.int .i64) (.pair (.int .i64) (.int .i64))) v6 (Int.toNat v2)).2.1, (rd (.pair (.int .i64) (.pair (.int .i64) (.int .i64))) v6 (Int.toNat v2)).2.2))), ())), ())))) (
       none)) (
      none)) (
     some (R3.next (((), ((), (v1, ((IntKind.wrap .i64 (v2 + 1)), ())))), (((v3, (v4, (v5, ()))), (v6, ())), ()))))) (
    none)) (
   none)) (
  some (R3.out (((), (v1, ())), (((v3, (v4, (v5, ()))), (v6, ())), ()))))
noncomputable def u12_30_5_0 (z : X12_30_5_0) : Option (R3 X12_30_5_0 Y12_30_5_0 Z12_30_5_0) := t12_30_5_0 z.1.2.2.1 z.1.2.2.2.1 z.2.1.1.1 z.2.1.1.2.1 z.2.1.1.2.2.1 z.2.1.2.1
noncomputable def f12 (v1 : (List (Int × (Int × Int)))) (v2 : Int) (v3 : Int) (v4 : Int) : Option ((List (Int × (Int × Int))) × Unit) :=
 ((fCloneHeld v1)).bind fun y5 =>
 ((iter big u12_51_2_0 (((), ((), (((y5.1.length : Nat) : Int), (0, ())))), (((v2, (v3, (v4, ()))), (y5.1, ())), ())))).bind fun r => match r with
 | .inl y6 =>
   ((f33 y6.2.1.1.1 y6.2.1.1.2.1 y6.2.1.1.2.2.1)).bind fun y8 =>
   ((f35 y6.2.1.2.1 y8.1.1 y8.1.2)).bind fun y9 =>
   ((fInsHeld y6.2.1.2.1 y9.1 [(y6.2.1.1.1, (y6.2.1.1.2.1, y6.2.1.1.2.2.1))])).bind fun y10 =>
   some (y10, ())
 | .inr z7 =>
   cond (decide (z7.1.1 = (-1))) (
    ((f33 z7.2.1.1.1 z7.2.1.1.2.1 z7.2.1.1.2.2.1)).bind fun y11 =>
    ((f35 z7.2.1.2.1 y11.1.1 y11.1.2)).bind fun y12 =>
    ((fInsHeld z7.2.1.2.1 y12.1 [(z7.2.1.1.1, (z7.2.1.1.2.1, z7.2.1.1.2.2.1))])).bind fun y13 =>
    some (y13, ())) (
    ((iter big u12_30_5_0 (((), ((), (z7.1.1, ((IntKind.wrap .i64 (z7.1.1 + 1)), ())))), (((z7.2.1.1.1, (z7.2.1.1.2.1, (z7.2.1.1.2.2.1, ()))), (z7.2.1.2.1, ())), ())))).bind fun r => match r with
    | .inl y14 =>
      cond (((decide (0 ≤ y14.1.2.1)) && (decide (y14.1.2.1 ≤ (((y14.2.1.2.1.length - 0) : Nat) : Int)))) && (decide ((0 + (((y14.2.1.2.1.length - 0) : Nat) : Int)) ≤ ((y14.2.1.2.1.length : Nat) : Int)))) (
       cond ((decide (0 ≤ y14.1.2.1)) && (decide ((0 + y14.1.2.1) ≤ (((((List.take (0 + (Int.toNat y14.1.2.1)) y14.2.1.2.1) ++ (List.replicate ((0 + (Int.toNat (((y14.2.1.2.1.length - 0) : Nat) : Int))) - (0 + (Int.toNat y14.1.2.1))) (0, (0, 0)))) ++ (List.drop ((0 + (Int.toNat y14.1.2.1)) + ((0 + (Int.toNat (((y14.2.1.2.1.length - 0) : Nat) : Int))) - (0 + (Int.toNat y14.1.2.1)))) y14.2.1.2.1)).length : Nat) : Int)))) (
        ((f33 y14.2.1.1.1 y14.2.1.1.2.1 y14.2.1.1.2.2.1)).bind fun y16 =>
        ((f35 (List.drop 0 (List.take (0 + (Int.toNat y14.1.2.1)) (((List.take (0 + (Int.toNat y14.1.2.1)) y14.2.1.2.1) ++ (List.replicate ((0 + (Int.toNat (((y14.2.1.2.1.length - 0) : Nat) : Int))) - (0 + (Int.toNat y14.1.2.1))) (0, (0, 0)))) ++ (List.drop ((0 + (Int.toNat y14.1.2.1)) + ((0 + (Int.toNat (((y14.2.1.2.1.length - 0) : Nat) : Int))) - (0 + (Int.toNat y14.1.2.1)))) y14.2.1.2.1)))) y16.1.1 y16.1.2)).bind fun y17 =>
        ((fInsHeld (List.take (0 + (Int.toNat y14.1.2.1)) (((List.take (0 + (Int.toNat y14.1.2.1)) y14.2.1.2.1) ++ (List.replicate ((0 + (Int.toNat (((y14.2.1.2.1.length - 0) : Nat) : Int))) - (0 + (Int.toNat y14.1.2.1))) (0, (0, 0)))) ++ (List.drop ((0 + (Int.toNat y14.1.2.1)) + ((0 + (Int.toNat (((y14.2.1.2.1.length - 0) : Nat) : Int))) - (0 + (Int.toNat y14.1.2.1)))) y14.2.1.2.1))) y17.1 [(y14.2.1.1.1, (y14.2.1.1.2.1, y14.2.1.1.2.2.1))])).bind fun y18 =>
        some (y18, ())) (
        none)) (
       none)
    | .inr z15 =>
      ((f33 z15.2.1.1.1 z15.2.1.1.2.1 z15.2.1.1.2.2.1)).bind fun y19 =>
      none)
abbrev X14_51_2_0 : Type := (Unit × Unit × Int × Int × Unit) × ((Int × Unit) × (List (Int × (Int × Int))) × Unit) × (Unit)
abbrev Y14_51_2_0 : Type := (Unit) × ((Int × Unit) × (List (Int × (Int × Int))) × Unit) × (Unit)
abbrev Z14_51_2_0 : Type := (Int × Unit) × ((Int × Unit) × (List (Int × (Int × Int))) × Unit) × (Unit)
noncomputable def t14_51_2_0 (v1 : Int) (v2 : Int) (v3 : Int) (v4 : (List (Int × (Int × Int)))) : Option (R3 X14_51_2_0 Y14_51_2_0 Z14_51_2_0) :=
 cond (decide (v2 < v1)) (
  cond ((decide (0 ≤ v2)) && (decide (v2 < ((v4.length : Nat) : Int)))) (
   cond (decide ((Int.toNat v2) < v4.length)) (
    cond (decide ((rd (.pair (.int .i64) (.pair (.int .i64) (.int .i64))) v4 (Int.toNat v2)).2.2 ≤ v3)) (
     some (R3.ret ((v2, ()), (((v3, ()), (v4, ())), ())))) (
     some (R3.next (((), ((), (v1, ((IntKind.wrap .i64 (v2 + 1)), ())))), (((v3, ()), (v4, ())), ()))))) (
    none)) (
   none)) (
  some (R3.out ((), (((v3, ()), (v4, ())), ()))))
noncomputable def u14_51_2_0 (z : X14_51_2_0) : Option (R3 X14_51_2_0 Y14_51_2_0 Z14_51_2_0) := t14_51_2_0 z.1.2.2.1 z.1.2.2.2.1 z.2.1.1.1 z.2.1.2.1
abbrev X14_30_5_0 : Type := (Unit × Unit × Int × Int × Unit) × ((Int × Unit) × (List (Int × (Int × Int))) × Unit) × (Unit)
abbrev Y14_30_5_0 : Type := (Unit × Int × Unit) × ((Int × Unit) × (List (Int × (Int × Int))) × Unit) × (Unit)
abbrev Z14_30_5_0 : Type := (Unit) × ((Int × Unit) × (List (Int × (Int × Int))) × Unit) × (Unit)
noncomputable def t14_30_5_0 (v1 : Int) (v2 : Int) (v3 : Int) (v4 : (List (Int × (Int × Int)))) : Option (R3 X14_30_5_0 Y14_30_5_0 Z14_30_5_0) :=
 cond (decide (v2 < ((v4.length : Nat) : Int))) (
  cond ((decide (0 ≤ v2)) && (decide (v2 < ((v4.length : Nat) : Int)))) (
   cond (decide ((Int.toNat v2) < v4.length)) (
    cond (!(decide ((rd (.pair (.int .i64) (.pair (.int .i64) (.int .i64))) v4 (Int.toNat v2)).2.2 ≤ v3))) (
     cond ((decide (0 ≤ v1)) && (decide (v1 < ((v4.length : Nat) : Int)))) (
      cond (decide ((Int.toNat v1) < v4.length)) (
       some (R3.next (((), ((), ((IntKind.wrap .i64 (v1 + 1)), ((IntKind.wrap .i64 (v2 + 1)), ())))), (((v3, ()), ((v4.set (Int.toNat v1) ((rd (.pair (.int .i64) (.pair (.int .i64) (.int .i64))) v4 (Int.toNat v2)).1, ((rd (.pair (.int .i64) (.pair (.int .i64) (.int .i64))) v4 (Int.toNat v2)).2.1, (rd (.pair (.int .i64) (.pair (.int .i64) (.int .i64))) v4 (Int.toNat v2)).2.2))), ())), ())))) (
       none)) (
      none)) (
     some (R3.next (((), ((), (v1, ((IntKind.wrap .i64 (v2 + 1)), ())))), (((v3, ()), (v4, ())), ()))))) (
    none)) (
   none)) (
  some (R3.out (((), (v1, ())), (((v3, ()), (v4, ())), ()))))
noncomputable def u14_30_5_0 (z : X14_30_5_0) : Option (R3 X14_30_5_0 Y14_30_5_0 Z14_30_5_0) := t14_30_5_0 z.1.2.2.1 z.1.2.2.2.1 z.2.1.1.1 z.2.1.2.1
noncomputable def f14 (v1 : (List (Int × (Int × Int)))) (v2 : Int) : Option ((List (Int × (Int × Int))) × Unit) :=
 ((fCloneHeld v1)).bind fun y3 =>
 ((iter big u14_51_2_0 (((), ((), (((y3.1.length : Nat) : Int), (0, ())))), (((v2, ()), (y3.1, ())), ())))).bind fun r => match r with
 | .inl y4 =>
   some (y4.2.1.2.1, ())
 | .inr z5 =>
   cond (decide (z5.1.1 = (-1))) (
    some (z5.2.1.2.1, ())) (
    ((iter big u14_30_5_0 (((), ((), (z5.1.1, ((IntKind.wrap .i64 (z5.1.1 + 1)), ())))), (((z5.2.1.1.1, ()), (z5.2.1.2.1, ())), ())))).bind fun r => match r with
    | .inl y6 =>
      cond (((decide (0 ≤ y6.1.2.1)) && (decide (y6.1.2.1 ≤ (((y6.2.1.2.1.length - 0) : Nat) : Int)))) && (decide ((0 + (((y6.2.1.2.1.length - 0) : Nat) : Int)) ≤ ((y6.2.1.2.1.length : Nat) : Int)))) (
       cond ((decide (0 ≤ y6.1.2.1)) && (decide ((0 + y6.1.2.1) ≤ (((((List.take (0 + (Int.toNat y6.1.2.1)) y6.2.1.2.1) ++ (List.replicate ((0 + (Int.toNat (((y6.2.1.2.1.length - 0) : Nat) : Int))) - (0 + (Int.toNat y6.1.2.1))) (0, (0, 0)))) ++ (List.drop ((0 + (Int.toNat y6.1.2.1)) + ((0 + (Int.toNat (((y6.2.1.2.1.length - 0) : Nat) : Int))) - (0 + (Int.toNat y6.1.2.1)))) y6.2.1.2.1)).length : Nat) : Int)))) (
        some ((List.take (0 + (Int.toNat y6.1.2.1)) (((List.take (0 + (Int.toNat y6.1.2.1)) y6.2.1.2.1) ++ (List.replicate ((0 + (Int.toNat (((y6.2.1.2.1.length - 0) : Nat) : Int))) - (0 + (Int.toNat y6.1.2.1))) (0, (0, 0)))) ++ (List.drop ((0 + (Int.toNat y6.1.2.1)) + ((0 + (Int.toNat (((y6.2.1.2.1.length - 0) : Nat) : Int))) - (0 + (Int.toNat y6.1.2.1)))) y6.2.1.2.1))), ())) (
        none)) (
       none)
    | .inr z7 =>
      none)
abbrev X15_3 : Type := ((List (Int × (Int × (Int × (Int × Int))))) × Int × Int × Unit) × (Unit) × ((List Int) × Unit)
abbrev Y15_3 : Type := (Unit) × (Unit) × ((List Int) × Unit)
abbrev Z15_3 : Type := Unit × Unit × Unit
noncomputable def t15_3 (v1 : (List (Int × (Int × (Int × (Int × Int)))))) (v2 : Int) (v3 : Int) (v4 : (List Int)) : Option (R3 X15_3 Y15_3 Z15_3) :=
 cond (decide (v3 < v2)) (
  cond ((decide (0 ≤ v3)) && (decide (v3 < ((v1.length : Nat) : Int)))) (
   ((f20 (rd (.pair (.int .i64) (.pair (.int .i64) (.pair (.int .i64) (.pair (.int .i64) (.int .i64))))) v1 (Int.toNat v3)).1 (rd (.pair (.int .i64) (.pair (.int .i64) (.pair (.int .i64) (.pair (.int .i64) (.int .i64))))) v1 (Int.toNat v3)).2.1 (rd (.pair (.int .i64) (.pair (.int .i64) (.pair (.int .i64) (.pair (.int .i64) (.int .i64))))) v1 (Int.toNat v3)).2.2.1 (rd (.pair (.int .i64) (.pair (.int .i64) (.pair (.int .i64) (.pair (.int .i64) (.int .i64))))) v1 (Int.toNat v3)).2.2.2.1 (rd (.pair (.int .i64) (.pair (.int .i64) (.pair (.int .i64) (.pair (.int .i64) (.int .i64))))) v1 (Int.toNat v3)).2.2.2.2)).bind fun y5 =>
   cond ((decide (((v4.length + 1) * 8) ≤ 140737488355328)) && (decide ((v4.length + 1) ≤ 9223372036854775807))) (
    some (R3.next ((v1, (v2, ((IntKind.wrap .i64 (v3 + 1)), ()))), ((), ((v4 ++ [y5.1.1.1]), ()))))) (
    none)) (
   none)) (
  some (R3.out ((), ((), (v4, ())))))
noncomputable def u15_3 (z : X15_3) : Option (R3 X15_3 Y15_3 Z15_3) := t15_3 z.1.1 z.1.2.1 z.1.2.2.1 z.2.2.1
noncomputable def f15 (v1 : (List (Int × (Int × (Int × (Int × Int)))))) : Option ((List Int) × Unit) :=
 ((iter big u15_3 ((v1, (((v1.length : Nat) : Int), (0, ()))), ((), ([], ()))))).bind fun r => match r with
 | .inl y2 =>
   ((fSort y2.2.2.1)).bind fun y4 =>
   cond ((Nat.beq y4.length y2.2.2.1.length) && true) (
    ((fCompact y4)).bind fun y5 =>
    some (y5, ())) (
    none)
 | .inr z3 =>
   none
noncomputable def f4  : Option (Bool × Unit) :=
 ((f11 [] 0 1 1 0 0)).bind fun y1 =>
 ((f11 y1.1 5 0 2 0 0)).bind fun y2 =>
 ((f12 [] 0 3 9)).bind fun y3 =>
 cond y1.2.1 (
  cond y2.2.1 (
   cond (decide (((y2.1.length : Nat) : Int) = 2)) (
    cond (decide (0 < ((y2.1.length : Nat) : Int))) (
     cond (decide (0 < y2.1.length)) (
      cond (decide ((rd (.pair (.int .i64) (.pair (.int .i64) (.pair (.int .i64) (.pair (.int .i64) (.int .i64))))) y2.1 0).2.2.1 = 2)) (
       ((f7 y2.1 1 1)).bind fun y4 =>
       cond (decide (y4.1 = 1)) (
        ((f13 y2.1 5)).bind fun y5 =>
        cond (decide (((y5.1.length : Nat) : Int) = 1)) (
         cond (decide (((y3.1.length : Nat) : Int) = 1)) (
          ((f14 y3.1 9)).bind fun y6 =>
          cond (decide (((y6.1.length : Nat) : Int) = 0)) (
           ((f15 y2.1)).bind fun y7 =>
           cond (decide (((y7.1.length : Nat) : Int) = 2)) (
            ((f16 y2.1 y2.1)).bind fun y8 =>
            cond y8.1 (
             ((f17 y3.1 y3.1)).bind fun y9 =>
             some (y9.1, ())) (
             some (false, ()))) (
            some (false, ()))) (
           some (false, ()))) (
          some (false, ()))) (
         some (false, ()))) (
        some (false, ()))) (
       some (false, ()))) (
      none)) (
     none)) (
    some (false, ()))) (
   some (false, ()))) (
  some (false, ()))
noncomputable def f86 (v1 : Int) (v2 : Int) : Option (Bool × Unit) :=
 cond (decide (0 ≤ v2)) (
  cond (decide (v2 ≤ 32)) (
   cond (decide (0 ≤ v1)) (
    cond (decide (v1 < 4294967296)) (
     cond (!(decide ((IntKind.wrap .i64 (32 - v2)) < 0))) (
      some ((decide ((bitop .and .i64 v1 (IntKind.wrap .i64 ((IntKind.wrap .i64 (1 * ((2 : Int) ^ ((min (Int.toNat (IntKind.wrap .i64 (32 - v2))) 64) : Nat)))) - 1))) = 0)), ())) (
      none)) (
     some (false, ()))) (
    some (false, ()))) (
   some (false, ()))) (
  some (false, ()))
noncomputable def f59 (v1 : Int) (v2 : Int) : Option (Int × Unit) :=
 ((f86 v1 v2)).bind fun y3 =>
 cond (!y3.1) (
  some (0, ())) (
  cond (!(decide ((IntKind.wrap .i64 (32 - v2)) < 0))) (
   some ((IntKind.wrap .i64 (1 * ((2 : Int) ^ ((min (Int.toNat (IntKind.wrap .i64 (32 - v2))) 64) : Nat)))), ())) (
   none))
noncomputable def f87 (v1 : Int) (v2 : Int) (v3 : Int) : Option (Int × Unit) :=
 ((f86 v1 v2)).bind fun y4 =>
 cond (!y4.1) (
  some ((-1), ())) (
  cond (decide (v3 < 0)) (
   some ((-1), ())) (
   cond (decide (4294967296 ≤ v3)) (
    some ((-1), ())) (
    cond (!(decide ((IntKind.wrap .i64 (32 - v2)) < 0))) (
     cond (!(decide ((Int.fdiv (bitop .xor .i64 v3 v1) ((2 : Int) ^ ((min (Int.toNat (IntKind.wrap .i64 (32 - v2))) 64) : Nat))) = 0))) (
      some ((-1), ())) (
      some ((IntKind.wrap .i64 (v3 - v1)), ()))) (
     none))))
noncomputable def f61 (v1 : Int) (v2 : Int) (v3 : Int) (v4 : Int) : Option (Bool × Unit) :=
 ((f86 v1 v2)).bind fun y5 =>
 cond y5.1 (
  ((f86 v3 v4)).bind fun y6 =>
  cond y6.1 (
   ((f87 v1 v2 v3)).bind fun y7 =>
   cond (!(decide (y7.1 = (-1)))) (
    some (true, ())) (
    ((f87 v3 v4 v1)).bind fun y8 =>
    some ((!(decide (y8.1 = (-1)))), ()))) (
   some (false, ()))) (
  some (false, ()))
noncomputable def f65 (v1 : Int) (v2 : Int) (v3 : Int) (v4 : Int) (v5 : Int) (v6 : Int) (v7 : Int) (v8 : Int) : Option (Int × Unit) :=
 some ((IntKind.wrap .i64 ((IntKind.wrap .i64 ((IntKind.wrap .i64 (v6 - v5)) + 1)) - v7)), ())
noncomputable def f66 (v1 : Int) (v2 : Int) (v3 : Int) (v4 : Int) (v5 : Int) (v6 : Int) (v7 : Int) (v8 : Int) : Option (Int × Unit) :=
 ((f59 v1 v2)).bind fun y9 =>
 ((f59 v3 v4)).bind fun y10 =>
 cond (decide ((cond (decide (y10.1 < y9.1)) y10.1 y9.1) = 0)) (
  some (0, ())) (
  cond (!(decide (y10.1 = 0))) (
   some ((IntKind.wrap .i64 ((IntKind.wrap .i64 (Int.tdiv (IntKind.wrap .i64 (y9.1 - 1)) y10.1)) + 1)), ())) (
   none))
noncomputable def f57 (v1 : Int) (v2 : Int) (v3 : Int) : Option (Bool × Unit) :=
 cond (decide (v2 ≤ v1)) (
  some ((decide (v1 ≤ v3)), ())) (
  some (false, ()))
noncomputable def f41 (v1 : Int) (v2 : Int) (v3 : Int) (v4 : Int) (v5 : Int) (v6 : Int) (v7 : Int) (v8 : Int) : Option (Bool × Unit) :=
 ((f59 v1 v2)).bind fun y9 =>
 ((f57 y9.1 1 32)).bind fun y10 =>
 cond y10.1 (
  ((f59 v3 v4)).bind fun y11 =>
  ((f57 y11.1 1 4)).bind fun y12 =>
  cond (!y12.1) (
   some (false, ())) (
   ((f61 v1 v2 v3 v4)).bind fun y13 =>
   cond (!(!y13.1)) (
    some (false, ())) (
    ((f57 v5 1 v6)).bind fun y14 =>
    cond y14.1 (
     cond (!(decide (v6 ≤ 65535))) (
      some (false, ())) (
      ((f57 v7 0 (IntKind.wrap .i64 (v6 - v5)))).bind fun y15 =>
      cond y15.1 (
       ((f57 v8 1 65535)).bind fun y16 =>
       cond y16.1 (
        cond (!(decide (v8 = 0))) (
         cond (!(decide ((IntKind.wrap .i64 (Int.tdiv v7 v8)) ≤ 8))) (
          some (false, ())) (
          ((f65 v1 v2 v3 v4 v5 v6 v7 v8)).bind fun y17 =>
          ((f66 v1 v2 v3 v4 v5 v6 v7 v8)).bind fun y18 =>
          cond (!(decide (y18.1 ≤ y17.1))) (
           some (false, ())) (
           some (true, ())))) (
         none)) (
        some (false, ()))) (
       some (false, ())))) (
     some (false, ()))))) (
  some (false, ()))
noncomputable def f19 (v1 : Int) (v2 : Int) (v3 : Int) (v4 : Int) (v5 : Int) (v6 : Int) (v7 : Int) (v8 : Int) : Option (Int × Unit) :=
 ((f41 v1 v2 v3 v4 v5 v6 v7 v8)).bind fun y9 =>
 cond (!y9.1) (
  some (0, ())) (
  cond (!(decide (v8 = 0))) (
   some ((IntKind.wrap .i64 (Int.tdiv v7 v8)), ())) (
   none))
noncomputable def f8 (v1 : Int) (v2 : Int) : Option (Bool × Unit) :=
 cond (decide (0 ≤ v1)) (
  cond (decide (v1 ≤ 8)) (
   cond (decide (0 ≤ v2)) (
    cond (!(decide (v1 < 0))) (
     some ((decide ((Int.fdiv v2 ((2 : Int) ^ ((min (Int.toNat v1) 64) : Nat))) = 0)), ())) (
     none)) (
    some (false, ()))) (
   some (false, ()))) (
  some (false, ()))
noncomputable def f18 (v1 : Int) : Option ((Int × Int) × (Bool × Unit)) :=
 ((f8 v1 0)).bind fun y2 =>
 cond y2.1 (
  some ((v1, 0), (true, ()))) (
  some ((0, 0), (false, ())))
noncomputable def f25 (v1 : Int) (v2 : Int) (v3 : Int) : Option (Bool × Unit) :=
 ((f8 v1 v2)).bind fun y4 =>
 cond y4.1 (
  cond (decide (0 ≤ v3)) (
   some ((decide (v3 < v1)), ())) (
   some (false, ()))) (
  some (false, ()))
noncomputable def f9 (v1 : Int) (v2 : Int) (v3 : Int) : Option (Bool × Unit) :=
 ((f25 v1 v2 v3)).bind fun y4 =>
 cond y4.1 (
  cond (!(decide (v3 < 0))) (
   some ((decide ((bitop .and .i64 (Int.fdiv v2 ((2 : Int) ^ ((min (Int.toNat v3) 64) : Nat))) 1) = 1)), ())) (
   none)) (
  some (false, ()))
abbrev X10_45_2_0 : Type := (Unit × Int × Unit) × ((Int × Int × Unit) × (Int × Unit) × (Int × Int × Unit) × (Unit × Unit × Unit × Unit × Unit × Unit × Unit × Unit × Unit) × Unit) × (Unit)
abbrev Y10_45_2_0 : Type := (Unit) × ((Int × Int × Unit) × (Int × Unit) × (Int × Int × Unit) × (Unit × Unit × Unit × Unit × Unit × Unit × Unit × Unit × Unit) × Unit) × (Unit)
abbrev Z10_45_2_0 : Type := (Unit) × ((Int × Int × Unit) × (Int × Unit) × (Int × Int × Unit) × (Unit × Unit × Unit × Unit × Unit × Unit × Unit × Unit × Unit) × Unit) × (Unit)
noncomputable def t10_45_2_0 (v1 : Int) (v2 : Int) (v3 : Int) (v4 : Int) (v5 : Int) (v6 : Int) : Option (R3 X10_45_2_0 Y10_45_2_0 Z10_45_2_0) :=
 cond (decide (0 < v1)) (
  ((fTz v1)).bind fun y7 =>
  some (R3.ret ((), (((v2, (v3, ())), ((y7.1, ()), ((v5, (v6, ())), (((), ((), ((), ((), ((), ((), ((), ((), ())))))))), ())))), ())))) (
  some (R3.out ((), (((v2, (v3, ())), ((v4, ()), ((v5, (v6, ())), (((), ((), ((), ((), ((), ((), ((), ((), ())))))))), ())))), ()))))
noncomputable def u10_45_2_0 (z : X10_45_2_0) : Option (R3 X10_45_2_0 Y10_45_2_0 Z10_45_2_0) := t10_45_2_0 z.1.2.1 z.2.1.1.1 z.2.1.1.2.1 z.2.1.2.1.1 z.2.1.2.2.1.1 z.2.1.2.2.1.2.1
noncomputable def f10 (v1 : Int) (v2 : Int) : Option (Int × Unit) :=
 ((f8 v1 v2)).bind fun y3 =>
 cond (!y3.1) (
  some ((-1), ())) (
  cond (!(decide (v1 < 0))) (
   ((iter big u10_45_2_0 (((), ((bitop .andNot .u64 (IntKind.wrap .u64 ((IntKind.wrap .u64 (1 * ((2 : Int) ^ ((min (Int.toNat v1) 64) : Nat)))) - 1)) (IntKind.wrap .u64 v2)), ())), (((v1, (v2, ())), ((0, ()), ((v1, (v2, ())), (((), ((), ((), ((), ((), ((), ((), ((), ())))))))), ())))), ())))).bind fun r => match r with
   | .inl y4 =>
     some ((-1), ())
   | .inr z5 =>
     some (z5.2.1.2.1.1, ())) (
   none))
noncomputable def f42 (v1 : Int) (v2 : Int) (v3 : Int) (v4 : Bool) : Option ((Int × Int) × (Bool × Unit)) :=
 ((f25 v1 v2 v3)).bind fun y5 =>
 cond (!y5.1) (
  some ((v1, v2), (false, ()))) (
  ((f9 v1 v2 v3)).bind fun y6 =>
  cond (!(y6.1 == v4)) (
   some ((v1, v2), (false, ()))) (
   cond (!(decide (v3 < 0))) (
    some ((v1, (bitop .xor .i64 v2 (IntKind.wrap .i64 (1 * ((2 : Int) ^ ((min (Int.toNat v3) 64) : Nat)))))), (true, ()))) (
    none)))
noncomputable def f22 (v1 : Int) (v2 : Int) (v3 : Int) : Option ((Int × Int) × (Bool × Unit)) :=
 ((f42 v1 v2 v3 false)).bind fun y4 =>
 some ((y4.1.1, y4.1.2), (y4.2.1, ()))
abbrev X6_4 : Type := ((List (Int × (Int × Int))) × Int × Unit × Unit × (List (Int × (Int × (Int × (Int × Int))))) × Int × Int × Unit) × ((Int × Int × Unit) × (Int × Int × Unit) × Unit) × ((List (Int × Int)) × Unit)
abbrev Y6_4 : Type := ((List (Int × (Int × Int))) × Int × Unit × Unit × Unit) × ((Int × Int × Unit) × (Int × Int × Unit) × Unit) × ((List (Int × Int)) × Unit)
abbrev Z6_4 : Type := Unit × Unit × Unit
noncomputable def t6_4 (v1 : (List (Int × (Int × Int)))) (v2 : Int) (v3 : (List (Int × (Int × (Int × (Int × Int)))))) (v4 : Int) (v5 : Int) (v6 : Int) (v7 : Int) (v8 : Int) (v9 : Int) (v10 : (List (Int × Int))) : Option (R3 X6_4 Y6_4 Z6_4) :=
 cond (decide (v5 < v4)) (
  cond ((decide (0 ≤ v5)) && (decide (v5 < ((v3.length : Nat) : Int)))) (
   ((f20 (rd (.pair (.int .i64) (.pair (.int .i64) (.pair (.int .i64) (.pair (.int .i64) (.int .i64))))) v3 (Int.toNat v5)).1 (rd (.pair (.int .i64) (.pair (.int .i64) (.pair (.int .i64) (.pair (.int .i64) (.int .i64))))) v3 (Int.toNat v5)).2.1 (rd (.pair (.int .i64) (.pair (.int .i64) (.pair (.int .i64) (.pair (.int .i64) (.int .i64))))) v3 (Int.toNat v5)).2.2.1 (rd (.pair (.int .i64) (.pair (.int .i64) (.pair (.int .i64) (.pair (.int .i64) (.int .i64))))) v3 (Int.toNat v5)).2.2.2.1 (rd (.pair (.int .i64) (.pair (.int .i64) (.pair (.int .i64) (.pair (.int .i64) (.int .i64))))) v3 (Int.toNat v5)).2.2.2.2)).bind fun y11 =>
   cond ((decide (((v10.length + 1) * 16) ≤ 140737488355328)) && (decide ((v10.length + 1) ≤ 9223372036854775807))) (
    some (R3.next ((v1, (v2, ((), ((), (v3, (v4, ((IntKind.wrap .i64 (v5 + 1)), ()))))))), (((v6, (v7, ())), ((v8, (v9, ())), ())), ((v10 ++ [(y11.1.1.1, y11.1.1.2)]), ()))))) (
    none)) (
   none)) (
  some (R3.out ((v1, (v2, ((), ((), ())))), (((v6, (v7, ())), ((v8, (v9, ())), ())), (v10, ())))))
noncomputable def u6_4 (z : X6_4) : Option (R3 X6_4 Y6_4 Z6_4) := t6_4 z.1.1 z.1.2.1 z.1.2.2.2.2.1 z.1.2.2.2.2.2.1 z.1.2.2.2.2.2.2.1 z.2.1.1.1 z.2.1.1.2.1 z.2.1.2.1.1 z.2.1.2.1.2.1 z.2.2.1
abbrev X6_9 : Type := (Int × Unit × Unit × (List (Int × (Int × Int))) × Int × Int × Unit) × ((Int × Int × Unit) × (Int × Int × Unit) × Unit) × ((List (Int × Int)) × Unit)
abbrev Y6_9 : Type := (Int × Unit × Unit × Unit) × ((Int × Int × Unit) × (Int × Int × Unit) × Unit) × ((List (Int × Int)) × Unit)
abbrev Z6_9 : Type := Unit × Unit × Unit
noncomputable def t6_9 (v1 : Int) (v2 : (List (Int × (Int × Int)))) (v3 : Int) (v4 : Int) (v5 : Int) (v6 : Int) (v7 : Int) (v8 : Int) (v9 : (List (Int × Int))) : Option (R3 X6_9 Y6_9 Z6_9) :=
 cond (decide (v4 < v3)) (
  cond ((decide (0 ≤ v4)) && (decide (v4 < ((v2.length : Nat) : Int)))) (
   ((f21 (rd (.pair (.int .i64) (.pair (.int .i64) (.int .i64))) v2 (Int.toNat v4)).1 (rd (.pair (.int .i64) (.pair (.int .i64) (.int .i64))) v2 (Int.toNat v4)).2.1 (rd (.pair (.int .i64) (.pair (.int .i64) (.int .i64))) v2 (Int.toNat v4)).2.2)).bind fun y10 =>
   cond ((decide (((v9.length + 1) * 16) ≤ 140737488355328)) && (decide ((v9.length + 1) ≤ 9223372036854775807))) (
    some (R3.next ((v1, ((), ((), (v2, (v3, ((IntKind.wrap .i64 (v4 + 1)), ())))))), (((v5, (v6, ())), ((v7, (v8, ())), ())), ((v9 ++ [(y10.1.1.1, y10.1.1.2)]), ()))))) (
    none)) (
   none)) (
  some (R3.out ((v1, ((), ((), ()))), (((v5, (v6, ())), ((v7, (v8, ())), ())), (v9, ())))))
noncomputable def u6_9 (z : X6_9) : Option (R3 X6_9 Y6_9 Z6_9) := t6_9 z.1.1 z.1.2.2.2.1 z.1.2.2.2.2.1 z.1.2.2.2.2.2.1 z.2.1.1.1 z.2.1.1.2.1 z.2.1.2.1.1 z.2.1.2.1.2.1 z.2.2.1
abbrev X6_14 : Type := (Int × Unit × Unit × Int × Int × Unit) × ((Int × Int × Unit) × (Int × Int × Unit) × Unit) × ((List (Int × Int)) × Unit)
abbrev Y6_14 : Type := (Unit × Unit × Unit) × ((Int × Int × Unit) × (Int × Int × Unit) × Unit) × (Unit)
abbrev Z6_14 : Type := Unit × Unit × Unit
noncomputable def t6_14 (v1 : Int) (v2 : Int) (v3 : Int) (v4 : Int) (v5 : Int) (v6 : Int) (v7 : Int) (v8 : (List (Int × Int))) : Option (R3 X6_14 Y6_14 Z6_14) :=
 cond (decide (v3 < v2)) (
  cond ((decide (0 ≤ v3)) && (decide (v3 < ((v8.length : Nat) : Int)))) (
   cond (decide ((Int.toNat v3) < v8.length)) (
    cond (decide ((rd (.pair (.int .i64) (.int .i64)) v8 (Int.toNat v3)).1 = v1)) (
     ((f22 v6 v7 (rd (.pair (.int .i64) (.int .i64)) v8 (Int.toNat v3)).2)).bind fun y9 =>
     some (R3.next ((v1, ((), ((), (v2, ((IntKind.wrap .i64 (v3 + 1)), ()))))), (((v4, (v5, ())), ((y9.1.1, (y9.1.2, ())), ())), (v8, ()))))) (
     some (R3.next ((v1, ((), ((), (v2, ((IntKind.wrap .i64 (v3 + 1)), ()))))), (((v4, (v5, ())), ((v6, (v7, ())), ())), (v8, ())))))) (
    none)) (
   none)) (
  some (R3.out (((), ((), ())), (((v4, (v5, ())), ((v6, (v7, ())), ())), ()))))
noncomputable def u6_14 (z : X6_14) : Option (R3 X6_14 Y6_14 Z6_14) := t6_14 z.1.1 z.1.2.2.2.1 z.1.2.2.2.2.1 z.2.1.1.1 z.2.1.1.2.1 z.2.1.2.1.1 z.2.1.2.1.2.1 z.2.2.1
noncomputable def f6 (v1 : Int) (v2 : Int) (v3 : Int) (v4 : Int) (v5 : Int) (v6 : Int) (v7 : Int) (v8 : Int) (v9 : (List (Int × (Int × (Int × (Int × Int)))))) (v10 : (List (Int × (Int × Int)))) (v11 : Int) : Option ((Int × Int) × Unit) :=
 ((f19 v1 v2 v3 v4 v5 v6 v7 v8)).bind fun y12 =>
 ((f18 y12.1)).bind fun y13 =>
 ((iter big u6_4 ((v10, (v11, ((), ((), (v9, (((v9.length : Nat) : Int), (0, ()))))))), (((0, (0, ())), ((y13.1.1, (y13.1.2, ())), ())), ([], ()))))).bind fun r => match r with
 | .inl y14 =>
   ((iter big u6_9 ((y14.1.2.1, ((), ((), (y14.1.1, (((y14.1.1.length : Nat) : Int), (0, ())))))), (((y14.2.1.1.1, (y14.2.1.1.2.1, ())), ((y14.2.1.2.1.1, (y14.2.1.2.1.2.1, ())), ())), (y14.2.2.1, ()))))).bind fun r => match r with
   | .inl y16 =>
     ((iter big u6_14 ((y16.1.1, ((), ((), (((y16.2.2.1.length : Nat) : Int), (0, ()))))), (((y16.2.1.1.1, (y16.2.1.1.2.1, ())), ((y16.2.1.2.1.1, (y16.2.1.2.1.2.1, ())), ())), (y16.2.2.1, ()))))).bind fun r => match r with
     | .inl y18 =>
       some ((y18.2.1.2.1.1, y18.2.1.2.1.2.1), ())
     | .inr z19 =>
       none
   | .inr z17 =>
     none
 | .inr z15 =>
   none
abbrev X3_8 : Type := ((List (Int × (Int × (Int × (Int × Int))))) × (List (Int × (Int × Int))) × Int × Int × Unit × Bool × Int × Unit) × ((Int × Int × Unit) × Unit) × (Unit)
abbrev Y3_8 : Type := ((List (Int × (Int × (Int × (Int × Int))))) × Int × Int × Unit × Bool × Unit) × ((Int × Int × Unit) × Unit) × (Unit)
abbrev Z3_8 : Type := Unit × Unit × Unit
noncomputable def t3_8 (v1 : (List (Int × (Int × (Int × (Int × Int)))))) (v2 : (List (Int × (Int × Int)))) (v3 : Int) (v4 : Int) (v5 : Bool) (v6 : Int) (v7 : Int) (v8 : Int) : Option (R3 X3_8 Y3_8 Z3_8) :=
 cond (decide (v6 < ((v2.length : Nat) : Int))) (
  cond v5 (
   some (R3.next ((v1, (v2, (v3, (v4, ((), (true, ((IntKind.wrap .i64 (v6 + 1)), ()))))))), (((v7, (v8, ())), ()), ())))) (
   cond ((decide (0 ≤ v6)) && (decide (v6 < ((v2.length : Nat) : Int)))) (
    cond (decide ((rd (.pair (.int .i64) (.pair (.int .i64) (.int .i64))) v2 (Int.toNat v6)).1 = v3)) (
     cond ((decide (0 ≤ v6)) && (decide (v6 < ((v2.length : Nat) : Int)))) (
      some (R3.next ((v1, (v2, (v3, (v4, ((), ((decide ((rd (.pair (.int .i64) (.pair (.int .i64) (.int .i64))) v2 (Int.toNat v6)).2.1 = v4)), ((IntKind.wrap .i64 (v6 + 1)), ()))))))), (((v7, (v8, ())), ()), ())))) (
      none)) (
     some (R3.next ((v1, (v2, (v3, (v4, ((), (false, ((IntKind.wrap .i64 (v6 + 1)), ()))))))), (((v7, (v8, ())), ()), ()))))) (
    none))) (
  some (R3.out ((v1, (v3, (v4, ((), (v5, ()))))), (((v7, (v8, ())), ()), ()))))
noncomputable def u3_8 (z : X3_8) : Option (R3 X3_8 Y3_8 Z3_8) := t3_8 z.1.1 z.1.2.1 z.1.2.2.1 z.1.2.2.2.1 z.1.2.2.2.2.2.1 z.1.2.2.2.2.2.2.1 z.2.1.1.1 z.2.1.1.2.1
noncomputable def f3 (v1 : Int) (v2 : Int) (v3 : Int) (v4 : Int) (v5 : Int) (v6 : Int) (v7 : Int) (v8 : Int) (v9 : (List (Int × (Int × (Int × (Int × Int)))))) (v10 : (List (Int × (Int × Int)))) (v11 : Int) (v12 : Int) : Option (Bool × Unit) :=
 (f4).bind fun y13 =>
 ((f5 v9 v10)).bind fun y14 =>
 cond (!y13.1) (
  some (y13.1, ())) (
  cond (!y14.1) (
   some (y13.1, ())) (
   ((f6 v1 v2 v3 v4 v5 v6 v7 v8 v9 v10 v11)).bind fun y15 =>
   ((iter big u3_8 ((v9, (v10, (v11, (v12, ((), (false, (0, ()))))))), (((y15.1.1, (y15.1.2, ())), ()), ())))).bind fun r => match r with
   | .inl y16 =>
     ((f7 y16.1.1 y16.1.2.1 y16.1.2.2.1)).bind fun y18 =>
     cond (decide (0 ≤ y18.1)) (
      ((f8 y16.2.1.1.1 y16.2.1.1.2.1)).bind fun y19 =>
      cond (!y19.1) (
       some (false, ())) (
       cond (decide (0 ≤ y16.1.2.2.1)) (
        cond (decide (y16.1.2.2.1 < y16.2.1.1.1)) (
         ((f9 y16.2.1.1.1 y16.2.1.1.2.1 y16.1.2.2.1)).bind fun y20 =>
         cond (!(y20.1 == true)) (
          some (false, ())) (
          ((f10 y16.2.1.1.1 y16.2.1.1.2.1)).bind fun y21 =>
          ((f11 y16.1.1 0 y16.1.2.1 y21.1 0 0)).bind fun y22 =>
          cond (decide (y21.1 < 0)) (
           some (true, ())) (
           cond y22.2.1 (
            some (true, ())) (
            some ((decide (32 ≤ ((y16.1.1.length : Nat) : Int))), ()))))) (
         ((f10 y16.2.1.1.1 y16.2.1.1.2.1)).bind fun y23 =>
         ((f11 y16.1.1 0 y16.1.2.1 y23.1 0 0)).bind fun y24 =>
         cond (decide (y23.1 < 0)) (
          some (true, ())) (
          cond y24.2.1 (
           some (true, ())) (
           some ((decide (32 ≤ ((y16.1.1.length : Nat) : Int))), ()))))) (
        ((f10 y16.2.1.1.1 y16.2.1.1.2.1)).bind fun y25 =>
        ((f11 y16.1.1 0 y16.1.2.1 y25.1 0 0)).bind fun y26 =>
        cond (decide (y25.1 < 0)) (
         some (true, ())) (
         cond y26.2.1 (
          some (true, ())) (
          some ((decide (32 ≤ ((y16.1.1.length : Nat) : Int))), ())))))) (
      ((f8 y16.2.1.1.1 y16.2.1.1.2.1)).bind fun y27 =>
      cond (!y27.1) (
       some (false, ())) (
       cond (decide (0 ≤ y16.1.2.2.1)) (
        cond (decide (y16.1.2.2.1 < y16.2.1.1.1)) (
         ((f9 y16.2.1.1.1 y16.2.1.1.2.1 y16.1.2.2.1)).bind fun y28 =>
         cond (!(y28.1 == y16.1.2.2.2.2.1)) (
          some (false, ())) (
          ((f10 y16.2.1.1.1 y16.2.1.1.2.1)).bind fun y29 =>
          ((f11 y16.1.1 0 y16.1.2.1 y29.1 0 0)).bind fun y30 =>
          cond (decide (y29.1 < 0)) (
           some (true, ())) (
           cond y30.2.1 (
            some (true, ())) (
            some ((decide (32 ≤ ((y16.1.1.length : Nat) : Int))), ()))))) (
         ((f10 y16.2.1.1.1 y16.2.1.1.2.1)).bind fun y31 =>
         ((f11 y16.1.1 0 y16.1.2.1 y31.1 0 0)).bind fun y32 =>
         cond (decide (y31.1 < 0)) (
          some (true, ())) (
          cond y32.2.1 (
           some (true, ())) (
           some ((decide (32 ≤ ((y16.1.1.length : Nat) : Int))), ()))))) (
        ((f10 y16.2.1.1.1 y16.2.1.1.2.1)).bind fun y33 =>
        ((f11 y16.1.1 0 y16.1.2.1 y33.1 0 0)).bind fun y34 =>
        cond (decide (y33.1 < 0)) (
         some (true, ())) (
         cond y34.2.1 (
          some (true, ())) (
          some ((decide (32 ≤ ((y16.1.1.length : Nat) : Int))), ()))))))
   | .inr z17 =>
     none))
end Go.Proofs.Zz
