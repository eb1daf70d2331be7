/- What the functions come to, told of data. -/
import Derived.Test.YtibhegeedppkpaaDoorLibF
namespace Go.Proofs.Zz
open Go Go.Sy
set_option linter.unusedVariables false
noncomputable def f15 (v1 : Int) (v2 : Int) : Option (Bool × Unit) :=
 cond (decide (0 ≤ v2)) (
  cond (decide (v2 ≤ 32)) (
   cond (decide (0 ≤ v1)) (
    cond (decide (v1 < 4294967296)) (
     cond (!(decide ((IntKind.wrap .i64 (32 - v2)) < 0))) (
      some ((decide ((bitop .and .i64 v1 (IntKind.wrap .i64 ((IntKind.wrap .i64 (1 * ((2 : Int) ^ ((min (Int.toNat (IntKind.wrap .i64 (32 - v2))) 64) : Nat)))) - 1))) = 0)), ())) (
      none)) (
     some (false, ()))) (
    some (false, ()))) (
   some (false, ()))) (
  some (false, ()))
noncomputable def f18 (v1 : Int) (v2 : Int) : Option (Int × Unit) :=
 ((f15 v1 v2)).bind fun y3 =>
 cond (!y3.1) (
  some (0, ())) (
  cond (!(decide ((IntKind.wrap .i64 (32 - v2)) < 0))) (
   some ((IntKind.wrap .i64 (1 * ((2 : Int) ^ ((min (Int.toNat (IntKind.wrap .i64 (32 - v2))) 64) : Nat)))), ())) (
   none))
noncomputable def f19 (v1 : Int) (v2 : Int) (v3 : Int) : Option (Int × (Bool × Unit)) :=
 cond (decide (v3 < 0)) (
  some (0, (false, ()))) (
  ((f18 v1 v2)).bind fun y4 =>
  cond (decide (y4.1 ≤ v3)) (
   some (0, (false, ()))) (
   some ((bitop .or .i64 v1 v3), (true, ()))))
noncomputable def f16 (v1 : Int) (v2 : Int) (v3 : Int) : Option (Int × Unit) :=
 ((f15 v1 v2)).bind fun y4 =>
 cond (!y4.1) (
  some ((-1), ())) (
  cond (decide (v3 < 0)) (
   some ((-1), ())) (
   cond (decide (4294967296 ≤ v3)) (
    some ((-1), ())) (
    cond (!(decide ((IntKind.wrap .i64 (32 - v2)) < 0))) (
     cond (!(decide ((Int.fdiv (bitop .xor .i64 v3 v1) ((2 : Int) ^ ((min (Int.toNat (IntKind.wrap .i64 (32 - v2))) 64) : Nat))) = 0))) (
      some ((-1), ())) (
      some ((IntKind.wrap .i64 (v3 - v1)), ()))) (
     none))))
noncomputable def f17 (v1 : Int) (v2 : Int) (v3 : Int) (v4 : Int) : Option (Bool × Unit) :=
 ((f15 v1 v2)).bind fun y5 =>
 cond y5.1 (
  ((f15 v3 v4)).bind fun y6 =>
  cond y6.1 (
   ((f16 v1 v2 v3)).bind fun y7 =>
   cond (!(decide (y7.1 = (-1)))) (
    some (true, ())) (
    ((f16 v3 v4 v1)).bind fun y8 =>
    some ((!(decide (y8.1 = (-1)))), ()))) (
   some (false, ()))) (
  some (false, ()))
abbrev X35_3 : Type := (Int × Int × Int × Unit) × (Unit) × (Unit)
abbrev Y35_3 : Type := (Int × Unit) × (Unit) × (Unit)
abbrev Z35_3 : Type := Unit × Unit × Unit
noncomputable def t35_3 (v1 : Int) (v2 : Int) (v3 : Int) : Option (R3 X35_3 Y35_3 Z35_3) :=
 cond (decide (v3 < v1)) (
  some (R3.next ((v1, ((IntKind.wrap .i64 (2 * v2)), ((IntKind.wrap .i64 (v3 + 1)), ()))), ((), ())))) (
  some (R3.out ((v2, ()), ((), ()))))
noncomputable def u35_3 (z : X35_3) : Option (R3 X35_3 Y35_3 Z35_3) := t35_3 z.1.1 z.1.2.1 z.1.2.2.1
noncomputable def f35 (v1 : Int) : Option (Int × Unit) :=
 ((iter big u35_3 ((v1, (1, (0, ()))), ((), ())))).bind fun r => match r with
 | .inl y2 =>
   some (y2.1.1, ())
 | .inr z3 =>
   none
noncomputable def f23 (v1 : Int) (v2 : Int) : Option (Bool × Unit) :=
 cond (decide (0 ≤ v2)) (
  cond (decide (v2 ≤ 32)) (
   cond (decide (0 ≤ v1)) (
    cond (decide (v1 < 4294967296)) (
     ((f35 (IntKind.wrap .i64 (32 - v2)))).bind fun y3 =>
     cond (!(decide (y3.1 = 0))) (
      some ((decide ((Int.tmod v1 y3.1) = 0)), ())) (
      none)) (
     some (false, ()))) (
    some (false, ()))) (
   some (false, ()))) (
  some (false, ()))
noncomputable def f25 (v1 : Int) (v2 : Int) : Option (Int × Unit) :=
 ((f23 v1 v2)).bind fun y3 =>
 cond (!y3.1) (
  some (0, ())) (
  ((f35 (IntKind.wrap .i64 (32 - v2)))).bind fun y4 =>
  some (y4.1, ()))
noncomputable def f20 (v1 : Int) (v2 : Int) (v3 : Int) : Option (Int × (Bool × Unit)) :=
 cond (decide (v3 < 0)) (
  some (0, (false, ()))) (
  ((f25 v1 v2)).bind fun y4 =>
  cond (decide (y4.1 ≤ v3)) (
   some (0, (false, ()))) (
   some ((IntKind.wrap .i64 (v1 + v3)), (true, ()))))
noncomputable def f26 (v1 : Int) (v2 : Int) (v3 : Int) : Option (Int × Unit) :=
 ((f23 v1 v2)).bind fun y4 =>
 cond (!y4.1) (
  some ((-1), ())) (
  cond (decide (v3 < v1)) (
   some ((-1), ())) (
   ((f25 v1 v2)).bind fun y5 =>
   cond (decide ((IntKind.wrap .i64 (v1 + y5.1)) ≤ v3)) (
    some ((-1), ())) (
    some ((IntKind.wrap .i64 (v3 - v1)), ()))))
noncomputable def f24 (v1 : Int) (v2 : Int) (v3 : Int) (v4 : Int) : Option (Bool × Unit) :=
 ((f23 v1 v2)).bind fun y5 =>
 ((f23 v3 v4)).bind fun y6 =>
 cond y5.1 (
  cond y6.1 (
   ((f26 v1 v2 v3)).bind fun y7 =>
   cond (decide (0 ≤ y7.1)) (
    some (true, ())) (
    ((f26 v3 v4 v1)).bind fun y8 =>
    some ((decide (0 ≤ y8.1)), ()))) (
   some (false, ()))) (
  some (false, ()))
abbrev X36_2 : Type := (Int × ByteArray × Unit) × (Unit) × (Unit)
abbrev Y36_2 : Type := (Int × ByteArray × Unit) × (Unit) × (Unit)
abbrev Z36_2 : Type := Unit × Unit × Unit
noncomputable def t36_2 (v1 : Int) (v2 : ByteArray) : Option (R3 X36_2 Y36_2 Z36_2) :=
 cond (decide (10 ≤ v1)) (
  cond (!(decide (9223372036854775807 < ((((bytesStr [(IntKind.wrap .u8 (IntKind.wrap .i64 (48 + (Int.tmod v1 10))))]).size + v2.size) : Nat) : Int)))) (
   some (R3.next (((IntKind.wrap .i64 (Int.tdiv v1 10)), (((bytesStr [(IntKind.wrap .u8 (IntKind.wrap .i64 (48 + (Int.tmod v1 10))))]) ++ v2), ())), ((), ())))) (
   none)) (
  some (R3.out ((v1, (v2, ())), ((), ()))))
noncomputable def u36_2 (z : X36_2) : Option (R3 X36_2 Y36_2 Z36_2) := t36_2 z.1.1 z.1.2.1
noncomputable def f36 (v1 : Int) : Option (ByteArray × Unit) :=
 ((iter big u36_2 ((v1, ((⟨#[]⟩ : ByteArray), ())), ((), ())))).bind fun r => match r with
 | .inl y2 =>
   cond (!(decide (9223372036854775807 < ((((bytesStr [(IntKind.wrap .u8 (IntKind.wrap .i64 (48 + y2.1.1)))]).size + y2.1.2.1.size) : Nat) : Int)))) (
    some (((bytesStr [(IntKind.wrap .u8 (IntKind.wrap .i64 (48 + y2.1.1)))]) ++ y2.1.2.1), ())) (
    none)
 | .inr z3 =>
   none
noncomputable def f27 (v1 : Int) : Option (ByteArray × Unit) :=
 cond (decide (v1 < 0)) (
  some ((⟨#[]⟩ : ByteArray), ())) (
  cond (decide (4294967296 ≤ v1)) (
   some ((⟨#[]⟩ : ByteArray), ())) (
   ((f36 (IntKind.wrap .i64 (Int.tdiv v1 16777216)))).bind fun y2 =>
   cond (!(decide (9223372036854775807 < (((y2.1.size + 1) : Nat) : Int)))) (
    ((f36 (Int.tmod (IntKind.wrap .i64 (Int.tdiv v1 65536)) 256))).bind fun y3 =>
    cond (!(decide (9223372036854775807 < ((((y2.1 ++ (⟨#[46]⟩ : ByteArray)).size + y3.1.size) : Nat) : Int)))) (
     cond (!(decide (9223372036854775807 < (((((y2.1 ++ (⟨#[46]⟩ : ByteArray)) ++ y3.1).size + 1) : Nat) : Int)))) (
      ((f36 (Int.tmod (IntKind.wrap .i64 (Int.tdiv v1 256)) 256))).bind fun y4 =>
      cond (!(decide (9223372036854775807 < ((((((y2.1 ++ (⟨#[46]⟩ : ByteArray)) ++ y3.1) ++ (⟨#[46]⟩ : ByteArray)).size + y4.1.size) : Nat) : Int)))) (
       cond (!(decide (9223372036854775807 < (((((((y2.1 ++ (⟨#[46]⟩ : ByteArray)) ++ y3.1) ++ (⟨#[46]⟩ : ByteArray)) ++ y4.1).size + 1) : Nat) : Int)))) (
        ((f36 (Int.tmod v1 256))).bind fun y5 =>
        cond (!(decide (9223372036854775807 < ((((((((y2.1 ++ (⟨#[46]⟩ : ByteArray)) ++ y3.1) ++ (⟨#[46]⟩ : ByteArray)) ++ y4.1) ++ (⟨#[46]⟩ : ByteArray)).size + y5.1.size) : Nat) : Int)))) (
         some (((((((y2.1 ++ (⟨#[46]⟩ : ByteArray)) ++ y3.1) ++ (⟨#[46]⟩ : ByteArray)) ++ y4.1) ++ (⟨#[46]⟩ : ByteArray)) ++ y5.1), ())) (
         none)) (
        none)) (
       none)) (
      none)) (
     none)) (
    none)))
noncomputable def f28 (v1 : Int) (v2 : Int) : Option (ByteArray × Unit) :=
 ((f23 v1 v2)).bind fun y3 =>
 cond (!y3.1) (
  some ((⟨#[]⟩ : ByteArray), ())) (
  ((f27 v1)).bind fun y4 =>
  cond (!(decide (9223372036854775807 < (((y4.1.size + 1) : Nat) : Int)))) (
   ((f36 v2)).bind fun y5 =>
   cond (!(decide (9223372036854775807 < ((((y4.1 ++ (⟨#[47]⟩ : ByteArray)).size + y5.1.size) : Nat) : Int)))) (
    some (((y4.1 ++ (⟨#[47]⟩ : ByteArray)) ++ y5.1), ())) (
    none)) (
   none))
abbrev X34_3 : Type := (ByteArray × Int × Unit) × (Unit) × ((List Int) × Unit)
abbrev Y34_3 : Type := (Unit) × (Unit) × ((List Int) × Unit)
abbrev Z34_3 : Type := Unit × Unit × Unit
noncomputable def t34_3 (v1 : ByteArray) (v2 : Int) (v3 : (List Int)) : Option (R3 X34_3 Y34_3 Z34_3) :=
 cond (decide (v2 < ((v1.size : Nat) : Int))) (
  cond ((decide (0 ≤ v2)) && (decide (v2 < ((v1.size : Nat) : Int)))) (
   cond (decide (48 ≤ (bt v1 v2))) (
    cond ((decide (0 ≤ v2)) && (decide (v2 < ((v1.size : Nat) : Int)))) (
     cond (decide ((bt v1 v2) ≤ 57)) (
      cond ((decide (0 ≤ (IntKind.wrap .i64 (((v3.length : Nat) : Int) - 1)))) && (decide ((IntKind.wrap .i64 (((v3.length : Nat) : Int) - 1)) < ((v3.length : Nat) : Int)))) (
       cond (decide ((Int.toNat (IntKind.wrap .i64 (((v3.length : Nat) : Int) - 1))) < v3.length)) (
        cond (decide ((rd (.int .i64) v3 (Int.toNat (IntKind.wrap .i64 (((v3.length : Nat) : Int) - 1)))) < 1000)) (
         cond ((decide (0 ≤ (IntKind.wrap .i64 (((v3.length : Nat) : Int) - 1)))) && (decide ((IntKind.wrap .i64 (((v3.length : Nat) : Int) - 1)) < ((v3.length : Nat) : Int)))) (
          cond (decide ((Int.toNat (IntKind.wrap .i64 (((v3.length : Nat) : Int) - 1))) < v3.length)) (
           cond ((decide (0 ≤ v2)) && (decide (v2 < ((v1.size : Nat) : Int)))) (
            cond ((decide (0 ≤ (IntKind.wrap .i64 (((v3.length : Nat) : Int) - 1)))) && (decide ((IntKind.wrap .i64 (((v3.length : Nat) : Int) - 1)) < ((v3.length : Nat) : Int)))) (
             cond (decide ((Int.toNat (IntKind.wrap .i64 (((v3.length : Nat) : Int) - 1))) < v3.length)) (
              some (R3.next ((v1, ((IntKind.wrap .i64 (v2 + 1)), ())), ((), ((v3.set (Int.toNat (IntKind.wrap .i64 (((v3.length : Nat) : Int) - 1))) (IntKind.wrap .i64 ((IntKind.wrap .i64 (10 * (rd (.int .i64) v3 (Int.toNat (IntKind.wrap .i64 (((v3.length : Nat) : Int) - 1)))))) + (IntKind.wrap .i64 (IntKind.wrap .u8 ((bt v1 v2) - 48)))))), ()))))) (
              none)) (
             none)) (
            none)) (
           none)) (
          none)) (
         some (R3.next ((v1, ((IntKind.wrap .i64 (v2 + 1)), ())), ((), (v3, ())))))) (
        none)) (
       none)) (
      cond ((decide (((v3.length + 1) * 8) ≤ 140737488355328)) && (decide ((v3.length + 1) ≤ 9223372036854775807))) (
       some (R3.next ((v1, ((IntKind.wrap .i64 (v2 + 1)), ())), ((), ((v3 ++ [0]), ()))))) (
       none))) (
     none)) (
    cond ((decide (((v3.length + 1) * 8) ≤ 140737488355328)) && (decide ((v3.length + 1) ≤ 9223372036854775807))) (
     some (R3.next ((v1, ((IntKind.wrap .i64 (v2 + 1)), ())), ((), ((v3 ++ [0]), ()))))) (
     none))) (
   none)) (
  some (R3.out ((), ((), (v3, ())))))
noncomputable def u34_3 (z : X34_3) : Option (R3 X34_3 Y34_3 Z34_3) := t34_3 z.1.1 z.1.2.1 z.2.2.1
noncomputable def f34 (v1 : ByteArray) : Option ((List Int) × Unit) :=
 ((iter big u34_3 ((v1, (0, ())), ((), ([0], ()))))).bind fun r => match r with
 | .inl y2 =>
   some (y2.2.2.1, ())
 | .inr z3 =>
   none
noncomputable def f21 (v1 : ByteArray) : Option (Int × (Bool × Unit)) :=
 ((f34 v1)).bind fun y2 =>
 cond (!(decide (((y2.1.length : Nat) : Int) = 4))) (
  some (0, (false, ()))) (
  cond (decide (0 < ((y2.1.length : Nat) : Int))) (
   cond (decide (0 < y2.1.length)) (
    cond (decide (255 < (rd (.int .i64) y2.1 0))) (
     some (0, (false, ()))) (
     cond (decide (1 < ((y2.1.length : Nat) : Int))) (
      cond (decide (1 < y2.1.length)) (
       cond (decide (255 < (rd (.int .i64) y2.1 1))) (
        some (0, (false, ()))) (
        cond (decide (2 < ((y2.1.length : Nat) : Int))) (
         cond (decide (2 < y2.1.length)) (
          cond (decide (255 < (rd (.int .i64) y2.1 2))) (
           some (0, (false, ()))) (
           cond (decide (3 < ((y2.1.length : Nat) : Int))) (
            cond (decide (3 < y2.1.length)) (
             cond (decide (255 < (rd (.int .i64) y2.1 3))) (
              some (0, (false, ()))) (
              cond (decide (0 < ((y2.1.length : Nat) : Int))) (
               cond (decide (0 < y2.1.length)) (
                cond (decide (1 < ((y2.1.length : Nat) : Int))) (
                 cond (decide (1 < y2.1.length)) (
                  cond (decide (2 < ((y2.1.length : Nat) : Int))) (
                   cond (decide (2 < y2.1.length)) (
                    cond (decide (3 < ((y2.1.length : Nat) : Int))) (
                     cond (decide (3 < y2.1.length)) (
                      ((f27 (IntKind.wrap .i64 ((IntKind.wrap .i64 ((IntKind.wrap .i64 ((IntKind.wrap .i64 (16777216 * (rd (.int .i64) y2.1 0))) + (IntKind.wrap .i64 (65536 * (rd (.int .i64) y2.1 1))))) + (IntKind.wrap .i64 (256 * (rd (.int .i64) y2.1 2))))) + (rd (.int .i64) y2.1 3))))).bind fun y3 =>
                      cond (!(y3.1.toList == v1.toList)) (
                       some (0, (false, ()))) (
                       some ((IntKind.wrap .i64 ((IntKind.wrap .i64 ((IntKind.wrap .i64 ((IntKind.wrap .i64 (16777216 * (rd (.int .i64) y2.1 0))) + (IntKind.wrap .i64 (65536 * (rd (.int .i64) y2.1 1))))) + (IntKind.wrap .i64 (256 * (rd (.int .i64) y2.1 2))))) + (rd (.int .i64) y2.1 3))), (true, ())))) (
                      none)) (
                     none)) (
                    none)) (
                   none)) (
                  none)) (
                 none)) (
                none)) (
               none))) (
             none)) (
            none))) (
          none)) (
         none))) (
       none)) (
      none))) (
    none)) (
   none))
noncomputable def f22 (v1 : ByteArray) : Option ((Int × Int) × (Bool × Unit)) :=
 ((f34 v1)).bind fun y2 =>
 cond (!(decide (((y2.1.length : Nat) : Int) = 5))) (
  some ((0, 0), (false, ()))) (
  cond (decide (0 < ((y2.1.length : Nat) : Int))) (
   cond (decide (0 < y2.1.length)) (
    cond (decide (255 < (rd (.int .i64) y2.1 0))) (
     some ((0, 0), (false, ()))) (
     cond (decide (1 < ((y2.1.length : Nat) : Int))) (
      cond (decide (1 < y2.1.length)) (
       cond (decide (255 < (rd (.int .i64) y2.1 1))) (
        some ((0, 0), (false, ()))) (
        cond (decide (2 < ((y2.1.length : Nat) : Int))) (
         cond (decide (2 < y2.1.length)) (
          cond (decide (255 < (rd (.int .i64) y2.1 2))) (
           some ((0, 0), (false, ()))) (
           cond (decide (3 < ((y2.1.length : Nat) : Int))) (
            cond (decide (3 < y2.1.length)) (
             cond (decide (255 < (rd (.int .i64) y2.1 3))) (
              some ((0, 0), (false, ()))) (
              cond (decide (0 < ((y2.1.length : Nat) : Int))) (
               cond (decide (0 < y2.1.length)) (
                cond (decide (1 < ((y2.1.length : Nat) : Int))) (
                 cond (decide (1 < y2.1.length)) (
                  cond (decide (2 < ((y2.1.length : Nat) : Int))) (
                   cond (decide (2 < y2.1.length)) (
                    cond (decide (3 < ((y2.1.length : Nat) : Int))) (
                     cond (decide (3 < y2.1.length)) (
                      cond (decide (4 < ((y2.1.length : Nat) : Int))) (
                       cond (decide (4 < y2.1.length)) (
                        cond (v1.toList == (⟨#[]⟩ : ByteArray).toList) (
                         some ((0, 0), (false, ()))) (
                         ((f28 (IntKind.wrap .i64 ((IntKind.wrap .i64 ((IntKind.wrap .i64 ((IntKind.wrap .i64 (16777216 * (rd (.int .i64) y2.1 0))) + (IntKind.wrap .i64 (65536 * (rd (.int .i64) y2.1 1))))) + (IntKind.wrap .i64 (256 * (rd (.int .i64) y2.1 2))))) + (rd (.int .i64) y2.1 3))) (rd (.int .i64) y2.1 4))).bind fun y3 =>
                         cond (!(y3.1.toList == v1.toList)) (
                          some ((0, 0), (false, ()))) (
                          some (((IntKind.wrap .i64 ((IntKind.wrap .i64 ((IntKind.wrap .i64 ((IntKind.wrap .i64 (16777216 * (rd (.int .i64) y2.1 0))) + (IntKind.wrap .i64 (65536 * (rd (.int .i64) y2.1 1))))) + (IntKind.wrap .i64 (256 * (rd (.int .i64) y2.1 2))))) + (rd (.int .i64) y2.1 3))), (rd (.int .i64) y2.1 4)), (true, ()))))) (
                        none)) (
                       none)) (
                      none)) (
                     none)) (
                    none)) (
                   none)) (
                  none)) (
                 none)) (
                none)) (
               none))) (
             none)) (
            none))) (
          none)) (
         none))) (
       none)) (
      none))) (
    none)) (
   none))
noncomputable def f38 (v1 : Int) : Option (Bool × Unit) :=
 cond (decide (48 ≤ v1)) (
  some ((decide (v1 ≤ 57)), ())) (
  some (false, ()))
abbrev X30_3 : Type := (ByteArray × Int × Int × Unit × Unit) × ((ByteArray × Nat) × Unit) × (Unit)
abbrev Y30_3 : Type := (ByteArray × Int × Int × Unit) × (Unit) × (Unit)
abbrev Z30_3 : Type := (Int × Bool × Unit) × (Unit) × (Unit)
noncomputable def t30_3 (v1 : ByteArray) (v2 : Int) (v3 : Int) (v4 : ByteArray) (v5 : Nat) : Option (R3 X30_3 Y30_3 Z30_3) :=
 cond (decide (v5 < v4.size)) (
  ((f38 (((Utf8.decode v4 v5).1 : Nat) : Int))).bind fun y6 =>
  cond (!y6.1) (
   some (R3.ret ((0, (false, ())), ((), ())))) (
   cond (decide (3 ≤ ((v5 : Nat) : Int))) (
    some (R3.ret ((0, (false, ())), ((), ())))) (
    cond (decide (0 < ((v5 : Nat) : Int))) (
     cond (decide (0 < ((v1.size : Nat) : Int))) (
      cond (decide ((bt v1 0) = 48)) (
       some (R3.ret ((0, (false, ())), ((), ())))) (
       some (R3.next ((v1, (v2, ((IntKind.wrap .i64 ((IntKind.wrap .i64 (10 * v3)) + (IntKind.wrap .i64 (IntKind.wrap .i32 ((((Utf8.decode v4 v5).1 : Nat) : Int) - 48))))), ((), ())))), (((v4, (v5 + (Utf8.decode v4 v5).2)), ()), ()))))) (
      none)) (
     some (R3.next ((v1, (v2, ((IntKind.wrap .i64 ((IntKind.wrap .i64 (10 * v3)) + (IntKind.wrap .i64 (IntKind.wrap .i32 ((((Utf8.decode v4 v5).1 : Nat) : Int) - 48))))), ((), ())))), (((v4, (v5 + (Utf8.decode v4 v5).2)), ()), ()))))))) (
  some (R3.out ((v1, (v2, (v3, ()))), ((), ()))))
noncomputable def u30_3 (z : X30_3) : Option (R3 X30_3 Y30_3 Z30_3) := t30_3 z.1.1 z.1.2.1 z.1.2.2.1 z.2.1.1.1 z.2.1.1.2
noncomputable def f30 (v1 : ByteArray) (v2 : Int) : Option (Int × (Bool × Unit)) :=
 ((iter big u30_3 ((v1, (v2, (0, ((), ())))), (((v1, 0), ()), ())))).bind fun r => match r with
 | .inl y3 =>
   cond (!(y3.1.1.toList == (⟨#[]⟩ : ByteArray).toList)) (
    some (y3.1.2.2.1, ((decide (y3.1.2.2.1 ≤ y3.1.2.1)), ()))) (
    some (y3.1.2.2.1, (false, ())))
 | .inr z4 =>
   some (z4.1.1, (z4.1.2.1, ()))
abbrev X12_5 : Type := (Int × Int × Unit) × (Unit) × ((List ByteArray) × Unit)
abbrev Y12_5 : Type := (Unit) × (Unit) × ((List ByteArray) × Unit)
abbrev Z12_5 : Type := Unit × Unit × Unit
noncomputable def t12_5 (v1 : Int) (v2 : Int) (v3 : (List ByteArray)) : Option (R3 X12_5 Y12_5 Z12_5) :=
 cond (decide (v2 < 4)) (
  cond (!(decide ((IntKind.wrap .i64 (24 - (IntKind.wrap .i64 (8 * v2)))) < 0))) (
   ((fItoa (bitop .and .i64 (Int.fdiv v1 ((2 : Int) ^ ((min (Int.toNat (IntKind.wrap .i64 (24 - (IntKind.wrap .i64 (8 * v2))))) 64) : Nat))) 255))).bind fun y4 =>
   cond ((decide (((v3.length + 1) * 16) ≤ 140737488355328)) && (decide ((v3.length + 1) ≤ 9223372036854775807))) (
    some (R3.next ((v1, ((IntKind.wrap .i64 (v2 + 1)), ())), ((), ((v3 ++ [y4.1]), ()))))) (
    none)) (
   none)) (
  some (R3.out ((), ((), (v3, ())))))
noncomputable def u12_5 (z : X12_5) : Option (R3 X12_5 Y12_5 Z12_5) := t12_5 z.1.1 z.1.2.1 z.2.2.1
noncomputable def f12 (v1 : Int) : Option (ByteArray × Unit) :=
 cond (decide (v1 < 0)) (
  some ((⟨#[]⟩ : ByteArray), ())) (
  cond (decide (4294967296 ≤ v1)) (
   some ((⟨#[]⟩ : ByteArray), ())) (
   ((iter big u12_5 ((v1, (0, ())), ((), ([], ()))))).bind fun r => match r with
   | .inl y2 =>
     ((fJoin y2.2.2.1 (⟨#[46]⟩ : ByteArray))).bind fun y4 =>
     some (y4.1, ())
   | .inr z3 =>
     none))
noncomputable def f14 (v1 : Int) (v2 : Int) : Option (ByteArray × Unit) :=
 ((f15 v1 v2)).bind fun y3 =>
 cond (!y3.1) (
  some ((⟨#[]⟩ : ByteArray), ())) (
  ((f12 v1)).bind fun y4 =>
  cond (!(decide (9223372036854775807 < (((y4.1.size + 1) : Nat) : Int)))) (
   ((fItoa v2)).bind fun y5 =>
   cond (!(decide (9223372036854775807 < ((((y4.1 ++ (⟨#[47]⟩ : ByteArray)).size + y5.1.size) : Nat) : Int)))) (
    some (((y4.1 ++ (⟨#[47]⟩ : ByteArray)) ++ y5.1), ())) (
    none)) (
   none))
abbrev X11_6 : Type := (Int × Int × Int × Unit) × (Unit) × ((List ByteArray) × Unit)
abbrev Y11_6 : Type := (Int × Unit) × (Unit) × (Unit)
abbrev Z11_6 : Type := (Int × Bool × Unit) × (Unit) × (Unit)
noncomputable def t11_6 (v1 : Int) (v2 : Int) (v3 : Int) (v4 : (List ByteArray)) : Option (R3 X11_6 Y11_6 Z11_6) :=
 cond (decide (v3 < v2)) (
  cond ((decide (0 ≤ v3)) && (decide (v3 < ((v4.length : Nat) : Int)))) (
   cond (decide ((Int.toNat v3) < v4.length)) (
    ((f30 (rd .str v4 (Int.toNat v3)) 255)).bind fun y5 =>
    cond (!y5.2.1) (
     some (R3.ret ((0, (false, ())), ((), ())))) (
     some (R3.next (((bitop .or .i64 (IntKind.wrap .i64 (v1 * 256)) y5.1), (v2, ((IntKind.wrap .i64 (v3 + 1)), ()))), ((), (v4, ())))))) (
    none)) (
   none)) (
  some (R3.out ((v1, ()), ((), ()))))
noncomputable def u11_6 (z : X11_6) : Option (R3 X11_6 Y11_6 Z11_6) := t11_6 z.1.1 z.1.2.1 z.1.2.2.1 z.2.2.1
noncomputable def f11 (v1 : ByteArray) : Option (Int × (Bool × Unit)) :=
 ((fSplit v1 (⟨#[46]⟩ : ByteArray))).bind fun y2 =>
 cond (!(decide (((y2.1.length : Nat) : Int) = 4))) (
  some (0, (false, ()))) (
  ((iter big u11_6 ((0, (((y2.1.length : Nat) : Int), (0, ()))), ((), (y2.1, ()))))).bind fun r => match r with
  | .inl y3 =>
    some (y3.1.1, (true, ()))
  | .inr z4 =>
    some (z4.1.1, (z4.1.2.1, ())))
noncomputable def f13 (v1 : ByteArray) : Option ((Int × Int) × (Bool × Unit)) :=
 ((fCut v1 (⟨#[47]⟩ : ByteArray))).bind fun y2 =>
 ((f11 y2.1)).bind fun y3 =>
 ((f30 y2.2.1 32)).bind fun y4 =>
 cond (!y3.2.1) (
  some ((0, 0), (false, ()))) (
  cond (!y4.2.1) (
   some ((0, 0), (false, ()))) (
   ((f15 y3.1 y4.1)).bind fun y5 =>
   cond (!y5.1) (
    some ((0, 0), (false, ()))) (
    some ((y3.1, y4.1), (true, ())))))
noncomputable def f10  : Option (Bool × Unit) :=
 ((f13 (⟨#[49, 48, 46, 48, 46, 48, 46, 48, 47, 50, 55]⟩ : ByteArray))).bind fun y1 =>
 ((f11 (⟨#[49, 48, 46, 48, 46, 48, 46, 48]⟩ : ByteArray))).bind fun y2 =>
 ((f11 (⟨#[48, 49, 48, 46, 48, 46, 48, 46, 49]⟩ : ByteArray))).bind fun y3 =>
 cond y1.2.1 (
  cond (decide (y1.1.2 = 27)) (
   cond y2.2.1 (
    cond (decide (y2.1 = 167772160)) (
     cond (decide (y1.1.1 = y2.1)) (
      cond (!y3.2.1) (
       ((f18 y1.1.1 y1.1.2)).bind fun y4 =>
       cond (decide (y4.1 = 32)) (
        ((f15 y1.1.1 y1.1.2)).bind fun y5 =>
        cond y5.1 (
         ((f16 y1.1.1 y1.1.2 y2.1)).bind fun y6 =>
         cond (decide (y6.1 = 0)) (
          ((f12 y2.1)).bind fun y7 =>
          cond (y7.1.toList == (⟨#[49, 48, 46, 48, 46, 48, 46, 48]⟩ : ByteArray).toList) (
           ((f14 y1.1.1 y1.1.2)).bind fun y8 =>
           cond (y8.1.toList == (⟨#[49, 48, 46, 48, 46, 48, 46, 48, 47, 50, 55]⟩ : ByteArray).toList) (
            ((f17 y1.1.1 y1.1.2 y1.1.1 y1.1.2)).bind fun y9 =>
            some (y9.1, ())) (
            some (false, ()))) (
           some (false, ()))) (
          some (false, ()))) (
         some (false, ()))) (
        some (false, ()))) (
       some (false, ()))) (
      some (false, ()))) (
     some (false, ()))) (
    some (false, ()))) (
   some (false, ()))) (
  some (false, ()))
noncomputable def f3 (v1 : Int) (v2 : Int) (v3 : Int) (v4 : ByteArray) : Option (Bool × Unit) :=
 (f10).bind fun y5 =>
 cond (!y5.1) (
  some (y5.1, ())) (
  cond (decide (60 < ((v4.size : Nat) : Int))) (
   some (y5.1, ())) (
   ((f12 v3)).bind fun y6 =>
   ((f11 y6.1)).bind fun y7 =>
   ((f14 v1 v2)).bind fun y8 =>
   ((f13 y8.1)).bind fun y9 =>
   cond (decide (0 ≤ v3)) (
    cond (!(y7.2.1 == (decide (v3 < 4294967296)))) (
     some (false, ())) (
     cond y7.2.1 (
      cond (!(decide (y7.1 = v3))) (
       some (false, ())) (
       ((f15 v1 v2)).bind fun y10 =>
       cond (!(y9.2.1 == y10.1)) (
        some (false, ())) (
        cond y9.2.1 (
         cond (!((decide (y9.1.1 = v1)) && ((decide (y9.1.2 = v2)) && true))) (
          some (false, ())) (
          ((f11 v4)).bind fun y11 =>
          ((f13 v4)).bind fun y12 =>
          cond (!y11.2.1) (
           cond (!y12.2.1) (
            some (true, ())) (
            ((f14 y12.1.1 y12.1.2)).bind fun y13 =>
            cond (y13.1.toList == v4.toList) (
             ((f15 y12.1.1 y12.1.2)).bind fun y14 =>
             some (y14.1, ())) (
             some (false, ())))) (
           ((f12 y11.1)).bind fun y15 =>
           cond (y15.1.toList == v4.toList) (
            cond (!y12.2.1) (
             some (true, ())) (
             ((f14 y12.1.1 y12.1.2)).bind fun y16 =>
             cond (y16.1.toList == v4.toList) (
              ((f15 y12.1.1 y12.1.2)).bind fun y17 =>
              some (y17.1, ())) (
              some (false, ())))) (
            some (false, ()))))) (
         ((f11 v4)).bind fun y18 =>
         ((f13 v4)).bind fun y19 =>
         cond (!y18.2.1) (
          cond (!y19.2.1) (
           some (true, ())) (
           ((f14 y19.1.1 y19.1.2)).bind fun y20 =>
           cond (y20.1.toList == v4.toList) (
            ((f15 y19.1.1 y19.1.2)).bind fun y21 =>
            some (y21.1, ())) (
            some (false, ())))) (
          ((f12 y18.1)).bind fun y22 =>
          cond (y22.1.toList == v4.toList) (
           cond (!y19.2.1) (
            some (true, ())) (
            ((f14 y19.1.1 y19.1.2)).bind fun y23 =>
            cond (y23.1.toList == v4.toList) (
             ((f15 y19.1.1 y19.1.2)).bind fun y24 =>
             some (y24.1, ())) (
             some (false, ())))) (
           some (false, ()))))))) (
      ((f15 v1 v2)).bind fun y25 =>
      cond (!(y9.2.1 == y25.1)) (
       some (false, ())) (
       cond y9.2.1 (
        cond (!((decide (y9.1.1 = v1)) && ((decide (y9.1.2 = v2)) && true))) (
         some (false, ())) (
         ((f11 v4)).bind fun y26 =>
         ((f13 v4)).bind fun y27 =>
         cond (!y26.2.1) (
          cond (!y27.2.1) (
           some (true, ())) (
           ((f14 y27.1.1 y27.1.2)).bind fun y28 =>
           cond (y28.1.toList == v4.toList) (
            ((f15 y27.1.1 y27.1.2)).bind fun y29 =>
            some (y29.1, ())) (
            some (false, ())))) (
          ((f12 y26.1)).bind fun y30 =>
          cond (y30.1.toList == v4.toList) (
           cond (!y27.2.1) (
            some (true, ())) (
            ((f14 y27.1.1 y27.1.2)).bind fun y31 =>
            cond (y31.1.toList == v4.toList) (
             ((f15 y27.1.1 y27.1.2)).bind fun y32 =>
             some (y32.1, ())) (
             some (false, ())))) (
           some (false, ()))))) (
        ((f11 v4)).bind fun y33 =>
        ((f13 v4)).bind fun y34 =>
        cond (!y33.2.1) (
         cond (!y34.2.1) (
          some (true, ())) (
          ((f14 y34.1.1 y34.1.2)).bind fun y35 =>
          cond (y35.1.toList == v4.toList) (
           ((f15 y34.1.1 y34.1.2)).bind fun y36 =>
           some (y36.1, ())) (
           some (false, ())))) (
         ((f12 y33.1)).bind fun y37 =>
         cond (y37.1.toList == v4.toList) (
          cond (!y34.2.1) (
           some (true, ())) (
           ((f14 y34.1.1 y34.1.2)).bind fun y38 =>
           cond (y38.1.toList == v4.toList) (
            ((f15 y34.1.1 y34.1.2)).bind fun y39 =>
            some (y39.1, ())) (
            some (false, ())))) (
          some (false, ())))))))) (
    cond (!(y7.2.1 == false)) (
     some (false, ())) (
     cond y7.2.1 (
      cond (!(decide (y7.1 = v3))) (
       some (false, ())) (
       ((f15 v1 v2)).bind fun y40 =>
       cond (!(y9.2.1 == y40.1)) (
        some (false, ())) (
        cond y9.2.1 (
         cond (!((decide (y9.1.1 = v1)) && ((decide (y9.1.2 = v2)) && true))) (
          some (false, ())) (
          ((f11 v4)).bind fun y41 =>
          ((f13 v4)).bind fun y42 =>
          cond (!y41.2.1) (
           cond (!y42.2.1) (
            some (true, ())) (
            ((f14 y42.1.1 y42.1.2)).bind fun y43 =>
            cond (y43.1.toList == v4.toList) (
             ((f15 y42.1.1 y42.1.2)).bind fun y44 =>
             some (y44.1, ())) (
             some (false, ())))) (
           ((f12 y41.1)).bind fun y45 =>
           cond (y45.1.toList == v4.toList) (
            cond (!y42.2.1) (
             some (true, ())) (
             ((f14 y42.1.1 y42.1.2)).bind fun y46 =>
             cond (y46.1.toList == v4.toList) (
              ((f15 y42.1.1 y42.1.2)).bind fun y47 =>
              some (y47.1, ())) (
              some (false, ())))) (
            some (false, ()))))) (
         ((f11 v4)).bind fun y48 =>
         ((f13 v4)).bind fun y49 =>
         cond (!y48.2.1) (
          cond (!y49.2.1) (
           some (true, ())) (
           ((f14 y49.1.1 y49.1.2)).bind fun y50 =>
           cond (y50.1.toList == v4.toList) (
            ((f15 y49.1.1 y49.1.2)).bind fun y51 =>
            some (y51.1, ())) (
            some (false, ())))) (
          ((f12 y48.1)).bind fun y52 =>
          cond (y52.1.toList == v4.toList) (
           cond (!y49.2.1) (
            some (true, ())) (
            ((f14 y49.1.1 y49.1.2)).bind fun y53 =>
            cond (y53.1.toList == v4.toList) (
             ((f15 y49.1.1 y49.1.2)).bind fun y54 =>
             some (y54.1, ())) (
             some (false, ())))) (
           some (false, ()))))))) (
      ((f15 v1 v2)).bind fun y55 =>
      cond (!(y9.2.1 == y55.1)) (
       some (false, ())) (
       cond y9.2.1 (
        cond (!((decide (y9.1.1 = v1)) && ((decide (y9.1.2 = v2)) && true))) (
         some (false, ())) (
         ((f11 v4)).bind fun y56 =>
         ((f13 v4)).bind fun y57 =>
         cond (!y56.2.1) (
          cond (!y57.2.1) (
           some (true, ())) (
           ((f14 y57.1.1 y57.1.2)).bind fun y58 =>
           cond (y58.1.toList == v4.toList) (
            ((f15 y57.1.1 y57.1.2)).bind fun y59 =>
            some (y59.1, ())) (
            some (false, ())))) (
          ((f12 y56.1)).bind fun y60 =>
          cond (y60.1.toList == v4.toList) (
           cond (!y57.2.1) (
            some (true, ())) (
            ((f14 y57.1.1 y57.1.2)).bind fun y61 =>
            cond (y61.1.toList == v4.toList) (
             ((f15 y57.1.1 y57.1.2)).bind fun y62 =>
             some (y62.1, ())) (
             some (false, ())))) (
           some (false, ()))))) (
        ((f11 v4)).bind fun y63 =>
        ((f13 v4)).bind fun y64 =>
        cond (!y63.2.1) (
         cond (!y64.2.1) (
          some (true, ())) (
          ((f14 y64.1.1 y64.1.2)).bind fun y65 =>
          cond (y65.1.toList == v4.toList) (
           ((f15 y64.1.1 y64.1.2)).bind fun y66 =>
           some (y66.1, ())) (
           some (false, ())))) (
         ((f12 y63.1)).bind fun y67 =>
         cond (y67.1.toList == v4.toList) (
          cond (!y64.2.1) (
           some (true, ())) (
           ((f14 y64.1.1 y64.1.2)).bind fun y68 =>
           cond (y68.1.toList == v4.toList) (
            ((f15 y64.1.1 y64.1.2)).bind fun y69 =>
            some (y69.1, ())) (
            some (false, ())))) (
          some (false, ()))))))))))
noncomputable def f4 (v1 : Int) (v2 : Int) (v3 : Int) (v4 : Int) (v5 : Int) : Option (Bool × Unit) :=
 (f10).bind fun y6 =>
 ((f16 v1 v2 v5)).bind fun y7 =>
 ((f16 v3 v4 v5)).bind fun y8 =>
 ((f17 v1 v2 v3 v4)).bind fun y9 =>
 cond (!y6.1) (
  some (false, ())) (
  ((f17 v3 v4 v1 v2)).bind fun y10 =>
  cond (!(y9.1 == y10.1)) (
   some (false, ())) (
   cond (decide (0 ≤ y7.1)) (
    cond (decide (0 ≤ y8.1)) (
     cond (!y9.1) (
      some (false, ())) (
      ((f15 v1 v2)).bind fun y11 =>
      cond (!y11.1) (
       cond y9.1 (
        some (false, ())) (
        cond (!y9.1) (
         some (true, ())) (
         cond (decide (v4 < v2)) (
          some (true, ())) (
          cond (!(decide (0 ≤ y8.1))) (
           some (true, ())) (
           some ((decide (0 ≤ y7.1)), ())))))) (
       cond (!y9.1) (
        some (true, ())) (
        cond (decide (v4 < v2)) (
         some (true, ())) (
         cond (!(decide (0 ≤ y8.1))) (
          some (true, ())) (
          some ((decide (0 ≤ y7.1)), ()))))))) (
     ((f15 v1 v2)).bind fun y12 =>
     cond (!y12.1) (
      cond y9.1 (
       some (false, ())) (
       cond (!y9.1) (
        some (true, ())) (
        cond (decide (v4 < v2)) (
         some (true, ())) (
         cond (!(decide (0 ≤ y8.1))) (
          some (true, ())) (
          some ((decide (0 ≤ y7.1)), ())))))) (
      cond (!y9.1) (
       some (true, ())) (
       cond (decide (v4 < v2)) (
        some (true, ())) (
        cond (!(decide (0 ≤ y8.1))) (
         some (true, ())) (
         some ((decide (0 ≤ y7.1)), ()))))))) (
    ((f15 v1 v2)).bind fun y13 =>
    cond (!y13.1) (
     cond y9.1 (
      some (false, ())) (
      cond (!y9.1) (
       some (true, ())) (
       cond (decide (v4 < v2)) (
        some (true, ())) (
        cond (!(decide (0 ≤ y8.1))) (
         some (true, ())) (
         some ((decide (0 ≤ y7.1)), ())))))) (
     cond (!y9.1) (
      some (true, ())) (
      cond (decide (v4 < v2)) (
       some (true, ())) (
       cond (!(decide (0 ≤ y8.1))) (
        some (true, ())) (
        some ((decide (0 ≤ y7.1)), ()))))))))
noncomputable def f5 (v1 : Int) (v2 : Int) : Option (Bool × Unit) :=
 (f10).bind fun y3 =>
 ((f18 v1 v2)).bind fun y4 =>
 cond (!y3.1) (
  some (false, ())) (
  ((f15 v1 v2)).bind fun y5 =>
  cond (!((decide (0 < y4.1)) == y5.1)) (
   some (false, ())) (
   cond (decide (y4.1 < 0)) (
    some (false, ())) (
    cond (decide (y4.1 = 0)) (
     some (true, ())) (
     cond (!(decide (y4.1 = 0))) (
      cond (decide ((Int.tmod 4294967296 y4.1) = 0)) (
       cond (!(decide (y4.1 = 0))) (
        cond (decide ((Int.tmod v1 y4.1) = 0)) (
         cond (decide (v2 = 32)) (
          some (true, ())) (
          ((f18 v1 (IntKind.wrap .i64 (v2 + 1)))).bind fun y6 =>
          cond (decide (y6.1 = (IntKind.wrap .i64 (Int.tdiv y4.1 2)))) (
           ((f17 v1 v2 v1 (IntKind.wrap .i64 (v2 + 1)))).bind fun y7 =>
           some (y7.1, ())) (
           some (false, ())))) (
         some (false, ()))) (
        none)) (
       some (false, ()))) (
      none)))))
noncomputable def f6 (v1 : Int) (v2 : Int) (v3 : Int) (v4 : Int) (v5 : Int) (v6 : Int) : Option (Bool × Unit) :=
 (f10).bind fun y7 =>
 ((f12 v5)).bind fun y8 =>
 ((f12 v6)).bind fun y9 =>
 ((f14 v1 v2)).bind fun y10 =>
 ((f14 v3 v4)).bind fun y11 =>
 cond (!y7.1) (
  some (false, ())) (
  cond (!(y8.1.toList == (⟨#[]⟩ : ByteArray).toList)) (
   cond (!(y9.1.toList == (⟨#[]⟩ : ByteArray).toList)) (
    cond (!((y8.1.toList == y9.1.toList) == (decide (v5 = v6)))) (
     some (false, ())) (
     cond (!(y10.1.toList == (⟨#[]⟩ : ByteArray).toList)) (
      cond (!(y11.1.toList == (⟨#[]⟩ : ByteArray).toList)) (
       cond (!((y10.1.toList == y11.1.toList) == ((decide (v1 = v3)) && ((decide (v2 = v4)) && true)))) (
        some (false, ())) (
        ((f13 y8.1)).bind fun y12 =>
        ((f11 y10.1)).bind fun y13 =>
        cond (!y12.2.1) (
         some ((!y13.2.1), ())) (
         some (false, ())))) (
       ((f13 y8.1)).bind fun y14 =>
       ((f11 y10.1)).bind fun y15 =>
       cond (!y14.2.1) (
        some ((!y15.2.1), ())) (
        some (false, ())))) (
      ((f13 y8.1)).bind fun y16 =>
      ((f11 y10.1)).bind fun y17 =>
      cond (!y16.2.1) (
       some ((!y17.2.1), ())) (
       some (false, ()))))) (
    cond (!(y10.1.toList == (⟨#[]⟩ : ByteArray).toList)) (
     cond (!(y11.1.toList == (⟨#[]⟩ : ByteArray).toList)) (
      cond (!((y10.1.toList == y11.1.toList) == ((decide (v1 = v3)) && ((decide (v2 = v4)) && true)))) (
       some (false, ())) (
       ((f13 y8.1)).bind fun y18 =>
       ((f11 y10.1)).bind fun y19 =>
       cond (!y18.2.1) (
        some ((!y19.2.1), ())) (
        some (false, ())))) (
      ((f13 y8.1)).bind fun y20 =>
      ((f11 y10.1)).bind fun y21 =>
      cond (!y20.2.1) (
       some ((!y21.2.1), ())) (
       some (false, ())))) (
     ((f13 y8.1)).bind fun y22 =>
     ((f11 y10.1)).bind fun y23 =>
     cond (!y22.2.1) (
      some ((!y23.2.1), ())) (
      some (false, ()))))) (
   cond (!(y10.1.toList == (⟨#[]⟩ : ByteArray).toList)) (
    cond (!(y11.1.toList == (⟨#[]⟩ : ByteArray).toList)) (
     cond (!((y10.1.toList == y11.1.toList) == ((decide (v1 = v3)) && ((decide (v2 = v4)) && true)))) (
      some (false, ())) (
      ((f13 y8.1)).bind fun y24 =>
      ((f11 y10.1)).bind fun y25 =>
      cond (!y24.2.1) (
       some ((!y25.2.1), ())) (
       some (false, ())))) (
     ((f13 y8.1)).bind fun y26 =>
     ((f11 y10.1)).bind fun y27 =>
     cond (!y26.2.1) (
      some ((!y27.2.1), ())) (
      some (false, ())))) (
    ((f13 y8.1)).bind fun y28 =>
    ((f11 y10.1)).bind fun y29 =>
    cond (!y28.2.1) (
     some ((!y29.2.1), ())) (
     some (false, ())))))
abbrev X7_6 : Type := (Int × Bool × ByteArray × ByteArray × Int × Int × Unit) × (Unit) × (Unit)
abbrev Y7_6 : Type := (Int × Bool × ByteArray × ByteArray × Int × Unit) × (Unit) × (Unit)
abbrev Z7_6 : Type := Unit × Unit × Unit
noncomputable def t7_6 (v1 : Int) (v2 : Bool) (v3 : ByteArray) (v4 : ByteArray) (v5 : Int) (v6 : Int) : Option (R3 X7_6 Y7_6 Z7_6) :=
 cond (decide (v6 < ((v3.size : Nat) : Int))) (
  cond ((decide (0 ≤ v6)) && (decide (v6 < ((v3.size : Nat) : Int)))) (
   cond (decide ((bt v3 v6) = 46)) (
    some (R3.next ((v1, (v2, (v3, (v4, ((IntKind.wrap .i64 (v5 + 1)), ((IntKind.wrap .i64 (v6 + 1)), ())))))), ((), ())))) (
    some (R3.next ((v1, (v2, (v3, (v4, (v5, ((IntKind.wrap .i64 (v6 + 1)), ())))))), ((), ()))))) (
   none)) (
  some (R3.out ((v1, (v2, (v3, (v4, (v5, ()))))), ((), ()))))
noncomputable def u7_6 (z : X7_6) : Option (R3 X7_6 Y7_6 Z7_6) := t7_6 z.1.1 z.1.2.1 z.1.2.2.1 z.1.2.2.2.1 z.1.2.2.2.2.1 z.1.2.2.2.2.2.1
noncomputable def f7 (v1 : Int) (v2 : Int) (v3 : Int) : Option (Bool × Unit) :=
 (f10).bind fun y4 =>
 ((f12 v1)).bind fun y5 =>
 ((f14 v2 v3)).bind fun y6 =>
 ((iter big u7_6 ((v1, (y4.1, (y5.1, (y6.1, (0, (0, ())))))), ((), ())))).bind fun r => match r with
 | .inl y7 =>
   cond y7.1.2.1 (
    cond (y7.1.2.2.1.toList == (⟨#[]⟩ : ByteArray).toList) (
     cond (decide (((y7.1.2.2.2.1.size : Nat) : Int) ≤ 18)) (
      cond (decide (y7.1.1 < 0)) (
       some (((y7.1.2.2.1.toList == (⟨#[]⟩ : ByteArray).toList) == true), ())) (
       some (((y7.1.2.2.1.toList == (⟨#[]⟩ : ByteArray).toList) == (decide (4294967296 ≤ y7.1.1))), ()))) (
      some (false, ()))) (
     cond (decide (7 ≤ ((y7.1.2.2.1.size : Nat) : Int))) (
      cond (decide (((y7.1.2.2.1.size : Nat) : Int) ≤ 15)) (
       cond (decide (y7.1.2.2.2.2.1 = 3)) (
        cond (decide (((y7.1.2.2.2.1.size : Nat) : Int) ≤ 18)) (
         cond (decide (y7.1.1 < 0)) (
          some (((y7.1.2.2.1.toList == (⟨#[]⟩ : ByteArray).toList) == true), ())) (
          some (((y7.1.2.2.1.toList == (⟨#[]⟩ : ByteArray).toList) == (decide (4294967296 ≤ y7.1.1))), ()))) (
         some (false, ()))) (
        some (false, ()))) (
       some (false, ()))) (
      some (false, ())))) (
    some (false, ()))
 | .inr z8 =>
   none
noncomputable def f8 (v1 : Int) (v2 : Int) (v3 : Int) (v4 : Int) (v5 : Int) (v6 : Int) (v7 : ByteArray) : Option (Bool × Unit) :=
 (f10).bind fun y8 =>
 cond (!y8.1) (
  some (y8.1, ())) (
  cond (decide (60 < ((v7.size : Nat) : Int))) (
   some (y8.1, ())) (
   ((f19 v1 v2 v5)).bind fun y9 =>
   ((f20 v1 v2 v5)).bind fun y10 =>
   ((f11 v7)).bind fun y11 =>
   ((f21 v7)).bind fun y12 =>
   ((f13 v7)).bind fun y13 =>
   ((f22 v7)).bind fun y14 =>
   ((f23 v1 v2)).bind fun y15 =>
   ((f24 v1 v2 v3 v4)).bind fun y16 =>
   cond (!(decide (y9.1 = y10.1))) (
    some (false, ())) (
    cond (!(y9.2.1 == y10.2.1)) (
     some (false, ())) (
     cond (!(decide (y11.1 = y12.1))) (
      some (false, ())) (
      cond (!(y11.2.1 == y12.2.1)) (
       some (false, ())) (
       cond (!((decide (y13.1.1 = y14.1.1)) && ((decide (y13.1.2 = y14.1.2)) && true))) (
        some (false, ())) (
        cond (!(y13.2.1 == y14.2.1)) (
         some (false, ())) (
         ((f15 v1 v2)).bind fun y17 =>
         cond (!(y17.1 == y15.1)) (
          some (false, ())) (
          ((f17 v1 v2 v3 v4)).bind fun y18 =>
          cond (!(y18.1 == y16.1)) (
           some (false, ())) (
           ((f18 v1 v2)).bind fun y19 =>
           ((f25 v1 v2)).bind fun y20 =>
           cond (decide (y19.1 = y20.1)) (
            ((f16 v1 v2 v6)).bind fun y21 =>
            ((f26 v1 v2 v6)).bind fun y22 =>
            cond (decide (y21.1 = y22.1)) (
             ((f12 v6)).bind fun y23 =>
             ((f27 v6)).bind fun y24 =>
             cond (y23.1.toList == y24.1.toList) (
              ((f14 v1 v2)).bind fun y25 =>
              ((f28 v1 v2)).bind fun y26 =>
              some ((y25.1.toList == y26.1.toList), ())) (
              some (false, ()))) (
             some (false, ()))) (
            some (false, ()))))))))))))
noncomputable def f9 (v1 : Int) (v2 : Int) (v3 : Int) (v4 : Int) : Option (Bool × Unit) :=
 (f10).bind fun y5 =>
 ((f19 v1 v2 v3)).bind fun y6 =>
 cond (!y5.1) (
  some (false, ())) (
  cond (decide (0 ≤ v3)) (
   ((f18 v1 v2)).bind fun y7 =>
   cond (!(y6.2.1 == (decide (v3 < y7.1)))) (
    some (false, ())) (
    cond y6.2.1 (
     ((f16 v1 v2 y6.1)).bind fun y8 =>
     cond (!(decide (y8.1 = v3))) (
      some (false, ())) (
      cond (!(decide ((IntKind.wrap .i64 (y6.1 - v1)) = v3))) (
       some (false, ())) (
       ((f16 v1 v2 v4)).bind fun y9 =>
       ((f19 v1 v2 y9.1)).bind fun y10 =>
       cond (decide (y9.1 = (-1))) (
        cond (!y10.2.1) (
         some (true, ())) (
         cond (decide (0 ≤ y9.1)) (
          cond y10.2.1 (
           some ((decide (y10.1 = v4)), ())) (
           some (false, ()))) (
          some (false, ())))) (
        cond (decide (0 ≤ y9.1)) (
         cond y10.2.1 (
          some ((decide (y10.1 = v4)), ())) (
          some (false, ()))) (
         some (false, ())))))) (
     ((f16 v1 v2 v4)).bind fun y11 =>
     ((f19 v1 v2 y11.1)).bind fun y12 =>
     cond (decide (y11.1 = (-1))) (
      cond (!y12.2.1) (
       some (true, ())) (
       cond (decide (0 ≤ y11.1)) (
        cond y12.2.1 (
         some ((decide (y12.1 = v4)), ())) (
         some (false, ()))) (
        some (false, ())))) (
      cond (decide (0 ≤ y11.1)) (
       cond y12.2.1 (
        some ((decide (y12.1 = v4)), ())) (
        some (false, ()))) (
       some (false, ())))))) (
   cond (!(y6.2.1 == false)) (
    some (false, ())) (
    cond y6.2.1 (
     ((f16 v1 v2 y6.1)).bind fun y13 =>
     cond (!(decide (y13.1 = v3))) (
      some (false, ())) (
      cond (!(decide ((IntKind.wrap .i64 (y6.1 - v1)) = v3))) (
       some (false, ())) (
       ((f16 v1 v2 v4)).bind fun y14 =>
       ((f19 v1 v2 y14.1)).bind fun y15 =>
       cond (decide (y14.1 = (-1))) (
        cond (!y15.2.1) (
         some (true, ())) (
         cond (decide (0 ≤ y14.1)) (
          cond y15.2.1 (
           some ((decide (y15.1 = v4)), ())) (
           some (false, ()))) (
          some (false, ())))) (
        cond (decide (0 ≤ y14.1)) (
         cond y15.2.1 (
          some ((decide (y15.1 = v4)), ())) (
          some (false, ()))) (
         some (false, ())))))) (
     ((f16 v1 v2 v4)).bind fun y16 =>
     ((f19 v1 v2 y16.1)).bind fun y17 =>
     cond (decide (y16.1 = (-1))) (
      cond (!y17.2.1) (
       some (true, ())) (
       cond (decide (0 ≤ y16.1)) (
        cond y17.2.1 (
         some ((decide (y17.1 = v4)), ())) (
         some (false, ()))) (
        some (false, ())))) (
      cond (decide (0 ≤ y16.1)) (
       cond y17.2.1 (
        some ((decide (y17.1 = v4)), ())) (
        some (false, ()))) (
       some (false, ())))))))
end Go.Proofs.Zz
