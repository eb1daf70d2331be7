/- Pure9a, Pure9b, Pure9c, Pure9d. -/
import Derived.Test.YtadlmipfbockgaaGreatFG
namespace Go.Proofs.Zz
open Go Go.Sy
set_option linter.unusedVariables false
set_option maxRecDepth 100000
abbrev DT4:Type:=List Int
abbrev DT0:Type:=List (Int×DT4×Int)
abbrev DT1:Type:=List (Int×Int×Int)
abbrev DT2:Type:=List (Int×Int×Int×Int×Int)
abbrev DT6:Type:=Int×Int×Int×Int×Int×Int×Int×Int×Int×Int×Int×Bool×Int×Unit×Unit×Unit×Unit
abbrev DT9:Type:=Int×Unit
abbrev DT3:Type:=DT6×(DT4×DT4×DT4×DT4×DT4×Unit)×DT6×(DT4×Unit)×DT9×(Unit×Unit×Unit×Unit×Unit×Unit×Unit×Unit×Unit×Unit×Unit×Unit×Unit×Unit×Unit×Unit×Unit×Unit×Unit×Unit×Unit×Unit×Unit×Unit×Unit×Unit×Unit×Unit×Unit×Unit×Unit×Unit×Unit×Unit×Unit×Unit×Unit×Unit×Unit×Unit×Unit×Unit×Unit×Unit×Unit×Unit×Unit×Unit×Unit×Unit×Unit×Unit×Unit×Unit×Unit×Unit×Unit×Unit×Unit×Unit×Unit×Unit×Unit×Unit×Unit×Unit×Unit×Unit×Unit×Unit×Unit×Unit×Unit×Unit×Unit×Unit×Unit×Unit×Unit×Unit×Unit×Unit×Unit×Unit×Unit×Unit×Unit×Unit×Unit×Unit×Unit×Unit×Unit×Unit×Unit×Unit×Unit×Unit×Unit×Unit×Unit×Unit×Unit×Unit×Unit×Unit×Unit×Unit×Unit×Unit×Unit×Unit×Unit×Unit×Unit×Unit×Unit×Unit×Unit×Unit×Unit×Unit×Unit×Unit×Unit×Unit×Unit×Unit×Unit×Unit×Unit×Unit×Unit×Unit×Unit×Unit×Unit×Unit×Unit×Unit×Unit×Unit×Unit×Unit×Unit×Unit×Unit×Unit×Unit×Unit×Unit×Unit×Unit×Unit×Unit×Unit×Unit×Unit×Unit×Unit×Unit×Unit×Unit×Unit×Unit×Unit×Unit×Unit×Unit×Unit×Unit×Unit×Unit×Unit×Unit×Unit×Unit×Unit×Unit×Unit×Unit×Unit×Unit×Unit×Unit×Unit×Unit×Unit×Unit×Unit×Unit×Unit×Unit×Unit×Unit×Unit×Unit×Unit×Unit×Unit×Unit×Unit×Unit×Unit×Unit×Unit×Unit×Unit×Unit×Unit×Unit×Unit×Unit×Unit×Unit×Unit×Unit×Unit×Unit×Unit×Unit×Unit×Unit×Unit×Unit×Unit×Unit×Unit×Unit×Unit×Unit×Unit×Unit×Unit×Unit×Unit×Unit×Unit)×Unit
abbrev DT5:Type:=Int×Int×Int×Int×Int×Int×Int×Int×Int×Int×Int×Bool×Int×DT1×DT2×DT1×Unit
abbrev DT7:Type:=Bool×Unit
abbrev DT19:Type:=Unit×Unit
abbrev DT8:Type:=DT19×DT7×(DT4×Unit)×(Unit×Unit×Unit×Unit×Unit×Unit×Unit×Unit×Unit×Unit×Unit×Unit×Unit×Unit×Unit×Unit×Unit×Unit×Unit×Unit×Unit×Unit×Unit×Unit×Unit×Unit×Unit)×Unit
abbrev DT10:Type:=((Int×Int)×(Int×Int)×Int×Int×Int×Int)×(Int×Int×Int×Bool)×Int×DT1×DT2×DT1
abbrev DT11:Type:=Int×Unit×Unit
abbrev DT12:Type:=List (Int×Int×Int×Int×Int×Int×Int×Int×Bool)
abbrev DT13:Type:=Int×DT0×Unit
abbrev DT14:Type:=DT4×Bool×Unit
abbrev DT15:Type:=DT11×DT11×(List (Int×List Int×Int))×(DT4×Unit)×Unit
abbrev DT16:Type:=DT9×Unit
abbrev DT17:Type:=(Int×DT0)×Int×Int
abbrev DT18:Type:=Int×DT0×Int×Int×Unit
abbrev DT20:Type:=(Int×DT0)×Int×Unit
abbrev DT21:Type:=Int×Int×Unit
abbrev DT22:Type:=Unit×Int×Int×DT4×Int×Int×Unit
abbrev DT23:Type:=DT4×Int×Int×Int×Int×Int×Unit
abbrev DT24:Type:=DT5×Unit
abbrev DT25:Type:=Unit×Unit×Unit
abbrev DT26:Type:=(Int×Int×Int×Unit)×Unit
abbrev dT1:Ty:=.int .i64
abbrev dT5:Ty:=.int .u8
abbrev dT0:Ty:=.pair dT1 (.pair (.row dT5) dT1)
abbrev dT4:Ty:=.pair dT1 (.pair dT1 dT1)
abbrev dT2:Ty:=.pair dT1 (.pair dT1 dT4)
abbrev dT3:Ty:=.pair dT1 (.pair dT1 (.pair dT1 (.pair dT1 (.pair dT1 (.pair dT1 (.pair dT1 (.pair dT1 .bool)))))))
noncomputable def f25 (v1:Int)(v2:DT0):Option DT21:=
 cond (decide ((IntKind.wrap .i64 ((v2.length:Int)-1))<0)) (
  some (0,(IntKind.wrap .i64 ((v2.length:Int)-1)),())) (
  cond ((decide (0≤(IntKind.wrap .i64 ((v2.length:Int)-1))))&&(decide ((IntKind.wrap .i64 ((v2.length:Int)-1))<(v2.length:Int)))) (
   some ((rd dT0 v2 (Int.toNat (IntKind.wrap .i64 ((v2.length:Int)-1)))).1,(IntKind.wrap .i64 ((v2.length:Int)-1)),())) (
   none))
abbrev X46_3:Type:=DT18×(Unit)×(Unit)
abbrev Y46_3:Type:=DT9×(Unit)×(Unit)
abbrev Z46_3:Type:=Unit×Unit×Unit
noncomputable def t46_3 (v1:Int)(v2:DT0)(v3 v4:Int):Option (R3 X46_3 Y46_3 Z46_3):=
 cond (decide (v4<v3)) (
  cond ((decide (0≤v4))&&(decide (v4<(v2.length:Int)))) (
   some (R3.next (((IntKind.wrap .i64 (v1+(((rd dT0 v2 (Int.toNat v4)).2.1.length:Nat):Int))),v2,v3,(IntKind.wrap .i64 (v4+1)),()),(),()))) (
   none)) (
  some (R3.out ((v1,()),(),())))
noncomputable def u46_3 (z:X46_3):Option (R3 X46_3 Y46_3 Z46_3):=t46_3 z.1.1 z.1.2.1 z.1.2.2.1 z.1.2.2.2.1
noncomputable def f46 (v1:DT0):Option DT9:=
 ((iter big u46_3 ((0,v1,(v1.length:Int),0,()),(),()))).bind fun r=>match r with
 | .inl y2=>
   some (y2.1.1,())
 | .inr z3=>
   none
abbrev X26_3:Type:=(Unit×Int×DT0×Int×Int×Unit)×(DT13×Unit)×(Unit)
abbrev Y26_3:Type:=DT19×(DT13×Unit)×(Unit)
abbrev Z26_3:Type:=DT7×(Unit)×(Unit)
noncomputable def t26_3 (v1:Int)(v2:DT0)(v3 v4 v5:Int)(v6:DT0):Option (R3 X26_3 Y26_3 Z26_3):=
 cond (decide (v4<v3)) (
  cond ((decide (0≤v4))&&(decide (v4<(v2.length:Int)))) (
   cond (decide ((rd dT0 v2 (Int.toNat v4)).1≤v1)) (
    some (R3.ret ((false,()),(),()))) (
    cond (decide (1073741824<(rd dT0 v2 (Int.toNat v4)).1)) (
     some (R3.ret ((false,()),(),()))) (
     cond (decide ((rd dT0 v2 (Int.toNat v4)).2.2<0)) (
      some (R3.ret ((false,()),(),()))) (
      cond (decide ((((rd dT0 v2 (Int.toNat v4)).2.1.length:Nat):Int)<(rd dT0 v2 (Int.toNat v4)).2.2)) (
       some (R3.ret ((false,()),(),()))) (
       some (R3.next (((),(rd dT0 v2 (Int.toNat v4)).1,v2,v3,(IntKind.wrap .i64 (v4+1)),()),((v5,v6,()),()),()))))))) (
   none)) (
  some (R3.out (((),()),((v5,v6,()),()),())))
noncomputable def u26_3 (z:X26_3):Option (R3 X26_3 Y26_3 Z26_3):=t26_3 z.1.2.1 z.1.2.2.1 z.1.2.2.2.1 z.1.2.2.2.2.1 z.2.1.1.1 z.2.1.1.2.1
noncomputable def f26 (v1:Int)(v2:DT0):Option DT7:=
 ((iter big u26_3 (((),0,v2,(v2.length:Int),0,()),((v1,v2,()),()),()))).bind fun r=>match r with
 | .inl y3=>
   cond (decide (0≤y3.2.1.1.1)) (
    cond (decide (y3.2.1.1.1≤65536)) (
     cond (decide ((y3.2.1.1.2.1.length:Int)≤12)) (
      ((f46 y3.2.1.1.2.1)).bind fun y5=>
      some ((decide (y5.1≤y3.2.1.1.1)),())) (
      some (false,()))) (
     some (false,()))) (
    some (false,()))
 | .inr z4=>
   some (z4.1.1,())
noncomputable def f11 (v1:Int)(v2:DT0)(v3 v4:Int):Option DT7:=
 ((f25 v1 v2)).bind fun y5=>
 ((f26 v1 v2)).bind fun y6=>
 cond y6.1 (
  cond (decide (0<y5.1)) (
   cond (decide (y5.1=v3)) (
    cond (decide (0≤v4)) (
     some ((decide (v4≤1073741824)),())) (
     some (false,()))) (
    some (false,()))) (
   some (false,()))) (
  some (false,()))
noncomputable def f106 (v1:Int):Option DT7:=
 some ((decide (v1<128)),())
abbrev X62_139_2_0:Type:=(DT4×Unit×Int×Int×Unit)×(Unit)×(Unit)
abbrev Y62_139_2_0:Type:=(Unit)×(Unit)×(Unit)
abbrev Z62_139_2_0:Type:=DT9×(Unit)×(Unit)
noncomputable def t62_139_2_0 (v1:DT4)(v2 v3:Int):Option (R3 X62_139_2_0 Y62_139_2_0 Z62_139_2_0):=
 cond (decide (v3<v2)) (
  cond ((decide (0≤v3))&&(decide (v3<(v1.length:Int)))) (
   ((f106 (rd dT5 v1 (Int.toNat v3)))).bind fun y4=>
   cond y4.1 (
    some (R3.ret ((v3,()),(),()))) (
    some (R3.next ((v1,(),v2,(IntKind.wrap .i64 (v3+1)),()),(),())))) (
   none)) (
  some (R3.out ((),(),())))
noncomputable def u62_139_2_0 (z:X62_139_2_0):Option (R3 X62_139_2_0 Y62_139_2_0 Z62_139_2_0):=t62_139_2_0 z.1.1 z.1.2.2.1 z.1.2.2.2.1
noncomputable def f62 (v1:DT4):Option DT7:=
 cond (decide ((v1.length:Int)<6)) (
  ((iter big u62_139_2_0 ((v1,(),(v1.length:Int),0,()),(),()))).bind fun r=>match r with
  | .inl y2=>
    some (true,())
  | .inr z3=>
    some ((!(decide (0≤z3.1.1))),())) (
  some (false,()))
noncomputable def f89 (v1:Int):Option DT7:=
 cond (decide (0≤v1)) (
  some ((decide (v1≤1099511627776)),())) (
  some (false,()))
abbrev X63_5:Type:=(Int×Int×DT4×Int×Int×Unit)×(Unit)×(Unit)
abbrev Y63_5:Type:=(Unit)×(Unit)×(Unit)
abbrev Z63_5:Type:=DT21×(Unit)×(Unit)
noncomputable def t63_5 (v1 v2:Int)(v3:DT4)(v4 v5:Int):Option (R3 X63_5 Y63_5 Z63_5):=
 cond (decide (v5<v4)) (
  cond ((decide (0≤v5))&&(decide (v5<(v3.length:Int)))) (
   cond (!(decide ((IntKind.wrap .i64 (7 * v5))<0))) (
    cond (decide (128≤(rd dT5 v3 (Int.toNat v5)))) (
     some (R3.next ((v1,(bitop .or .i64 v2 (IntKind.wrap .i64 ((IntKind.wrap .i64 (bitop .andNot .u8 (rd dT5 v3 (Int.toNat v5)) 128)) * ((2:Int) ^ ((min (Int.toNat (IntKind.wrap .i64 (7 * v5))) 64):Nat))))),v3,v4,(IntKind.wrap .i64 (v5+1)),()),(),()))) (
     cond (decide ((rd dT5 v3 (Int.toNat v5))=0)) (
      cond (decide (0<v5)) (
       some (R3.out ((),(),()))) (
       ((f89 (bitop .or .i64 v2 (IntKind.wrap .i64 ((IntKind.wrap .i64 (bitop .andNot .u8 (rd dT5 v3 (Int.toNat v5)) 128)) * ((2:Int) ^ ((min (Int.toNat (IntKind.wrap .i64 (7 * v5))) 64):Nat))))))).bind fun y6=>
       cond (!y6.1) (
        some (R3.out ((),(),()))) (
        some (R3.ret (((bitop .or .i64 v2 (IntKind.wrap .i64 ((IntKind.wrap .i64 (bitop .andNot .u8 (rd dT5 v3 (Int.toNat v5)) 128)) * ((2:Int) ^ ((min (Int.toNat (IntKind.wrap .i64 (7 * v5))) 64):Nat))))),(IntKind.wrap .i64 ((IntKind.wrap .i64 (v1+v5))+1)),()),(),()))))) (
      ((f89 (bitop .or .i64 v2 (IntKind.wrap .i64 ((IntKind.wrap .i64 (bitop .andNot .u8 (rd dT5 v3 (Int.toNat v5)) 128)) * ((2:Int) ^ ((min (Int.toNat (IntKind.wrap .i64 (7 * v5))) 64):Nat))))))).bind fun y7=>
      cond (!y7.1) (
       some (R3.out ((),(),()))) (
       some (R3.ret (((bitop .or .i64 v2 (IntKind.wrap .i64 ((IntKind.wrap .i64 (bitop .andNot .u8 (rd dT5 v3 (Int.toNat v5)) 128)) * ((2:Int) ^ ((min (Int.toNat (IntKind.wrap .i64 (7 * v5))) 64):Nat))))),(IntKind.wrap .i64 ((IntKind.wrap .i64 (v1+v5))+1)),()),(),())))))) (
    none)) (
   none)) (
  some (R3.out ((),(),())))
noncomputable def u63_5 (z:X63_5):Option (R3 X63_5 Y63_5 Z63_5):=t63_5 z.1.1 z.1.2.1 z.1.2.2.1 z.1.2.2.2.1 z.1.2.2.2.2.1
noncomputable def f63 (v1:DT4)(v2:Int):Option DT21:=
 cond (decide (v2<0)) (
  some (0,(-1),())) (
  cond (decide ((v1.length:Int)<v2)) (
   some (0,(-1),())) (
   cond (((decide (0≤v2))&&(decide (v2≤(mnI (v1.length:Int) (IntKind.wrap .i64 (v2+(mnI 6 (IntKind.wrap .i64 ((v1.length:Int)-v2)))))))))&&(decide ((mnI (v1.length:Int) (IntKind.wrap .i64 (v2+(mnI 6 (IntKind.wrap .i64 ((v1.length:Int)-v2))))))≤(v1.length:Int)))) (
    ((iter big u63_5 ((v2,0,(List.drop (Int.toNat v2) (List.take (Int.toNat (mnI (v1.length:Int) (IntKind.wrap .i64 (v2+(mnI 6 (IntKind.wrap .i64 ((v1.length:Int)-v2))))))) v1)),(((List.drop (Int.toNat v2) (List.take (Int.toNat (mnI (v1.length:Int) (IntKind.wrap .i64 (v2+(mnI 6 (IntKind.wrap .i64 ((v1.length:Int)-v2))))))) v1)).length:Nat):Int),0,()),(),()))).bind fun r=>match r with
    | .inl y3=>
      some (0,(-1),())
    | .inr z4=>
      some (z4.1.1,z4.1.2.1,())) (
    none)))
abbrev X37_4:Type:=(DT4×DT4×Int×Int×Unit)×(Unit)×(Unit)
abbrev Y37_4:Type:=(Unit)×(Unit)×(Unit)
abbrev Z37_4:Type:=DT7×(Unit)×(Unit)
noncomputable def t37_4 (v1 v2:DT4)(v3 v4:Int):Option (R3 X37_4 Y37_4 Z37_4):=
 cond (decide (v4<v3)) (
  cond ((decide (0≤v4))&&(decide (v4<(v1.length:Int)))) (
   cond ((decide (0≤v4))&&(decide (v4<(v2.length:Int)))) (
    cond (!(decide ((rd dT5 v1 (Int.toNat v4))=(rd dT5 v2 (Int.toNat v4))))) (
     some (R3.ret ((false,()),(),()))) (
     some (R3.next ((v1,v2,v3,(IntKind.wrap .i64 (v4+1)),()),(),())))) (
    none)) (
   none)) (
  some (R3.out ((),(),())))
noncomputable def u37_4 (z:X37_4):Option (R3 X37_4 Y37_4 Z37_4):=t37_4 z.1.1 z.1.2.1 z.1.2.2.1 z.1.2.2.2.1
noncomputable def f37 (v1 v2:DT4):Option DT7:=
 cond (!(decide ((v1.length:Int)=(v2.length:Int)))) (
  some (false,())) (
  ((iter big u37_4 ((v1,v2,(v1.length:Int),0,()),(),()))).bind fun r=>match r with
  | .inl y3=>
    some (true,())
  | .inr z4=>
    some (z4.1.1,()))
noncomputable def f107 (v1:Int):Option (DT4×Unit):=
 some ([(IntKind.wrap .u8 (Int.fdiv v1 16777216)),(IntKind.wrap .u8 (Int.fdiv v1 65536)),(IntKind.wrap .u8 (Int.fdiv v1 256)),(IntKind.wrap .u8 v1)],())
abbrev X140_154_1_0:Type:=(Unit×DT4×Int×Int×Unit)×DT16×(Unit)
abbrev X140_154_4_0:Type:=(Unit×Int×DT4×Int×Int×Int×Unit)×DT16×(Unit)
abbrev Y140_154_4_0:Type:=(Unit×DT4×Int×Int×Unit)×DT16×(Unit)
abbrev Z140_154_4_0:Type:=Unit×DT19×Unit
noncomputable def t140_154_4_0 (v1:Int)(v2:DT4)(v3 v4 v5 v6:Int):Option (R3 X140_154_4_0 Y140_154_4_0 Z140_154_4_0):=
 cond (decide (v5<8)) (
  cond (!(decide ((IntKind.wrap .i64 (7-v5))<0))) (
   cond (!((decide ((Int.fdiv v6 2147483648)=1)) == (decide ((bitop .and .u8 (Int.fdiv v1 ((2:Int) ^ ((min (Int.toNat (IntKind.wrap .i64 (7-v5))) 8):Nat))) 1)=1)))) (
    some (R3.next (((),v1,v2,v3,v4,(IntKind.wrap .i64 (v5+1)),()),(((bitop .xor .u32 (IntKind.wrap .u32 (v6 * 2)) 79764919),()),()),()))) (
    some (R3.next (((),v1,v2,v3,v4,(IntKind.wrap .i64 (v5+1)),()),(((IntKind.wrap .u32 (v6 * 2)),()),()),())))) (
   none)) (
  some (R3.out (((),v2,v3,v4,()),((v6,()),()),())))
noncomputable def u140_154_4_0 (z:X140_154_4_0):Option (R3 X140_154_4_0 Y140_154_4_0 Z140_154_4_0):=t140_154_4_0 z.1.2.1 z.1.2.2.1 z.1.2.2.2.1 z.1.2.2.2.2.1 z.1.2.2.2.2.2.1 z.2.1.1.1
abbrev Y140_154_1_0:Type:=(Unit)×DT16×(Unit)
abbrev Z140_154_1_0:Type:=Unit×DT19×Unit
noncomputable def t140_154_1_0 (v1:DT4)(v2 v3 v4:Int):Option (R3 X140_154_1_0 Y140_154_1_0 Z140_154_1_0):=
 cond (decide (v3<v2)) (
  cond ((decide (0≤v3))&&(decide (v3<(v1.length:Int)))) (
   ((iter big u140_154_4_0 (((),(rd dT5 v1 (Int.toNat v3)),v1,v2,v3,0,()),((v4,()),()),()))).bind fun r=>match r with
   | .inl y5=>
     some (R3.next (((),y5.1.2.1,y5.1.2.2.1,(IntKind.wrap .i64 (y5.1.2.2.2.1+1)),()),((y5.2.1.1.1,()),()),()))
   | .inr z6=>
     some (R3.ret ((),((),()),()))) (
   none)) (
  some (R3.out ((),((v4,()),()),())))
noncomputable def u140_154_1_0 (z:X140_154_1_0):Option (R3 X140_154_1_0 Y140_154_1_0 Z140_154_1_0):=t140_154_1_0 z.1.2.1 z.1.2.2.1 z.1.2.2.2.1 z.2.1.1.1
noncomputable def f140 (v1:Int)(v2:DT4):Option DT9:=
 ((iter big u140_154_1_0 (((),v2,(v2.length:Int),0,()),(((bitop .xor .u32 v1 4294967295),()),()),()))).bind fun r=>match r with
 | .inl y3=>
   some ((bitop .xor .u32 y3.2.1.1.1 4294967295),())
 | .inr z4=>
   none
noncomputable def f108 (v1:DT4):Option DT9:=
 ((f140 0 v1)).bind fun y2=>
 some (y2.1,())
noncomputable def f64 (v1:DT4):Option DT14:=
 cond (decide ((IntKind.wrap .i64 ((v1.length:Int)-4))<0)) (
  some ([],false,())) (
  cond (((decide (0≤(IntKind.wrap .i64 ((v1.length:Int)-4))))&&(decide ((IntKind.wrap .i64 ((v1.length:Int)-4))≤(v1.length:Int))))&&(decide ((v1.length:Int)≤(v1.length:Int)))) (
   cond ((decide (0≤(IntKind.wrap .i64 ((v1.length:Int)-4))))&&(decide ((IntKind.wrap .i64 ((v1.length:Int)-4))≤(v1.length:Int)))) (
    ((f108 (List.drop 0 (List.take (Int.toNat (IntKind.wrap .i64 ((v1.length:Int)-4))) v1)))).bind fun y2=>
    ((f107 y2.1)).bind fun y3=>
    ((f37 (List.drop (Int.toNat (IntKind.wrap .i64 ((v1.length:Int)-4))) (List.take (Int.toNat (v1.length:Int)) v1)) y3.1)).bind fun y4=>
    cond (!y4.1) (
     some ([],false,())) (
     cond ((decide (0≤(IntKind.wrap .i64 ((v1.length:Int)-4))))&&(decide ((IntKind.wrap .i64 ((v1.length:Int)-4))≤(v1.length:Int)))) (
      ((fCloneByte (List.drop 0 (List.take (Int.toNat (IntKind.wrap .i64 ((v1.length:Int)-4))) v1)))).bind fun y5=>
      some (y5.1,true,())) (
      none))) (
    none)) (
   none))
noncomputable def f31 (v1:DT4)(v2:Int):Option ((Int×DT4)×Int×Int×Unit):=
 cond (decide (v2<0)) (
  some ((0,[]),0,2,())) (
  cond (decide ((v1.length:Int)<v2)) (
   some ((0,[]),0,2,())) (
   cond (decide (v2=(v1.length:Int))) (
    some ((0,[]),0,4,())) (
    cond (((decide (0≤(IntKind.wrap .i64 (v2+1))))&&(decide ((IntKind.wrap .i64 (v2+1))≤(v1.length:Int))))&&(decide ((v1.length:Int)≤(v1.length:Int)))) (
     ((f62 (List.drop (Int.toNat (IntKind.wrap .i64 (v2+1))) (List.take (Int.toNat (v1.length:Int)) v1)))).bind fun y3=>
     cond y3.1 (
      some ((0,[]),0,4,())) (
      ((f63 v1 (IntKind.wrap .i64 (v2+1)))).bind fun y4=>
      cond (decide (y4.2.1=(-1))) (
       some ((0,[]),0,2,())) (
       cond (decide (1000<y4.1)) (
        some ((0,[]),0,2,())) (
        cond (decide ((v1.length:Int)<(IntKind.wrap .i64 ((IntKind.wrap .i64 (y4.2.1+y4.1))+4)))) (
         some ((0,[]),0,4,())) (
         cond ((((decide (0≤v2))&&(decide (v2≤(IntKind.wrap .i64 ((IntKind.wrap .i64 (y4.2.1+y4.1))+4)))))&&(decide ((IntKind.wrap .i64 ((IntKind.wrap .i64 (y4.2.1+y4.1))+4))≤(IntKind.wrap .i64 ((IntKind.wrap .i64 (y4.2.1+y4.1))+4)))))&&(decide ((IntKind.wrap .i64 ((IntKind.wrap .i64 (y4.2.1+y4.1))+4))≤(v1.length:Int)))) (
          ((f64 (List.drop (Int.toNat v2) (List.take (Int.toNat (IntKind.wrap .i64 ((IntKind.wrap .i64 (y4.2.1+y4.1))+4))) v1)))).bind fun y5=>
          cond (!y5.2.1) (
           some ((0,[]),0,3,())) (
           cond (decide (0<(y5.1.length:Int))) (
            cond (((decide (0≤(IntKind.wrap .i64 (y4.2.1-v2))))&&(decide ((IntKind.wrap .i64 (y4.2.1-v2))≤(y5.1.length:Int))))&&(decide ((y5.1.length:Int)≤(y5.1.length:Int)))) (
             some (((IntKind.wrap .i64 (rd dT5 y5.1 0)),(List.drop (Int.toNat (IntKind.wrap .i64 (y4.2.1-v2))) (List.take (Int.toNat (y5.1.length:Int)) y5.1))),(IntKind.wrap .i64 ((IntKind.wrap .i64 (y4.2.1+y4.1))+4)),0,())) (
             none)) (
            none))) (
          none)))))) (
     none))))
noncomputable def f114 (v1 v2 v3:Int):Option DT7:=
 cond (decide (v2≤v1)) (
  some ((decide (v1≤v3)),())) (
  some (false,()))
noncomputable def f143 (v1 v2:Int):Option DT7:=
 cond (decide (0≤v2)) (
  cond (decide (v2≤32)) (
   cond (decide (0≤v1)) (
    cond (decide (v1<4294967296)) (
     cond (!(decide ((IntKind.wrap .i64 (32-v2))<0))) (
      some ((decide ((bitop .and .i64 v1 (IntKind.wrap .i64 ((IntKind.wrap .i64 (1 * ((2:Int) ^ ((min (Int.toNat (IntKind.wrap .i64 (32-v2))) 64):Nat))))-1)))=0)),())) (
      none)) (
     some (false,()))) (
    some (false,()))) (
   some (false,()))) (
  some (false,()))
noncomputable def f116 (v1 v2:Int):Option DT9:=
 ((f143 v1 v2)).bind fun y3=>
 cond (!y3.1) (
  some (0,())) (
  cond (!(decide ((IntKind.wrap .i64 (32-v2))<0))) (
   some ((IntKind.wrap .i64 (1 * ((2:Int) ^ ((min (Int.toNat (IntKind.wrap .i64 (32-v2))) 64):Nat)))),())) (
   none))
noncomputable def f144 (v1 v2 v3:Int):Option DT9:=
 ((f143 v1 v2)).bind fun y4=>
 cond (!y4.1) (
  some ((-1),())) (
  cond (decide (v3<0)) (
   some ((-1),())) (
   cond (decide (4294967296≤v3)) (
    some ((-1),())) (
    cond (!(decide ((IntKind.wrap .i64 (32-v2))<0))) (
     cond (!(decide ((Int.fdiv (bitop .xor .i64 v3 v1) ((2:Int) ^ ((min (Int.toNat (IntKind.wrap .i64 (32-v2))) 64):Nat)))=0))) (
      some ((-1),())) (
      some ((IntKind.wrap .i64 (v3-v1)),()))) (
     none))))
noncomputable def f118 (v1 v2 v3 v4:Int):Option DT7:=
 ((f143 v1 v2)).bind fun y5=>
 cond y5.1 (
  ((f143 v3 v4)).bind fun y6=>
  cond y6.1 (
   ((f144 v1 v2 v3)).bind fun y7=>
   cond (!(decide (y7.1=(-1)))) (
    some (true,())) (
    ((f144 v3 v4 v1)).bind fun y8=>
    some ((!(decide (y8.1=(-1)))),()))) (
   some (false,()))) (
  some (false,()))
noncomputable def f122 (v1 v2 v3 v4 v5 v6 v7 v8:Int):Option DT9:=
 some ((IntKind.wrap .i64 ((IntKind.wrap .i64 ((IntKind.wrap .i64 (v6-v5))+1))-v7)),())
noncomputable def f123 (v1 v2 v3 v4 v5 v6 v7 v8:Int):Option DT9:=
 ((f116 v1 v2)).bind fun y9=>
 ((f116 v3 v4)).bind fun y10=>
 cond (decide ((mnI y9.1 y10.1)=0)) (
  some (0,())) (
  cond (!(decide (y10.1=0))) (
   some ((IntKind.wrap .i64 ((IntKind.wrap .i64 (Int.tdiv (IntKind.wrap .i64 (y9.1-1)) y10.1))+1)),())) (
   none))
noncomputable def f81 (v1 v2 v3 v4 v5 v6 v7 v8:Int):Option DT7:=
 ((f116 v1 v2)).bind fun y9=>
 ((f114 y9.1 1 32)).bind fun y10=>
 cond y10.1 (
  ((f116 v3 v4)).bind fun y11=>
  ((f114 y11.1 1 4)).bind fun y12=>
  cond (!y12.1) (
   some (false,())) (
   ((f118 v1 v2 v3 v4)).bind fun y13=>
   cond (!(!y13.1)) (
    some (false,())) (
    ((f114 v5 1 v6)).bind fun y14=>
    cond y14.1 (
     cond (!(decide (v6≤65535))) (
      some (false,())) (
      ((f114 v7 0 (IntKind.wrap .i64 (v6-v5)))).bind fun y15=>
      cond y15.1 (
       ((f114 v8 1 65535)).bind fun y16=>
       cond y16.1 (
        cond (!(decide (v8=0))) (
         cond (!(decide ((IntKind.wrap .i64 (Int.tdiv v7 v8))≤8))) (
          some (false,())) (
          ((f122 v1 v2 v3 v4 v5 v6 v7 v8)).bind fun y17=>
          ((f123 v1 v2 v3 v4 v5 v6 v7 v8)).bind fun y18=>
          cond (!(decide (y18.1≤y17.1))) (
           some (false,())) (
           some (true,())))) (
         none)) (
        some (false,()))) (
       some (false,())))) (
     some (false,()))))) (
  some (false,()))
noncomputable def f83 (v1 v2 v3:Int):Option DT7:=
 cond (decide (v2≤v1)) (
  some ((decide (v1≤v3)),())) (
  some (false,()))
noncomputable def f82 (v1 v2 v3:Int)(v4:Bool):Option DT7:=
 ((f83 v1 1 8)).bind fun y5=>
 cond y5.1 (
  ((f83 v2 1 1048576)).bind fun y6=>
  cond y6.1 (
   ((f83 v3 0 1048576)).bind fun y7=>
   some (y7.1,())) (
   some (false,()))) (
  some (false,()))
noncomputable def f127 (v1 v2 v3 v4 v5 v6:Int):Option DT7:=
 cond (decide (v1<(IntKind.wrap .i64 (v4+v5)))) (
  some ((decide (v4<(IntKind.wrap .i64 (v1+v2)))),())) (
  some (false,()))
noncomputable def f128 (v1 v2 v3 v4:Int):Option DT7:=
 cond (decide (0≤v1)) (
  cond (decide (1≤v2)) (
   cond (decide (v1<v4)) (
    cond (decide (v2≤(IntKind.wrap .i64 (v4-v1)))) (
     cond (decide (0≤v3)) (
      some ((decide (v3<2)),())) (
      some (false,()))) (
     some (false,()))) (
    some (false,()))) (
   some (false,()))) (
  some (false,()))
abbrev X84_4:Type:=(DT1×Int×DT1×Int×Int×Unit)×(Unit)×(Unit)
abbrev X84_146_2_0:Type:=(DT1×Unit×Int×Int×Unit)×DT26×(Unit)
abbrev Y84_146_2_0:Type:=(Unit)×DT26×(Unit)
abbrev Z84_146_2_0:Type:=DT9×DT26×(Unit)
noncomputable def t84_146_2_0 (v1:DT1)(v2 v3 v4 v5 v6:Int):Option (R3 X84_146_2_0 Y84_146_2_0 Z84_146_2_0):=
 cond (decide (v3<v2)) (
  cond ((decide (0≤v3))&&(decide (v3<(v1.length:Int)))) (
   ((f127 v4 v5 v6 (rd dT4 v1 (Int.toNat v3)).1 (rd dT4 v1 (Int.toNat v3)).2.1 (rd dT4 v1 (Int.toNat v3)).2.2)).bind fun y7=>
   cond y7.1 (
    some (R3.ret ((v3,()),((v4,v5,v6,()),()),()))) (
    some (R3.next ((v1,(),v2,(IntKind.wrap .i64 (v3+1)),()),((v4,v5,v6,()),()),())))) (
   none)) (
  some (R3.out ((),((v4,v5,v6,()),()),())))
noncomputable def u84_146_2_0 (z:X84_146_2_0):Option (R3 X84_146_2_0 Y84_146_2_0 Z84_146_2_0):=t84_146_2_0 z.1.1 z.1.2.2.1 z.1.2.2.2.1 z.2.1.1.1 z.2.1.1.2.1 z.2.1.1.2.2.1
abbrev Y84_4:Type:=(Unit)×(Unit)×(Unit)
abbrev Z84_4:Type:=DT7×(Unit)×(Unit)
noncomputable def t84_4 (v1:DT1)(v2:Int)(v3:DT1)(v4 v5:Int):Option (R3 X84_4 Y84_4 Z84_4):=
 cond (decide (v5<v4)) (
  cond ((decide (0≤v5))&&(decide (v5<(v3.length:Int)))) (
   ((f128 (rd dT4 v3 (Int.toNat v5)).1 (rd dT4 v3 (Int.toNat v5)).2.1 (rd dT4 v3 (Int.toNat v5)).2.2 v2)).bind fun y6=>
   cond (!y6.1) (
    some (R3.ret ((false,()),(),()))) (
    cond ((decide (0≤v5))&&(decide (v5≤(v1.length:Int)))) (
     ((iter big u84_146_2_0 (((List.drop 0 (List.take (Int.toNat v5) v1)),(),(((List.drop 0 (List.take (Int.toNat v5) v1)).length:Nat):Int),0,()),(((rd dT4 v3 (Int.toNat v5)).1,(rd dT4 v3 (Int.toNat v5)).2.1,(rd dT4 v3 (Int.toNat v5)).2.2,()),()),()))).bind fun r=>match r with
     | .inl y7=>
       some (R3.next ((v1,v2,v3,v4,(IntKind.wrap .i64 (v5+1)),()),(),()))
     | .inr z8=>
       cond (decide (0≤z8.1.1)) (
        some (R3.ret ((false,()),(),()))) (
        some (R3.next ((v1,v2,v3,v4,(IntKind.wrap .i64 (v5+1)),()),(),())))) (
     none))) (
   none)) (
  some (R3.out ((),(),())))
noncomputable def u84_4 (z:X84_4):Option (R3 X84_4 Y84_4 Z84_4):=t84_4 z.1.1 z.1.2.1 z.1.2.2.1 z.1.2.2.2.1 z.1.2.2.2.2.1
noncomputable def f84 (v1:DT1)(v2:Int):Option DT7:=
 cond (decide (v2<0)) (
  some (false,())) (
  cond (decide (4<v2)) (
   some (false,())) (
   cond (decide (3<(v1.length:Int))) (
    some (false,())) (
    ((iter big u84_4 ((v1,v2,v1,(v1.length:Int),0,()),(),()))).bind fun r=>match r with
    | .inl y3=>
      some (true,())
    | .inr z4=>
      some (z4.1.1,()))))
noncomputable def f85 (v1 v2 v3 v4 v5 v6 v7 v8 v9 v10 v11:Int)(v12:Bool)(v13:Int)(v14:DT1)(v15:DT2)(v16:DT1):Option DT9:=
 ((f116 v3 v4)).bind fun y17=>
 some (y17.1,())
noncomputable def f147 (v1 v2 v3 v4 v5 v6 v7 v8:Int):Option DT9:=
 ((f81 v1 v2 v3 v4 v5 v6 v7 v8)).bind fun y9=>
 cond (!y9.1) (
  some (0,())) (
  ((f122 v1 v2 v3 v4 v5 v6 v7 v8)).bind fun y10=>
  ((f123 v1 v2 v3 v4 v5 v6 v7 v8)).bind fun y11=>
  cond (!(decide (y11.1=0))) (
   some ((IntKind.wrap .i64 (Int.tdiv y10.1 y11.1)),())) (
   none))
noncomputable def f130 (v1 v2 v3 v4 v5 v6 v7 v8 v9:Int):Option ((Int×Int×Int)×Bool×Unit):=
 ((f81 v1 v2 v3 v4 v5 v6 v7 v8)).bind fun y10=>
 cond (!y10.1) (
  some ((0,0,0),false,())) (
  cond (decide (v9<0)) (
   some ((0,0,0),false,())) (
   ((f116 v1 v2)).bind fun y11=>
   cond (decide (y11.1≤v9)) (
    some ((0,0,0),false,())) (
    ((f123 v1 v2 v3 v4 v5 v6 v7 v8)).bind fun y12=>
    ((f147 v1 v2 v3 v4 v5 v6 v7 v8)).bind fun y13=>
    cond (!(decide (y12.1=0))) (
     cond (!(decide (y12.1=0))) (
      some (((IntKind.wrap .i64 (Int.tdiv v9 y12.1)),(IntKind.wrap .i64 (v5+(IntKind.wrap .i64 ((Int.tmod v9 y12.1) * y13.1)))),(IntKind.wrap .i64 ((IntKind.wrap .i64 ((IntKind.wrap .i64 (v5+(IntKind.wrap .i64 ((Int.tmod v9 y12.1) * y13.1))))+y13.1))-1))),true,())) (
      none)) (
     none))))
noncomputable def f148 (v1 v2 v3 v4 v5 v6 v7 v8:Int):Option DT9:=
 ((f81 v1 v2 v3 v4 v5 v6 v7 v8)).bind fun y9=>
 cond (!y9.1) (
  some (0,())) (
  cond (!(decide (v8=0))) (
   some ((IntKind.wrap .i64 (Int.tdiv v7 v8)),())) (
   none))
noncomputable def f131 (v1 v2 v3 v4 v5 v6 v7 v8 v9 v10:Int):Option ((Int×Int×Int)×Bool×Unit):=
 cond (decide (v9<0)) (
  some ((0,0,0),false,())) (
  ((f116 v3 v4)).bind fun y11=>
  cond (decide (y11.1≤v9)) (
   some ((0,0,0),false,())) (
   cond (decide (v10<0)) (
    some ((0,0,0),false,())) (
    ((f148 v1 v2 v3 v4 v5 v6 v7 v8)).bind fun y12=>
    cond (decide (y12.1≤v10)) (
     some ((0,0,0),false,())) (
     some ((v9,(IntKind.wrap .i64 ((IntKind.wrap .i64 ((IntKind.wrap .i64 (v6-v7))+1))+(IntKind.wrap .i64 (v10 * v8)))),(IntKind.wrap .i64 ((IntKind.wrap .i64 ((IntKind.wrap .i64 ((IntKind.wrap .i64 ((IntKind.wrap .i64 (v6-v7))+1))+(IntKind.wrap .i64 (v10 * v8))))+v8))-1))),true,())))))
noncomputable def f150 (v1 v2 v3 v4:Int):Option DT7:=
 cond (decide (0≤v1)) (
  cond (decide (v1≤4)) (
   cond (decide (1≤v2)) (
    cond (decide (v2≤4)) (
     cond (decide (v1≤v4)) (
      some ((decide (v4<(IntKind.wrap .i64 (v1+v2)))),())) (
      some (false,()))) (
     some (false,()))) (
    some (false,()))) (
   some (false,()))) (
  some (false,()))
abbrev X132_146_2_0:Type:=(DT1×Unit×Int×Int×Unit)×DT16×(Unit)
abbrev Y132_146_2_0:Type:=(Unit)×DT16×(Unit)
abbrev Z132_146_2_0:Type:=DT9×DT16×(Unit)
noncomputable def t132_146_2_0 (v1:DT1)(v2 v3 v4:Int):Option (R3 X132_146_2_0 Y132_146_2_0 Z132_146_2_0):=
 cond (decide (v3<v2)) (
  cond ((decide (0≤v3))&&(decide (v3<(v1.length:Int)))) (
   ((f150 (rd dT4 v1 (Int.toNat v3)).1 (rd dT4 v1 (Int.toNat v3)).2.1 (rd dT4 v1 (Int.toNat v3)).2.2 v4)).bind fun y5=>
   cond y5.1 (
    some (R3.ret ((v3,()),((v4,()),()),()))) (
    some (R3.next ((v1,(),v2,(IntKind.wrap .i64 (v3+1)),()),((v4,()),()),())))) (
   none)) (
  some (R3.out ((),((v4,()),()),())))
noncomputable def u132_146_2_0 (z:X132_146_2_0):Option (R3 X132_146_2_0 Y132_146_2_0 Z132_146_2_0):=t132_146_2_0 z.1.1 z.1.2.2.1 z.1.2.2.2.1 z.2.1.1.1
noncomputable def f132 (v1:DT1)(v2:Int):Option DT9:=
 ((iter big u132_146_2_0 ((v1,(),(v1.length:Int),0,()),((v2,()),()),()))).bind fun r=>match r with
 | .inl y3=>
   some ((-1),())
 | .inr z4=>
   some (z4.1.1,())
noncomputable def f133 (v1 v2 v3 v4:Int):Option DT7:=
 cond (decide (v3<v1)) (
  some (true,())) (
  cond (decide (v1=v3)) (
   some ((decide (v4<v2)),())) (
   some (false,())))
abbrev X86_3:Type:=(Unit×Unit×DT2×Int×Int×Unit)×(DT5×(List (Int×Int))×Unit)×(Unit)
abbrev Y86_3:Type:=DT19×DT24×(Unit)
abbrev Z86_3:Type:=DT7×(Unit)×(Unit)
noncomputable def t86_3 (v1:DT2)(v2 v3 v4 v5 v6 v7 v8 v9 v10 v11 v12 v13 v14:Int)(v15:Bool)(v16:Int)(v17:DT1)(v18:DT2)(v19:DT1)(v20:(List (Int×Int))):Option (R3 X86_3 Y86_3 Z86_3):=
 cond (decide (v3<v2)) (
  cond ((decide (0≤v3))&&(decide (v3<(v1.length:Int)))) (
   ((f130 v4 v5 v6 v7 v8 v9 v10 v11 (rd dT2 v1 (Int.toNat v3)).1)).bind fun y21=>
   ((f131 v4 v5 v6 v7 v8 v9 v10 v11 (rd dT2 v1 (Int.toNat v3)).2.1 (rd dT2 v1 (Int.toNat v3)).2.2.1)).bind fun y22=>
   cond (!y21.2.1) (
    some (R3.ret ((false,()),(),()))) (
    cond (!y22.2.1) (
     some (R3.ret ((false,()),(),()))) (
     ((f132 v17 (rd dT2 v1 (Int.toNat v3)).2.1)).bind fun y23=>
     cond (decide (y23.1=(-1))) (
      some (R3.ret ((false,()),(),()))) (
      cond v15 (
       cond (!(decide (y21.1.1=(rd dT2 v1 (Int.toNat v3)).2.1))) (
        some (R3.ret ((false,()),(),()))) (
        cond (decide (v12<(mVal (mPut v20 (rd dT2 v1 (Int.toNat v3)).1 (IntKind.wrap .i64 ((mVal v20 (rd dT2 v1 (Int.toNat v3)).1)+1))) (rd dT2 v1 (Int.toNat v3)).1))) (
         some (R3.ret ((false,()),(),()))) (
         cond (decide ((rd dT2 v1 (Int.toNat v3)).2.2.2.1<0)) (
          some (R3.ret ((false,()),(),()))) (
          cond (decide ((rd dT2 v1 (Int.toNat v3)).2.2.2.2<(rd dT2 v1 (Int.toNat v3)).2.2.2.1)) (
           some (R3.ret ((false,()),(),()))) (
           cond (decide (v16<(rd dT2 v1 (Int.toNat v3)).2.2.2.2)) (
            some (R3.ret ((false,()),(),()))) (
            cond (decide ((rd dT2 v1 (Int.toNat v3)).2.2.2.2≤(IntKind.wrap .i64 (v16-v13)))) (
             some (R3.ret ((false,()),(),()))) (
             cond (decide (0<v3)) (
              cond ((decide (0≤(IntKind.wrap .i64 (v3-1))))&&(decide ((IntKind.wrap .i64 (v3-1))<(v18.length:Int)))) (
               cond ((decide (0≤(IntKind.wrap .i64 (v3-1))))&&(decide ((IntKind.wrap .i64 (v3-1))<(v18.length:Int)))) (
                ((f133 (rd dT2 v1 (Int.toNat v3)).2.1 (rd dT2 v1 (Int.toNat v3)).2.2.1 (rd dT2 v18 (Int.toNat (IntKind.wrap .i64 (v3-1)))).2.1 (rd dT2 v18 (Int.toNat (IntKind.wrap .i64 (v3-1)))).2.2.1)).bind fun y24=>
                cond (!y24.1) (
                 some (R3.ret ((false,()),(),()))) (
                 some (R3.next (((),(),v1,v2,(IntKind.wrap .i64 (v3+1)),()),((v4,v5,v6,v7,v8,v9,v10,v11,v12,v13,v14,v15,v16,v17,v18,v19,()),(mPut v20 (rd dT2 v1 (Int.toNat v3)).1 (IntKind.wrap .i64 ((mVal v20 (rd dT2 v1 (Int.toNat v3)).1)+1))),()),())))) (
                none)) (
               none)) (
              some (R3.next (((),(),v1,v2,(IntKind.wrap .i64 (v3+1)),()),((v4,v5,v6,v7,v8,v9,v10,v11,v12,v13,v14,v15,v16,v17,v18,v19,()),(mPut v20 (rd dT2 v1 (Int.toNat v3)).1 (IntKind.wrap .i64 ((mVal v20 (rd dT2 v1 (Int.toNat v3)).1)+1))),()),())))))))))) (
       cond (decide (v12<(mVal (mPut v20 (rd dT2 v1 (Int.toNat v3)).1 (IntKind.wrap .i64 ((mVal v20 (rd dT2 v1 (Int.toNat v3)).1)+1))) (rd dT2 v1 (Int.toNat v3)).1))) (
        some (R3.ret ((false,()),(),()))) (
        cond (decide ((rd dT2 v1 (Int.toNat v3)).2.2.2.1<0)) (
         some (R3.ret ((false,()),(),()))) (
         cond (decide ((rd dT2 v1 (Int.toNat v3)).2.2.2.2<(rd dT2 v1 (Int.toNat v3)).2.2.2.1)) (
          some (R3.ret ((false,()),(),()))) (
          cond (decide (v16<(rd dT2 v1 (Int.toNat v3)).2.2.2.2)) (
           some (R3.ret ((false,()),(),()))) (
           cond (decide ((rd dT2 v1 (Int.toNat v3)).2.2.2.2≤(IntKind.wrap .i64 (v16-v13)))) (
            some (R3.ret ((false,()),(),()))) (
            cond (decide (0<v3)) (
             cond ((decide (0≤(IntKind.wrap .i64 (v3-1))))&&(decide ((IntKind.wrap .i64 (v3-1))<(v18.length:Int)))) (
              cond ((decide (0≤(IntKind.wrap .i64 (v3-1))))&&(decide ((IntKind.wrap .i64 (v3-1))<(v18.length:Int)))) (
               ((f133 (rd dT2 v1 (Int.toNat v3)).2.1 (rd dT2 v1 (Int.toNat v3)).2.2.1 (rd dT2 v18 (Int.toNat (IntKind.wrap .i64 (v3-1)))).2.1 (rd dT2 v18 (Int.toNat (IntKind.wrap .i64 (v3-1)))).2.2.1)).bind fun y25=>
               cond (!y25.1) (
                some (R3.ret ((false,()),(),()))) (
                some (R3.next (((),(),v1,v2,(IntKind.wrap .i64 (v3+1)),()),((v4,v5,v6,v7,v8,v9,v10,v11,v12,v13,v14,v15,v16,v17,v18,v19,()),(mPut v20 (rd dT2 v1 (Int.toNat v3)).1 (IntKind.wrap .i64 ((mVal v20 (rd dT2 v1 (Int.toNat v3)).1)+1))),()),())))) (
               none)) (
              none)) (
             some (R3.next (((),(),v1,v2,(IntKind.wrap .i64 (v3+1)),()),((v4,v5,v6,v7,v8,v9,v10,v11,v12,v13,v14,v15,v16,v17,v18,v19,()),(mPut v20 (rd dT2 v1 (Int.toNat v3)).1 (IntKind.wrap .i64 ((mVal v20 (rd dT2 v1 (Int.toNat v3)).1)+1))),()),()))))))))))))) (
   none)) (
  some (R3.out (((),()),((v4,v5,v6,v7,v8,v9,v10,v11,v12,v13,v14,v15,v16,v17,v18,v19,()),()),())))
noncomputable def u86_3 (z:X86_3):Option (R3 X86_3 Y86_3 Z86_3):=t86_3 z.1.2.2.1 z.1.2.2.2.1 z.1.2.2.2.2.1 z.2.1.1.1 z.2.1.1.2.1 z.2.1.1.2.2.1 z.2.1.1.2.2.2.1 z.2.1.1.2.2.2.2.1 z.2.1.1.2.2.2.2.2.1 z.2.1.1.2.2.2.2.2.2.1 z.2.1.1.2.2.2.2.2.2.2.1 z.2.1.1.2.2.2.2.2.2.2.2.1 z.2.1.1.2.2.2.2.2.2.2.2.2.1 z.2.1.1.2.2.2.2.2.2.2.2.2.2.1 z.2.1.1.2.2.2.2.2.2.2.2.2.2.2.1 z.2.1.1.2.2.2.2.2.2.2.2.2.2.2.2.1 z.2.1.1.2.2.2.2.2.2.2.2.2.2.2.2.2.1 z.2.1.1.2.2.2.2.2.2.2.2.2.2.2.2.2.2.1 z.2.1.1.2.2.2.2.2.2.2.2.2.2.2.2.2.2.2.1 z.2.1.2.1
noncomputable def f86 (v1 v2 v3 v4 v5 v6 v7 v8 v9 v10 v11:Int)(v12:Bool)(v13:Int)(v14:DT1)(v15:DT2)(v16:DT1):Option DT7:=
 ((iter big u86_3 (((),(),v15,(v15.length:Int),0,()),((v1,v2,v3,v4,v5,v6,v7,v8,v9,v10,v11,v12,v13,v14,v15,v16,()),[],()),()))).bind fun r=>match r with
 | .inl y17=>
   some ((decide ((y17.2.1.1.2.2.2.2.2.2.2.2.2.2.2.2.2.2.1.length:Int)≤32)),())
 | .inr z18=>
   some (z18.1.1,())
noncomputable def f157 (v1 v2 v3 v4 v5:Int):Option (((Int×Int)×Int×Int×Int×Int×Int)×Unit):=
 some (((v2,v3),v1,v2,v3,v4,v5),())
noncomputable def f152 (v1 v2 v3 v4 v5:Int):Option ((Int×Int)×Unit):=
 ((f157 v1 v2 v3 v4 v5)).bind fun y6=>
 some ((y6.1.1.1,y6.1.1.2),())
abbrev X134_88_2_0:Type:=(DT2×Unit×Int×Int×Unit)×(DT21×DT19×Unit)×(Unit)
abbrev Y134_88_2_0:Type:=(Unit)×(DT21×DT19×Unit)×(Unit)
abbrev Z134_88_2_0:Type:=DT9×(DT21×DT19×Unit)×(Unit)
noncomputable def t134_88_2_0 (v1:DT2)(v2 v3 v4 v5:Int):Option (R3 X134_88_2_0 Y134_88_2_0 Z134_88_2_0):=
 cond (decide (v3<v2)) (
  cond ((decide (0≤v3))&&(decide (v3<(v1.length:Int)))) (
   ((f152 (rd dT2 v1 (Int.toNat v3)).1 (rd dT2 v1 (Int.toNat v3)).2.1 (rd dT2 v1 (Int.toNat v3)).2.2.1 (rd dT2 v1 (Int.toNat v3)).2.2.2.1 (rd dT2 v1 (Int.toNat v3)).2.2.2.2)).bind fun y6=>
   cond ((decide (y6.1.1=v4))&&((decide (y6.1.2=v5))&&true)) (
    some (R3.ret ((v3,()),((v4,v5,()),((),()),()),()))) (
    some (R3.next ((v1,(),v2,(IntKind.wrap .i64 (v3+1)),()),((v4,v5,()),((),()),()),())))) (
   none)) (
  some (R3.out ((),((v4,v5,()),((),()),()),())))
noncomputable def u134_88_2_0 (z:X134_88_2_0):Option (R3 X134_88_2_0 Y134_88_2_0 Z134_88_2_0):=t134_88_2_0 z.1.1 z.1.2.2.1 z.1.2.2.2.1 z.2.1.1.1 z.2.1.1.2.1
noncomputable def f134 (v1:DT2)(v2 v3:Int):Option DT9:=
 ((iter big u134_88_2_0 ((v1,(),(v1.length:Int),0,()),((v2,v3,()),((),()),()),()))).bind fun r=>match r with
 | .inl y4=>
   some ((-1),())
 | .inr z5=>
   some (z5.1.1,())
abbrev X87_2:Type:=(Unit×DT1×Int×Int×Unit)×DT24×(Unit)
abbrev Y87_2:Type:=(Unit)×(Unit)×(Unit)
abbrev Z87_2:Type:=DT7×(Unit)×(Unit)
noncomputable def t87_2 (v1:DT1)(v2 v3 v4 v5 v6 v7 v8 v9 v10 v11 v12 v13 v14:Int)(v15:Bool)(v16:Int)(v17:DT1)(v18:DT2)(v19:DT1):Option (R3 X87_2 Y87_2 Z87_2):=
 cond (decide (v3<v2)) (
  cond ((decide (0≤v3))&&(decide (v3<(v1.length:Int)))) (
   ((f131 v4 v5 v6 v7 v8 v9 v10 v11 (rd dT4 v1 (Int.toNat v3)).1 (rd dT4 v1 (Int.toNat v3)).2.1)).bind fun y20=>
   cond (!y20.2.1) (
    some (R3.ret ((false,()),(),()))) (
    ((f83 (rd dT4 v1 (Int.toNat v3)).2.2 (IntKind.wrap .i64 (v16+1)) (IntKind.wrap .i64 (v16+1048576)))).bind fun y21=>
    cond (!y21.1) (
     some (R3.ret ((false,()),(),()))) (
     ((f134 v18 (rd dT4 v1 (Int.toNat v3)).1 (rd dT4 v1 (Int.toNat v3)).2.1)).bind fun y22=>
     cond (!(decide (y22.1=(-1)))) (
      some (R3.ret ((false,()),(),()))) (
      cond (decide (0<v3)) (
       cond ((decide (0≤(IntKind.wrap .i64 (v3-1))))&&(decide ((IntKind.wrap .i64 (v3-1))<(v19.length:Int)))) (
        cond ((decide (0≤(IntKind.wrap .i64 (v3-1))))&&(decide ((IntKind.wrap .i64 (v3-1))<(v19.length:Int)))) (
         ((f133 (rd dT4 v1 (Int.toNat v3)).1 (rd dT4 v1 (Int.toNat v3)).2.1 (rd dT4 v19 (Int.toNat (IntKind.wrap .i64 (v3-1)))).1 (rd dT4 v19 (Int.toNat (IntKind.wrap .i64 (v3-1)))).2.1)).bind fun y23=>
         cond (!y23.1) (
          some (R3.ret ((false,()),(),()))) (
          some (R3.next (((),v1,v2,(IntKind.wrap .i64 (v3+1)),()),((v4,v5,v6,v7,v8,v9,v10,v11,v12,v13,v14,v15,v16,v17,v18,v19,()),()),())))) (
         none)) (
        none)) (
       some (R3.next (((),v1,v2,(IntKind.wrap .i64 (v3+1)),()),((v4,v5,v6,v7,v8,v9,v10,v11,v12,v13,v14,v15,v16,v17,v18,v19,()),()),()))))))) (
   none)) (
  some (R3.out ((),(),())))
noncomputable def u87_2 (z:X87_2):Option (R3 X87_2 Y87_2 Z87_2):=t87_2 z.1.2.1 z.1.2.2.1 z.1.2.2.2.1 z.2.1.1.1 z.2.1.1.2.1 z.2.1.1.2.2.1 z.2.1.1.2.2.2.1 z.2.1.1.2.2.2.2.1 z.2.1.1.2.2.2.2.2.1 z.2.1.1.2.2.2.2.2.2.1 z.2.1.1.2.2.2.2.2.2.2.1 z.2.1.1.2.2.2.2.2.2.2.2.1 z.2.1.1.2.2.2.2.2.2.2.2.2.1 z.2.1.1.2.2.2.2.2.2.2.2.2.2.1 z.2.1.1.2.2.2.2.2.2.2.2.2.2.2.1 z.2.1.1.2.2.2.2.2.2.2.2.2.2.2.2.1 z.2.1.1.2.2.2.2.2.2.2.2.2.2.2.2.2.1 z.2.1.1.2.2.2.2.2.2.2.2.2.2.2.2.2.2.1 z.2.1.1.2.2.2.2.2.2.2.2.2.2.2.2.2.2.2.1
noncomputable def f87 (v1 v2 v3 v4 v5 v6 v7 v8 v9 v10 v11:Int)(v12:Bool)(v13:Int)(v14:DT1)(v15:DT2)(v16:DT1):Option DT7:=
 ((iter big u87_2 (((),v16,(v16.length:Int),0,()),((v1,v2,v3,v4,v5,v6,v7,v8,v9,v10,v11,v12,v13,v14,v15,v16,()),()),()))).bind fun r=>match r with
 | .inl y17=>
   some (true,())
 | .inr z18=>
   some (z18.1.1,())
noncomputable def f48 (v1 v2 v3 v4 v5 v6 v7 v8 v9 v10 v11:Int)(v12:Bool)(v13:Int)(v14:DT1)(v15:DT2)(v16:DT1):Option DT7:=
 ((f81 v1 v2 v3 v4 v5 v6 v7 v8)).bind fun y17=>
 cond y17.1 (
  ((f82 v9 v10 v11 v12)).bind fun y18=>
  cond y18.1 (
   ((f83 v13 0 1073741824)).bind fun y19=>
   cond y19.1 (
    ((f85 v1 v2 v3 v4 v5 v6 v7 v8 v9 v10 v11 v12 v13 v14 v15 v16)).bind fun y20=>
    ((f84 v14 y20.1)).bind fun y21=>
    cond y21.1 (
     ((f86 v1 v2 v3 v4 v5 v6 v7 v8 v9 v10 v11 v12 v13 v14 v15 v16)).bind fun y22=>
     cond y22.1 (
      ((f87 v1 v2 v3 v4 v5 v6 v7 v8 v9 v10 v11 v12 v13 v14 v15 v16)).bind fun y23=>
      some (y23.1,())) (
      some (false,()))) (
     some (false,()))) (
    some (false,()))) (
   some (false,()))) (
  some (false,()))
noncomputable def f65 (v1:DT4):Option ((DT4×DT4×DT4×DT4×DT4)×Bool×Unit):=
 ((f63 v1 0)).bind fun y2=>
 cond (decide (y2.2.1=(-1))) (
  some (([],[],[],[],[]),false,())) (
  cond (decide ((IntKind.wrap .i64 ((v1.length:Int)-y2.2.1))<y2.1)) (
   some (([],[],[],[],[]),false,())) (
   cond ((((decide (0≤y2.2.1))&&(decide (y2.2.1≤(IntKind.wrap .i64 (y2.2.1+y2.1)))))&&(decide ((IntKind.wrap .i64 (y2.2.1+y2.1))≤(IntKind.wrap .i64 (y2.2.1+y2.1)))))&&(decide ((IntKind.wrap .i64 (y2.2.1+y2.1))≤(v1.length:Int)))) (
    cond (((decide (0≤(IntKind.wrap .i64 (y2.2.1+y2.1))))&&(decide ((IntKind.wrap .i64 (y2.2.1+y2.1))≤(v1.length:Int))))&&(decide ((v1.length:Int)≤(v1.length:Int)))) (
     ((f63 (List.drop (Int.toNat (IntKind.wrap .i64 (y2.2.1+y2.1))) (List.take (Int.toNat (v1.length:Int)) v1)) 0)).bind fun y3=>
     cond (decide (y3.2.1=(-1))) (
      some (((List.drop (Int.toNat y2.2.1) (List.take (Int.toNat (IntKind.wrap .i64 (y2.2.1+y2.1))) v1)),[],[],[],[]),false,())) (
      cond (decide ((IntKind.wrap .i64 ((((List.drop (Int.toNat (IntKind.wrap .i64 (y2.2.1+y2.1))) (List.take (Int.toNat (v1.length:Int)) v1)).length:Nat):Int)-y3.2.1))<y3.1)) (
       some (((List.drop (Int.toNat y2.2.1) (List.take (Int.toNat (IntKind.wrap .i64 (y2.2.1+y2.1))) v1)),[],[],[],[]),false,())) (
       cond ((((decide (0≤y3.2.1))&&(decide (y3.2.1≤(IntKind.wrap .i64 (y3.2.1+y3.1)))))&&(decide ((IntKind.wrap .i64 (y3.2.1+y3.1))≤(IntKind.wrap .i64 (y3.2.1+y3.1)))))&&(decide ((IntKind.wrap .i64 (y3.2.1+y3.1))≤(((List.drop (Int.toNat (IntKind.wrap .i64 (y2.2.1+y2.1))) (List.take (Int.toNat (v1.length:Int)) v1)).length:Nat):Int)))) (
        cond (((decide (0≤(IntKind.wrap .i64 (y3.2.1+y3.1))))&&(decide ((IntKind.wrap .i64 (y3.2.1+y3.1))≤(((List.drop (Int.toNat (IntKind.wrap .i64 (y2.2.1+y2.1))) (List.take (Int.toNat (v1.length:Int)) v1)).length:Nat):Int))))&&(decide ((((List.drop (Int.toNat (IntKind.wrap .i64 (y2.2.1+y2.1))) (List.take (Int.toNat (v1.length:Int)) v1)).length:Nat):Int)≤(((List.drop (Int.toNat (IntKind.wrap .i64 (y2.2.1+y2.1))) (List.take (Int.toNat (v1.length:Int)) v1)).length:Nat):Int)))) (
         ((f63 (List.drop (Int.toNat (IntKind.wrap .i64 (y3.2.1+y3.1))) (List.take (Int.toNat (((List.drop (Int.toNat (IntKind.wrap .i64 (y2.2.1+y2.1))) (List.take (Int.toNat (v1.length:Int)) v1)).length:Nat):Int)) (List.drop (Int.toNat (IntKind.wrap .i64 (y2.2.1+y2.1))) (List.take (Int.toNat (v1.length:Int)) v1)))) 0)).bind fun y4=>
         cond (decide (y4.2.1=(-1))) (
          some (((List.drop (Int.toNat y2.2.1) (List.take (Int.toNat (IntKind.wrap .i64 (y2.2.1+y2.1))) v1)),(List.drop (Int.toNat y3.2.1) (List.take (Int.toNat (IntKind.wrap .i64 (y3.2.1+y3.1))) (List.drop (Int.toNat (IntKind.wrap .i64 (y2.2.1+y2.1))) (List.take (Int.toNat (v1.length:Int)) v1)))),[],[],[]),false,())) (
          cond (decide ((IntKind.wrap .i64 ((((List.drop (Int.toNat (IntKind.wrap .i64 (y3.2.1+y3.1))) (List.take (Int.toNat (((List.drop (Int.toNat (IntKind.wrap .i64 (y2.2.1+y2.1))) (List.take (Int.toNat (v1.length:Int)) v1)).length:Nat):Int)) (List.drop (Int.toNat (IntKind.wrap .i64 (y2.2.1+y2.1))) (List.take (Int.toNat (v1.length:Int)) v1)))).length:Nat):Int)-y4.2.1))<y4.1)) (
           some (((List.drop (Int.toNat y2.2.1) (List.take (Int.toNat (IntKind.wrap .i64 (y2.2.1+y2.1))) v1)),(List.drop (Int.toNat y3.2.1) (List.take (Int.toNat (IntKind.wrap .i64 (y3.2.1+y3.1))) (List.drop (Int.toNat (IntKind.wrap .i64 (y2.2.1+y2.1))) (List.take (Int.toNat (v1.length:Int)) v1)))),[],[],[]),false,())) (
           cond ((((decide (0≤y4.2.1))&&(decide (y4.2.1≤(IntKind.wrap .i64 (y4.2.1+y4.1)))))&&(decide ((IntKind.wrap .i64 (y4.2.1+y4.1))≤(IntKind.wrap .i64 (y4.2.1+y4.1)))))&&(decide ((IntKind.wrap .i64 (y4.2.1+y4.1))≤(((List.drop (Int.toNat (IntKind.wrap .i64 (y3.2.1+y3.1))) (List.take (Int.toNat (((List.drop (Int.toNat (IntKind.wrap .i64 (y2.2.1+y2.1))) (List.take (Int.toNat (v1.length:Int)) v1)).length:Nat):Int)) (List.drop (Int.toNat (IntKind.wrap .i64 (y2.2.1+y2.1))) (List.take (Int.toNat (v1.length:Int)) v1)))).length:Nat):Int)))) (
            cond (((decide (0≤(IntKind.wrap .i64 (y4.2.1+y4.1))))&&(decide ((IntKind.wrap .i64 (y4.2.1+y4.1))≤(((List.drop (Int.toNat (IntKind.wrap .i64 (y3.2.1+y3.1))) (List.take (Int.toNat (((List.drop (Int.toNat (IntKind.wrap .i64 (y2.2.1+y2.1))) (List.take (Int.toNat (v1.length:Int)) v1)).length:Nat):Int)) (List.drop (Int.toNat (IntKind.wrap .i64 (y2.2.1+y2.1))) (List.take (Int.toNat (v1.length:Int)) v1)))).length:Nat):Int))))&&(decide ((((List.drop (Int.toNat (IntKind.wrap .i64 (y3.2.1+y3.1))) (List.take (Int.toNat (((List.drop (Int.toNat (IntKind.wrap .i64 (y2.2.1+y2.1))) (List.take (Int.toNat (v1.length:Int)) v1)).length:Nat):Int)) (List.drop (Int.toNat (IntKind.wrap .i64 (y2.2.1+y2.1))) (List.take (Int.toNat (v1.length:Int)) v1)))).length:Nat):Int)≤(((List.drop (Int.toNat (IntKind.wrap .i64 (y3.2.1+y3.1))) (List.take (Int.toNat (((List.drop (Int.toNat (IntKind.wrap .i64 (y2.2.1+y2.1))) (List.take (Int.toNat (v1.length:Int)) v1)).length:Nat):Int)) (List.drop (Int.toNat (IntKind.wrap .i64 (y2.2.1+y2.1))) (List.take (Int.toNat (v1.length:Int)) v1)))).length:Nat):Int)))) (
             ((f63 (List.drop (Int.toNat (IntKind.wrap .i64 (y4.2.1+y4.1))) (List.take (Int.toNat (((List.drop (Int.toNat (IntKind.wrap .i64 (y3.2.1+y3.1))) (List.take (Int.toNat (((List.drop (Int.toNat (IntKind.wrap .i64 (y2.2.1+y2.1))) (List.take (Int.toNat (v1.length:Int)) v1)).length:Nat):Int)) (List.drop (Int.toNat (IntKind.wrap .i64 (y2.2.1+y2.1))) (List.take (Int.toNat (v1.length:Int)) v1)))).length:Nat):Int)) (List.drop (Int.toNat (IntKind.wrap .i64 (y3.2.1+y3.1))) (List.take (Int.toNat (((List.drop (Int.toNat (IntKind.wrap .i64 (y2.2.1+y2.1))) (List.take (Int.toNat (v1.length:Int)) v1)).length:Nat):Int)) (List.drop (Int.toNat (IntKind.wrap .i64 (y2.2.1+y2.1))) (List.take (Int.toNat (v1.length:Int)) v1)))))) 0)).bind fun y5=>
             cond (decide (y5.2.1=(-1))) (
              some (((List.drop (Int.toNat y2.2.1) (List.take (Int.toNat (IntKind.wrap .i64 (y2.2.1+y2.1))) v1)),(List.drop (Int.toNat y3.2.1) (List.take (Int.toNat (IntKind.wrap .i64 (y3.2.1+y3.1))) (List.drop (Int.toNat (IntKind.wrap .i64 (y2.2.1+y2.1))) (List.take (Int.toNat (v1.length:Int)) v1)))),(List.drop (Int.toNat y4.2.1) (List.take (Int.toNat (IntKind.wrap .i64 (y4.2.1+y4.1))) (List.drop (Int.toNat (IntKind.wrap .i64 (y3.2.1+y3.1))) (List.take (Int.toNat (((List.drop (Int.toNat (IntKind.wrap .i64 (y2.2.1+y2.1))) (List.take (Int.toNat (v1.length:Int)) v1)).length:Nat):Int)) (List.drop (Int.toNat (IntKind.wrap .i64 (y2.2.1+y2.1))) (List.take (Int.toNat (v1.length:Int)) v1)))))),[],[]),false,())) (
              cond (decide ((IntKind.wrap .i64 ((((List.drop (Int.toNat (IntKind.wrap .i64 (y4.2.1+y4.1))) (List.take (Int.toNat (((List.drop (Int.toNat (IntKind.wrap .i64 (y3.2.1+y3.1))) (List.take (Int.toNat (((List.drop (Int.toNat (IntKind.wrap .i64 (y2.2.1+y2.1))) (List.take (Int.toNat (v1.length:Int)) v1)).length:Nat):Int)) (List.drop (Int.toNat (IntKind.wrap .i64 (y2.2.1+y2.1))) (List.take (Int.toNat (v1.length:Int)) v1)))).length:Nat):Int)) (List.drop (Int.toNat (IntKind.wrap .i64 (y3.2.1+y3.1))) (List.take (Int.toNat (((List.drop (Int.toNat (IntKind.wrap .i64 (y2.2.1+y2.1))) (List.take (Int.toNat (v1.length:Int)) v1)).length:Nat):Int)) (List.drop (Int.toNat (IntKind.wrap .i64 (y2.2.1+y2.1))) (List.take (Int.toNat (v1.length:Int)) v1)))))).length:Nat):Int)-y5.2.1))<y5.1)) (
               some (((List.drop (Int.toNat y2.2.1) (List.take (Int.toNat (IntKind.wrap .i64 (y2.2.1+y2.1))) v1)),(List.drop (Int.toNat y3.2.1) (List.take (Int.toNat (IntKind.wrap .i64 (y3.2.1+y3.1))) (List.drop (Int.toNat (IntKind.wrap .i64 (y2.2.1+y2.1))) (List.take (Int.toNat (v1.length:Int)) v1)))),(List.drop (Int.toNat y4.2.1) (List.take (Int.toNat (IntKind.wrap .i64 (y4.2.1+y4.1))) (List.drop (Int.toNat (IntKind.wrap .i64 (y3.2.1+y3.1))) (List.take (Int.toNat (((List.drop (Int.toNat (IntKind.wrap .i64 (y2.2.1+y2.1))) (List.take (Int.toNat (v1.length:Int)) v1)).length:Nat):Int)) (List.drop (Int.toNat (IntKind.wrap .i64 (y2.2.1+y2.1))) (List.take (Int.toNat (v1.length:Int)) v1)))))),[],[]),false,())) (
               cond ((((decide (0≤y5.2.1))&&(decide (y5.2.1≤(IntKind.wrap .i64 (y5.2.1+y5.1)))))&&(decide ((IntKind.wrap .i64 (y5.2.1+y5.1))≤(IntKind.wrap .i64 (y5.2.1+y5.1)))))&&(decide ((IntKind.wrap .i64 (y5.2.1+y5.1))≤(((List.drop (Int.toNat (IntKind.wrap .i64 (y4.2.1+y4.1))) (List.take (Int.toNat (((List.drop (Int.toNat (IntKind.wrap .i64 (y3.2.1+y3.1))) (List.take (Int.toNat (((List.drop (Int.toNat (IntKind.wrap .i64 (y2.2.1+y2.1))) (List.take (Int.toNat (v1.length:Int)) v1)).length:Nat):Int)) (List.drop (Int.toNat (IntKind.wrap .i64 (y2.2.1+y2.1))) (List.take (Int.toNat (v1.length:Int)) v1)))).length:Nat):Int)) (List.drop (Int.toNat (IntKind.wrap .i64 (y3.2.1+y3.1))) (List.take (Int.toNat (((List.drop (Int.toNat (IntKind.wrap .i64 (y2.2.1+y2.1))) (List.take (Int.toNat (v1.length:Int)) v1)).length:Nat):Int)) (List.drop (Int.toNat (IntKind.wrap .i64 (y2.2.1+y2.1))) (List.take (Int.toNat (v1.length:Int)) v1)))))).length:Nat):Int)))) (
                cond (((decide (0≤(IntKind.wrap .i64 (y5.2.1+y5.1))))&&(decide ((IntKind.wrap .i64 (y5.2.1+y5.1))≤(((List.drop (Int.toNat (IntKind.wrap .i64 (y4.2.1+y4.1))) (List.take (Int.toNat (((List.drop (Int.toNat (IntKind.wrap .i64 (y3.2.1+y3.1))) (List.take (Int.toNat (((List.drop (Int.toNat (IntKind.wrap .i64 (y2.2.1+y2.1))) (List.take (Int.toNat (v1.length:Int)) v1)).length:Nat):Int)) (List.drop (Int.toNat (IntKind.wrap .i64 (y2.2.1+y2.1))) (List.take (Int.toNat (v1.length:Int)) v1)))).length:Nat):Int)) (List.drop (Int.toNat (IntKind.wrap .i64 (y3.2.1+y3.1))) (List.take (Int.toNat (((List.drop (Int.toNat (IntKind.wrap .i64 (y2.2.1+y2.1))) (List.take (Int.toNat (v1.length:Int)) v1)).length:Nat):Int)) (List.drop (Int.toNat (IntKind.wrap .i64 (y2.2.1+y2.1))) (List.take (Int.toNat (v1.length:Int)) v1)))))).length:Nat):Int))))&&(decide ((((List.drop (Int.toNat (IntKind.wrap .i64 (y4.2.1+y4.1))) (List.take (Int.toNat (((List.drop (Int.toNat (IntKind.wrap .i64 (y3.2.1+y3.1))) (List.take (Int.toNat (((List.drop (Int.toNat (IntKind.wrap .i64 (y2.2.1+y2.1))) (List.take (Int.toNat (v1.length:Int)) v1)).length:Nat):Int)) (List.drop (Int.toNat (IntKind.wrap .i64 (y2.2.1+y2.1))) (List.take (Int.toNat (v1.length:Int)) v1)))).length:Nat):Int)) (List.drop (Int.toNat (IntKind.wrap .i64 (y3.2.1+y3.1))) (List.take (Int.toNat (((List.drop (Int.toNat (IntKind.wrap .i64 (y2.2.1+y2.1))) (List.take (Int.toNat (v1.length:Int)) v1)).length:Nat):Int)) (List.drop (Int.toNat (IntKind.wrap .i64 (y2.2.1+y2.1))) (List.take (Int.toNat (v1.length:Int)) v1)))))).length:Nat):Int)≤(((List.drop (Int.toNat (IntKind.wrap .i64 (y4.2.1+y4.1))) (List.take (Int.toNat (((List.drop (Int.toNat (IntKind.wrap .i64 (y3.2.1+y3.1))) (List.take (Int.toNat (((List.drop (Int.toNat (IntKind.wrap .i64 (y2.2.1+y2.1))) (List.take (Int.toNat (v1.length:Int)) v1)).length:Nat):Int)) (List.drop (Int.toNat (IntKind.wrap .i64 (y2.2.1+y2.1))) (List.take (Int.toNat (v1.length:Int)) v1)))).length:Nat):Int)) (List.drop (Int.toNat (IntKind.wrap .i64 (y3.2.1+y3.1))) (List.take (Int.toNat (((List.drop (Int.toNat (IntKind.wrap .i64 (y2.2.1+y2.1))) (List.take (Int.toNat (v1.length:Int)) v1)).length:Nat):Int)) (List.drop (Int.toNat (IntKind.wrap .i64 (y2.2.1+y2.1))) (List.take (Int.toNat (v1.length:Int)) v1)))))).length:Nat):Int)))) (
                 ((f63 (List.drop (Int.toNat (IntKind.wrap .i64 (y5.2.1+y5.1))) (List.take (Int.toNat (((List.drop (Int.toNat (IntKind.wrap .i64 (y4.2.1+y4.1))) (List.take (Int.toNat (((List.drop (Int.toNat (IntKind.wrap .i64 (y3.2.1+y3.1))) (List.take (Int.toNat (((List.drop (Int.toNat (IntKind.wrap .i64 (y2.2.1+y2.1))) (List.take (Int.toNat (v1.length:Int)) v1)).length:Nat):Int)) (List.drop (Int.toNat (IntKind.wrap .i64 (y2.2.1+y2.1))) (List.take (Int.toNat (v1.length:Int)) v1)))).length:Nat):Int)) (List.drop (Int.toNat (IntKind.wrap .i64 (y3.2.1+y3.1))) (List.take (Int.toNat (((List.drop (Int.toNat (IntKind.wrap .i64 (y2.2.1+y2.1))) (List.take (Int.toNat (v1.length:Int)) v1)).length:Nat):Int)) (List.drop (Int.toNat (IntKind.wrap .i64 (y2.2.1+y2.1))) (List.take (Int.toNat (v1.length:Int)) v1)))))).length:Nat):Int)) (List.drop (Int.toNat (IntKind.wrap .i64 (y4.2.1+y4.1))) (List.take (Int.toNat (((List.drop (Int.toNat (IntKind.wrap .i64 (y3.2.1+y3.1))) (List.take (Int.toNat (((List.drop (Int.toNat (IntKind.wrap .i64 (y2.2.1+y2.1))) (List.take (Int.toNat (v1.length:Int)) v1)).length:Nat):Int)) (List.drop (Int.toNat (IntKind.wrap .i64 (y2.2.1+y2.1))) (List.take (Int.toNat (v1.length:Int)) v1)))).length:Nat):Int)) (List.drop (Int.toNat (IntKind.wrap .i64 (y3.2.1+y3.1))) (List.take (Int.toNat (((List.drop (Int.toNat (IntKind.wrap .i64 (y2.2.1+y2.1))) (List.take (Int.toNat (v1.length:Int)) v1)).length:Nat):Int)) (List.drop (Int.toNat (IntKind.wrap .i64 (y2.2.1+y2.1))) (List.take (Int.toNat (v1.length:Int)) v1)))))))) 0)).bind fun y6=>
                 cond (decide (y6.2.1=(-1))) (
                  some (((List.drop (Int.toNat y2.2.1) (List.take (Int.toNat (IntKind.wrap .i64 (y2.2.1+y2.1))) v1)),(List.drop (Int.toNat y3.2.1) (List.take (Int.toNat (IntKind.wrap .i64 (y3.2.1+y3.1))) (List.drop (Int.toNat (IntKind.wrap .i64 (y2.2.1+y2.1))) (List.take (Int.toNat (v1.length:Int)) v1)))),(List.drop (Int.toNat y4.2.1) (List.take (Int.toNat (IntKind.wrap .i64 (y4.2.1+y4.1))) (List.drop (Int.toNat (IntKind.wrap .i64 (y3.2.1+y3.1))) (List.take (Int.toNat (((List.drop (Int.toNat (IntKind.wrap .i64 (y2.2.1+y2.1))) (List.take (Int.toNat (v1.length:Int)) v1)).length:Nat):Int)) (List.drop (Int.toNat (IntKind.wrap .i64 (y2.2.1+y2.1))) (List.take (Int.toNat (v1.length:Int)) v1)))))),(List.drop (Int.toNat y5.2.1) (List.take (Int.toNat (IntKind.wrap .i64 (y5.2.1+y5.1))) (List.drop (Int.toNat (IntKind.wrap .i64 (y4.2.1+y4.1))) (List.take (Int.toNat (((List.drop (Int.toNat (IntKind.wrap .i64 (y3.2.1+y3.1))) (List.take (Int.toNat (((List.drop (Int.toNat (IntKind.wrap .i64 (y2.2.1+y2.1))) (List.take (Int.toNat (v1.length:Int)) v1)).length:Nat):Int)) (List.drop (Int.toNat (IntKind.wrap .i64 (y2.2.1+y2.1))) (List.take (Int.toNat (v1.length:Int)) v1)))).length:Nat):Int)) (List.drop (Int.toNat (IntKind.wrap .i64 (y3.2.1+y3.1))) (List.take (Int.toNat (((List.drop (Int.toNat (IntKind.wrap .i64 (y2.2.1+y2.1))) (List.take (Int.toNat (v1.length:Int)) v1)).length:Nat):Int)) (List.drop (Int.toNat (IntKind.wrap .i64 (y2.2.1+y2.1))) (List.take (Int.toNat (v1.length:Int)) v1)))))))),[]),false,())) (
                  cond (decide ((IntKind.wrap .i64 ((((List.drop (Int.toNat (IntKind.wrap .i64 (y5.2.1+y5.1))) (List.take (Int.toNat (((List.drop (Int.toNat (IntKind.wrap .i64 (y4.2.1+y4.1))) (List.take (Int.toNat (((List.drop (Int.toNat (IntKind.wrap .i64 (y3.2.1+y3.1))) (List.take (Int.toNat (((List.drop (Int.toNat (IntKind.wrap .i64 (y2.2.1+y2.1))) (List.take (Int.toNat (v1.length:Int)) v1)).length:Nat):Int)) (List.drop (Int.toNat (IntKind.wrap .i64 (y2.2.1+y2.1))) (List.take (Int.toNat (v1.length:Int)) v1)))).length:Nat):Int)) (List.drop (Int.toNat (IntKind.wrap .i64 (y3.2.1+y3.1))) (List.take (Int.toNat (((List.drop (Int.toNat (IntKind.wrap .i64 (y2.2.1+y2.1))) (List.take (Int.toNat (v1.length:Int)) v1)).length:Nat):Int)) (List.drop (Int.toNat (IntKind.wrap .i64 (y2.2.1+y2.1))) (List.take (Int.toNat (v1.length:Int)) v1)))))).length:Nat):Int)) (List.drop (Int.toNat (IntKind.wrap .i64 (y4.2.1+y4.1))) (List.take (Int.toNat (((List.drop (Int.toNat (IntKind.wrap .i64 (y3.2.1+y3.1))) (List.take (Int.toNat (((List.drop (Int.toNat (IntKind.wrap .i64 (y2.2.1+y2.1))) (List.take (Int.toNat (v1.length:Int)) v1)).length:Nat):Int)) (List.drop (Int.toNat (IntKind.wrap .i64 (y2.2.1+y2.1))) (List.take (Int.toNat (v1.length:Int)) v1)))).length:Nat):Int)) (List.drop (Int.toNat (IntKind.wrap .i64 (y3.2.1+y3.1))) (List.take (Int.toNat (((List.drop (Int.toNat (IntKind.wrap .i64 (y2.2.1+y2.1))) (List.take (Int.toNat (v1.length:Int)) v1)).length:Nat):Int)) (List.drop (Int.toNat (IntKind.wrap .i64 (y2.2.1+y2.1))) (List.take (Int.toNat (v1.length:Int)) v1)))))))).length:Nat):Int)-y6.2.1))<y6.1)) (
                   some (((List.drop (Int.toNat y2.2.1) (List.take (Int.toNat (IntKind.wrap .i64 (y2.2.1+y2.1))) v1)),(List.drop (Int.toNat y3.2.1) (List.take (Int.toNat (IntKind.wrap .i64 (y3.2.1+y3.1))) (List.drop (Int.toNat (IntKind.wrap .i64 (y2.2.1+y2.1))) (List.take (Int.toNat (v1.length:Int)) v1)))),(List.drop (Int.toNat y4.2.1) (List.take (Int.toNat (IntKind.wrap .i64 (y4.2.1+y4.1))) (List.drop (Int.toNat (IntKind.wrap .i64 (y3.2.1+y3.1))) (List.take (Int.toNat (((List.drop (Int.toNat (IntKind.wrap .i64 (y2.2.1+y2.1))) (List.take (Int.toNat (v1.length:Int)) v1)).length:Nat):Int)) (List.drop (Int.toNat (IntKind.wrap .i64 (y2.2.1+y2.1))) (List.take (Int.toNat (v1.length:Int)) v1)))))),(List.drop (Int.toNat y5.2.1) (List.take (Int.toNat (IntKind.wrap .i64 (y5.2.1+y5.1))) (List.drop (Int.toNat (IntKind.wrap .i64 (y4.2.1+y4.1))) (List.take (Int.toNat (((List.drop (Int.toNat (IntKind.wrap .i64 (y3.2.1+y3.1))) (List.take (Int.toNat (((List.drop (Int.toNat (IntKind.wrap .i64 (y2.2.1+y2.1))) (List.take (Int.toNat (v1.length:Int)) v1)).length:Nat):Int)) (List.drop (Int.toNat (IntKind.wrap .i64 (y2.2.1+y2.1))) (List.take (Int.toNat (v1.length:Int)) v1)))).length:Nat):Int)) (List.drop (Int.toNat (IntKind.wrap .i64 (y3.2.1+y3.1))) (List.take (Int.toNat (((List.drop (Int.toNat (IntKind.wrap .i64 (y2.2.1+y2.1))) (List.take (Int.toNat (v1.length:Int)) v1)).length:Nat):Int)) (List.drop (Int.toNat (IntKind.wrap .i64 (y2.2.1+y2.1))) (List.take (Int.toNat (v1.length:Int)) v1)))))))),[]),false,())) (
                   cond ((((decide (0≤y6.2.1))&&(decide (y6.2.1≤(IntKind.wrap .i64 (y6.2.1+y6.1)))))&&(decide ((IntKind.wrap .i64 (y6.2.1+y6.1))≤(IntKind.wrap .i64 (y6.2.1+y6.1)))))&&(decide ((IntKind.wrap .i64 (y6.2.1+y6.1))≤(((List.drop (Int.toNat (IntKind.wrap .i64 (y5.2.1+y5.1))) (List.take (Int.toNat (((List.drop (Int.toNat (IntKind.wrap .i64 (y4.2.1+y4.1))) (List.take (Int.toNat (((List.drop (Int.toNat (IntKind.wrap .i64 (y3.2.1+y3.1))) (List.take (Int.toNat (((List.drop (Int.toNat (IntKind.wrap .i64 (y2.2.1+y2.1))) (List.take (Int.toNat (v1.length:Int)) v1)).length:Nat):Int)) (List.drop (Int.toNat (IntKind.wrap .i64 (y2.2.1+y2.1))) (List.take (Int.toNat (v1.length:Int)) v1)))).length:Nat):Int)) (List.drop (Int.toNat (IntKind.wrap .i64 (y3.2.1+y3.1))) (List.take (Int.toNat (((List.drop (Int.toNat (IntKind.wrap .i64 (y2.2.1+y2.1))) (List.take (Int.toNat (v1.length:Int)) v1)).length:Nat):Int)) (List.drop (Int.toNat (IntKind.wrap .i64 (y2.2.1+y2.1))) (List.take (Int.toNat (v1.length:Int)) v1)))))).length:Nat):Int)) (List.drop (Int.toNat (IntKind.wrap .i64 (y4.2.1+y4.1))) (List.take (Int.toNat (((List.drop (Int.toNat (IntKind.wrap .i64 (y3.2.1+y3.1))) (List.take (Int.toNat (((List.drop (Int.toNat (IntKind.wrap .i64 (y2.2.1+y2.1))) (List.take (Int.toNat (v1.length:Int)) v1)).length:Nat):Int)) (List.drop (Int.toNat (IntKind.wrap .i64 (y2.2.1+y2.1))) (List.take (Int.toNat (v1.length:Int)) v1)))).length:Nat):Int)) (List.drop (Int.toNat (IntKind.wrap .i64 (y3.2.1+y3.1))) (List.take (Int.toNat (((List.drop (Int.toNat (IntKind.wrap .i64 (y2.2.1+y2.1))) (List.take (Int.toNat (v1.length:Int)) v1)).length:Nat):Int)) (List.drop (Int.toNat (IntKind.wrap .i64 (y2.2.1+y2.1))) (List.take (Int.toNat (v1.length:Int)) v1)))))))).length:Nat):Int)))) (
                    cond (((decide (0≤(IntKind.wrap .i64 (y6.2.1+y6.1))))&&(decide ((IntKind.wrap .i64 (y6.2.1+y6.1))≤(((List.drop (Int.toNat (IntKind.wrap .i64 (y5.2.1+y5.1))) (List.take (Int.toNat (((List.drop (Int.toNat (IntKind.wrap .i64 (y4.2.1+y4.1))) (List.take (Int.toNat (((List.drop (Int.toNat (IntKind.wrap .i64 (y3.2.1+y3.1))) (List.take (Int.toNat (((List.drop (Int.toNat (IntKind.wrap .i64 (y2.2.1+y2.1))) (List.take (Int.toNat (v1.length:Int)) v1)).length:Nat):Int)) (List.drop (Int.toNat (IntKind.wrap .i64 (y2.2.1+y2.1))) (List.take (Int.toNat (v1.length:Int)) v1)))).length:Nat):Int)) (List.drop (Int.toNat (IntKind.wrap .i64 (y3.2.1+y3.1))) (List.take (Int.toNat (((List.drop (Int.toNat (IntKind.wrap .i64 (y2.2.1+y2.1))) (List.take (Int.toNat (v1.length:Int)) v1)).length:Nat):Int)) (List.drop (Int.toNat (IntKind.wrap .i64 (y2.2.1+y2.1))) (List.take (Int.toNat (v1.length:Int)) v1)))))).length:Nat):Int)) (List.drop (Int.toNat (IntKind.wrap .i64 (y4.2.1+y4.1))) (List.take (Int.toNat (((List.drop (Int.toNat (IntKind.wrap .i64 (y3.2.1+y3.1))) (List.take (Int.toNat (((List.drop (Int.toNat (IntKind.wrap .i64 (y2.2.1+y2.1))) (List.take (Int.toNat (v1.length:Int)) v1)).length:Nat):Int)) (List.drop (Int.toNat (IntKind.wrap .i64 (y2.2.1+y2.1))) (List.take (Int.toNat (v1.length:Int)) v1)))).length:Nat):Int)) (List.drop (Int.toNat (IntKind.wrap .i64 (y3.2.1+y3.1))) (List.take (Int.toNat (((List.drop (Int.toNat (IntKind.wrap .i64 (y2.2.1+y2.1))) (List.take (Int.toNat (v1.length:Int)) v1)).length:Nat):Int)) (List.drop (Int.toNat (IntKind.wrap .i64 (y2.2.1+y2.1))) (List.take (Int.toNat (v1.length:Int)) v1)))))))).length:Nat):Int))))&&(decide ((((List.drop (Int.toNat (IntKind.wrap .i64 (y5.2.1+y5.1))) (List.take (Int.toNat (((List.drop (Int.toNat (IntKind.wrap .i64 (y4.2.1+y4.1))) (List.take (Int.toNat (((List.drop (Int.toNat (IntKind.wrap .i64 (y3.2.1+y3.1))) (List.take (Int.toNat (((List.drop (Int.toNat (IntKind.wrap .i64 (y2.2.1+y2.1))) (List.take (Int.toNat (v1.length:Int)) v1)).length:Nat):Int)) (List.drop (Int.toNat (IntKind.wrap .i64 (y2.2.1+y2.1))) (List.take (Int.toNat (v1.length:Int)) v1)))).length:Nat):Int)) (List.drop (Int.toNat (IntKind.wrap .i64 (y3.2.1+y3.1))) (List.take (Int.toNat (((List.drop (Int.toNat (IntKind.wrap .i64 (y2.2.1+y2.1))) (List.take (Int.toNat (v1.length:Int)) v1)).length:Nat):Int)) (List.drop (Int.toNat (IntKind.wrap .i64 (y2.2.1+y2.1))) (List.take (Int.toNat (v1.length:Int)) v1)))))).length:Nat):Int)) (List.drop (Int.toNat (IntKind.wrap .i64 (y4.2.1+y4.1))) (List.take (Int.toNat (((List.drop (Int.toNat (IntKind.wrap .i64 (y3.2.1+y3.1))) (List.take (Int.toNat (((List.drop (Int.toNat (IntKind.wrap .i64 (y2.2.1+y2.1))) (List.take (Int.toNat (v1.length:Int)) v1)).length:Nat):Int)) (List.drop (Int.toNat (IntKind.wrap .i64 (y2.2.1+y2.1))) (List.take (Int.toNat (v1.length:Int)) v1)))).length:Nat):Int)) (List.drop (Int.toNat (IntKind.wrap .i64 (y3.2.1+y3.1))) (List.take (Int.toNat (((List.drop (Int.toNat (IntKind.wrap .i64 (y2.2.1+y2.1))) (List.take (Int.toNat (v1.length:Int)) v1)).length:Nat):Int)) (List.drop (Int.toNat (IntKind.wrap .i64 (y2.2.1+y2.1))) (List.take (Int.toNat (v1.length:Int)) v1)))))))).length:Nat):Int)≤(((List.drop (Int.toNat (IntKind.wrap .i64 (y5.2.1+y5.1))) (List.take (Int.toNat (((List.drop (Int.toNat (IntKind.wrap .i64 (y4.2.1+y4.1))) (List.take (Int.toNat (((List.drop (Int.toNat (IntKind.wrap .i64 (y3.2.1+y3.1))) (List.take (Int.toNat (((List.drop (Int.toNat (IntKind.wrap .i64 (y2.2.1+y2.1))) (List.take (Int.toNat (v1.length:Int)) v1)).length:Nat):Int)) (List.drop (Int.toNat (IntKind.wrap .i64 (y2.2.1+y2.1))) (List.take (Int.toNat (v1.length:Int)) v1)))).length:Nat):Int)) (List.drop (Int.toNat (IntKind.wrap .i64 (y3.2.1+y3.1))) (List.take (Int.toNat (((List.drop (Int.toNat (IntKind.wrap .i64 (y2.2.1+y2.1))) (List.take (Int.toNat (v1.length:Int)) v1)).length:Nat):Int)) (List.drop (Int.toNat (IntKind.wrap .i64 (y2.2.1+y2.1))) (List.take (Int.toNat (v1.length:Int)) v1)))))).length:Nat):Int)) (List.drop (Int.toNat (IntKind.wrap .i64 (y4.2.1+y4.1))) (List.take (Int.toNat (((List.drop (Int.toNat (IntKind.wrap .i64 (y3.2.1+y3.1))) (List.take (Int.toNat (((List.drop (Int.toNat (IntKind.wrap .i64 (y2.2.1+y2.1))) (List.take (Int.toNat (v1.length:Int)) v1)).length:Nat):Int)) (List.drop (Int.toNat (IntKind.wrap .i64 (y2.2.1+y2.1))) (List.take (Int.toNat (v1.length:Int)) v1)))).length:Nat):Int)) (List.drop (Int.toNat (IntKind.wrap .i64 (y3.2.1+y3.1))) (List.take (Int.toNat (((List.drop (Int.toNat (IntKind.wrap .i64 (y2.2.1+y2.1))) (List.take (Int.toNat (v1.length:Int)) v1)).length:Nat):Int)) (List.drop (Int.toNat (IntKind.wrap .i64 (y2.2.1+y2.1))) (List.take (Int.toNat (v1.length:Int)) v1)))))))).length:Nat):Int)))) (
                     some (((List.drop (Int.toNat y2.2.1) (List.take (Int.toNat (IntKind.wrap .i64 (y2.2.1+y2.1))) v1)),(List.drop (Int.toNat y3.2.1) (List.take (Int.toNat (IntKind.wrap .i64 (y3.2.1+y3.1))) (List.drop (Int.toNat (IntKind.wrap .i64 (y2.2.1+y2.1))) (List.take (Int.toNat (v1.length:Int)) v1)))),(List.drop (Int.toNat y4.2.1) (List.take (Int.toNat (IntKind.wrap .i64 (y4.2.1+y4.1))) (List.drop (Int.toNat (IntKind.wrap .i64 (y3.2.1+y3.1))) (List.take (Int.toNat (((List.drop (Int.toNat (IntKind.wrap .i64 (y2.2.1+y2.1))) (List.take (Int.toNat (v1.length:Int)) v1)).length:Nat):Int)) (List.drop (Int.toNat (IntKind.wrap .i64 (y2.2.1+y2.1))) (List.take (Int.toNat (v1.length:Int)) v1)))))),(List.drop (Int.toNat y5.2.1) (List.take (Int.toNat (IntKind.wrap .i64 (y5.2.1+y5.1))) (List.drop (Int.toNat (IntKind.wrap .i64 (y4.2.1+y4.1))) (List.take (Int.toNat (((List.drop (Int.toNat (IntKind.wrap .i64 (y3.2.1+y3.1))) (List.take (Int.toNat (((List.drop (Int.toNat (IntKind.wrap .i64 (y2.2.1+y2.1))) (List.take (Int.toNat (v1.length:Int)) v1)).length:Nat):Int)) (List.drop (Int.toNat (IntKind.wrap .i64 (y2.2.1+y2.1))) (List.take (Int.toNat (v1.length:Int)) v1)))).length:Nat):Int)) (List.drop (Int.toNat (IntKind.wrap .i64 (y3.2.1+y3.1))) (List.take (Int.toNat (((List.drop (Int.toNat (IntKind.wrap .i64 (y2.2.1+y2.1))) (List.take (Int.toNat (v1.length:Int)) v1)).length:Nat):Int)) (List.drop (Int.toNat (IntKind.wrap .i64 (y2.2.1+y2.1))) (List.take (Int.toNat (v1.length:Int)) v1)))))))),(List.drop (Int.toNat y6.2.1) (List.take (Int.toNat (IntKind.wrap .i64 (y6.2.1+y6.1))) (List.drop (Int.toNat (IntKind.wrap .i64 (y5.2.1+y5.1))) (List.take (Int.toNat (((List.drop (Int.toNat (IntKind.wrap .i64 (y4.2.1+y4.1))) (List.take (Int.toNat (((List.drop (Int.toNat (IntKind.wrap .i64 (y3.2.1+y3.1))) (List.take (Int.toNat (((List.drop (Int.toNat (IntKind.wrap .i64 (y2.2.1+y2.1))) (List.take (Int.toNat (v1.length:Int)) v1)).length:Nat):Int)) (List.drop (Int.toNat (IntKind.wrap .i64 (y2.2.1+y2.1))) (List.take (Int.toNat (v1.length:Int)) v1)))).length:Nat):Int)) (List.drop (Int.toNat (IntKind.wrap .i64 (y3.2.1+y3.1))) (List.take (Int.toNat (((List.drop (Int.toNat (IntKind.wrap .i64 (y2.2.1+y2.1))) (List.take (Int.toNat (v1.length:Int)) v1)).length:Nat):Int)) (List.drop (Int.toNat (IntKind.wrap .i64 (y2.2.1+y2.1))) (List.take (Int.toNat (v1.length:Int)) v1)))))).length:Nat):Int)) (List.drop (Int.toNat (IntKind.wrap .i64 (y4.2.1+y4.1))) (List.take (Int.toNat (((List.drop (Int.toNat (IntKind.wrap .i64 (y3.2.1+y3.1))) (List.take (Int.toNat (((List.drop (Int.toNat (IntKind.wrap .i64 (y2.2.1+y2.1))) (List.take (Int.toNat (v1.length:Int)) v1)).length:Nat):Int)) (List.drop (Int.toNat (IntKind.wrap .i64 (y2.2.1+y2.1))) (List.take (Int.toNat (v1.length:Int)) v1)))).length:Nat):Int)) (List.drop (Int.toNat (IntKind.wrap .i64 (y3.2.1+y3.1))) (List.take (Int.toNat (((List.drop (Int.toNat (IntKind.wrap .i64 (y2.2.1+y2.1))) (List.take (Int.toNat (v1.length:Int)) v1)).length:Nat):Int)) (List.drop (Int.toNat (IntKind.wrap .i64 (y2.2.1+y2.1))) (List.take (Int.toNat (v1.length:Int)) v1))))))))))),(decide ((((List.drop (Int.toNat (IntKind.wrap .i64 (y6.2.1+y6.1))) (List.take (Int.toNat (((List.drop (Int.toNat (IntKind.wrap .i64 (y5.2.1+y5.1))) (List.take (Int.toNat (((List.drop (Int.toNat (IntKind.wrap .i64 (y4.2.1+y4.1))) (List.take (Int.toNat (((List.drop (Int.toNat (IntKind.wrap .i64 (y3.2.1+y3.1))) (List.take (Int.toNat (((List.drop (Int.toNat (IntKind.wrap .i64 (y2.2.1+y2.1))) (List.take (Int.toNat (v1.length:Int)) v1)).length:Nat):Int)) (List.drop (Int.toNat (IntKind.wrap .i64 (y2.2.1+y2.1))) (List.take (Int.toNat (v1.length:Int)) v1)))).length:Nat):Int)) (List.drop (Int.toNat (IntKind.wrap .i64 (y3.2.1+y3.1))) (List.take (Int.toNat (((List.drop (Int.toNat (IntKind.wrap .i64 (y2.2.1+y2.1))) (List.take (Int.toNat (v1.length:Int)) v1)).length:Nat):Int)) (List.drop (Int.toNat (IntKind.wrap .i64 (y2.2.1+y2.1))) (List.take (Int.toNat (v1.length:Int)) v1)))))).length:Nat):Int)) (List.drop (Int.toNat (IntKind.wrap .i64 (y4.2.1+y4.1))) (List.take (Int.toNat (((List.drop (Int.toNat (IntKind.wrap .i64 (y3.2.1+y3.1))) (List.take (Int.toNat (((List.drop (Int.toNat (IntKind.wrap .i64 (y2.2.1+y2.1))) (List.take (Int.toNat (v1.length:Int)) v1)).length:Nat):Int)) (List.drop (Int.toNat (IntKind.wrap .i64 (y2.2.1+y2.1))) (List.take (Int.toNat (v1.length:Int)) v1)))).length:Nat):Int)) (List.drop (Int.toNat (IntKind.wrap .i64 (y3.2.1+y3.1))) (List.take (Int.toNat (((List.drop (Int.toNat (IntKind.wrap .i64 (y2.2.1+y2.1))) (List.take (Int.toNat (v1.length:Int)) v1)).length:Nat):Int)) (List.drop (Int.toNat (IntKind.wrap .i64 (y2.2.1+y2.1))) (List.take (Int.toNat (v1.length:Int)) v1)))))))).length:Nat):Int)) (List.drop (Int.toNat (IntKind.wrap .i64 (y5.2.1+y5.1))) (List.take (Int.toNat (((List.drop (Int.toNat (IntKind.wrap .i64 (y4.2.1+y4.1))) (List.take (Int.toNat (((List.drop (Int.toNat (IntKind.wrap .i64 (y3.2.1+y3.1))) (List.take (Int.toNat (((List.drop (Int.toNat (IntKind.wrap .i64 (y2.2.1+y2.1))) (List.take (Int.toNat (v1.length:Int)) v1)).length:Nat):Int)) (List.drop (Int.toNat (IntKind.wrap .i64 (y2.2.1+y2.1))) (List.take (Int.toNat (v1.length:Int)) v1)))).length:Nat):Int)) (List.drop (Int.toNat (IntKind.wrap .i64 (y3.2.1+y3.1))) (List.take (Int.toNat (((List.drop (Int.toNat (IntKind.wrap .i64 (y2.2.1+y2.1))) (List.take (Int.toNat (v1.length:Int)) v1)).length:Nat):Int)) (List.drop (Int.toNat (IntKind.wrap .i64 (y2.2.1+y2.1))) (List.take (Int.toNat (v1.length:Int)) v1)))))).length:Nat):Int)) (List.drop (Int.toNat (IntKind.wrap .i64 (y4.2.1+y4.1))) (List.take (Int.toNat (((List.drop (Int.toNat (IntKind.wrap .i64 (y3.2.1+y3.1))) (List.take (Int.toNat (((List.drop (Int.toNat (IntKind.wrap .i64 (y2.2.1+y2.1))) (List.take (Int.toNat (v1.length:Int)) v1)).length:Nat):Int)) (List.drop (Int.toNat (IntKind.wrap .i64 (y2.2.1+y2.1))) (List.take (Int.toNat (v1.length:Int)) v1)))).length:Nat):Int)) (List.drop (Int.toNat (IntKind.wrap .i64 (y3.2.1+y3.1))) (List.take (Int.toNat (((List.drop (Int.toNat (IntKind.wrap .i64 (y2.2.1+y2.1))) (List.take (Int.toNat (v1.length:Int)) v1)).length:Nat):Int)) (List.drop (Int.toNat (IntKind.wrap .i64 (y2.2.1+y2.1))) (List.take (Int.toNat (v1.length:Int)) v1)))))))))).length:Nat):Int)=0)),())) (
                     none)) (
                    none)))) (
                 none)) (
                none)))) (
             none)) (
            none)))) (
         none)) (
        none)))) (
     none)) (
    none)))
abbrev X66_142_1_0:Type:=(Unit×Unit×Int×Unit)×DT8×DT4×Unit
abbrev Y66_142_1_0:Type:=(Unit)×DT8×DT4×Unit
abbrev Z66_142_1_0:Type:=(Unit)×DT8×DT4×Unit
noncomputable def t66_142_1_0 (v1:Int)(v2:Bool)(v3 v4:DT4):Option (R3 X66_142_1_0 Y66_142_1_0 Z66_142_1_0):=
 cond (decide (v1<(v3.length:Int))) (
  ((f63 v3 v1)).bind fun y5=>
  cond (decide (y5.2.1=(-1))) (
   some (R3.ret ((),(((),()),(false,()),(v3,()),((),(),(),(),(),(),(),(),(),(),(),(),(),(),(),(),(),(),(),(),(),(),(),(),(),(),()),()),v4,()))) (
   cond (decide ((v4.length:Int)=400)) (
    some (R3.ret ((),(((),()),(false,()),(v3,()),((),(),(),(),(),(),(),(),(),(),(),(),(),(),(),(),(),(),(),(),(),(),(),(),(),(),()),()),v4,()))) (
    cond ((decide (((v4.length+1) * 8)≤140737488355328))&&(decide ((v4.length+1)≤9223372036854775807))) (
     cond (decide (y5.2.1=(-1))) (
      none) (
      some (R3.next (((),(),y5.2.1,()),(((),()),(v2,()),(v3,()),((),(),(),(),(),(),(),(),(),(),(),(),(),(),(),(),(),(),(),(),(),(),(),(),(),(),()),()),(v4++[y5.1]),())))) (
     none)))) (
  some (R3.out ((),(((),()),(v2,()),(v3,()),((),(),(),(),(),(),(),(),(),(),(),(),(),(),(),(),(),(),(),(),(),(),(),(),(),(),()),()),v4,())))
noncomputable def u66_142_1_0 (z:X66_142_1_0):Option (R3 X66_142_1_0 Y66_142_1_0 Z66_142_1_0):=t66_142_1_0 z.1.2.2.1 z.2.1.2.1.1 z.2.1.2.2.1.1 z.2.2.1
noncomputable def f66 (v1:DT4):Option DT14:=
 ((iter big u66_142_1_0 (((),(),0,()),(((),()),(true,()),(v1,()),((),(),(),(),(),(),(),(),(),(),(),(),(),(),(),(),(),(),(),(),(),(),(),(),(),(),()),()),[],()))).bind fun r=>match r with
 | .inl y2=>
   cond (!y2.2.1.2.1.1) (
    some ([],false,())) (
    some (y2.2.2.1,true,()))
 | .inr z3=>
   cond (!z3.2.1.2.1.1) (
    some ([],false,())) (
    some (z3.2.2.1,true,()))
noncomputable def f91 (v1 v2:Int):Option DT9:=
 cond (decide (v1<0)) (
  some ((-1),())) (
  cond (decide (400<v1)) (
   some ((-1),())) (
   cond (decide (v2<0)) (
    some ((-1),())) (
    cond (decide (32<v2)) (
     some ((-1),())) (
     some ((IntKind.wrap .i64 (Int.tdiv (IntKind.wrap .i64 ((IntKind.wrap .i64 ((IntKind.wrap .i64 (v1 * v2))+8))-1)) 8)),())))))
abbrev X68_7:Type:=DT23×(Unit)×DT4×Unit
abbrev X68_8:Type:=DT23×(Unit)×DT4×Unit
abbrev Y68_8:Type:=DT23×(Unit)×DT4×Unit
abbrev Z68_8:Type:=Unit×Unit×Unit
noncomputable def t68_8 (v1:DT4)(v2 v3 v4 v5 v6:Int)(v7:DT4):Option (R3 X68_8 Y68_8 Z68_8):=
 cond (decide (v4<v2)) (
  cond (decide (0<(v1.length:Int))) (
   cond (!(decide (v4<0))) (
    cond ((decide (1≤(v1.length:Int)))&&(decide ((v1.length:Int)≤(v1.length:Int)))) (
     some (R3.next (((List.drop 1 (List.take (Int.toNat (v1.length:Int)) v1)),v2,(bitop .or .u64 v3 (IntKind.wrap .u64 ((IntKind.wrap .u64 (rd dT5 v1 0)) * ((2:Int) ^ ((min (Int.toNat v4) 64):Nat))))),(IntKind.wrap .i64 (v4+8)),v5,v6,()),(),v7,()))) (
     none)) (
    none)) (
   none)) (
  cond (!(decide (v2<0))) (
   cond ((decide (((v7.length+1) * 8)≤140737488355328))&&(decide ((v7.length+1)≤9223372036854775807))) (
    cond (!(decide (v2<0))) (
     some (R3.out ((v1,v2,(Int.fdiv v3 ((2:Int) ^ ((min (Int.toNat v2) 64):Nat))),(IntKind.wrap .i64 (v4-v2)),v5,v6,()),(),(v7++[(IntKind.wrap .i64 (bitop .and .u64 v3 (IntKind.wrap .u64 ((IntKind.wrap .u64 (1 * ((2:Int) ^ ((min (Int.toNat v2) 64):Nat))))-1))))]),()))) (
     none)) (
    none)) (
   none))
noncomputable def u68_8 (z:X68_8):Option (R3 X68_8 Y68_8 Z68_8):=t68_8 z.1.1 z.1.2.1 z.1.2.2.1 z.1.2.2.2.1 z.1.2.2.2.2.1 z.1.2.2.2.2.2.1 z.2.2.1
abbrev Y68_7:Type:=DT9×(Unit)×DT4×Unit
abbrev Z68_7:Type:=Unit×Unit×Unit
noncomputable def t68_7 (v1:DT4)(v2 v3 v4 v5 v6:Int)(v7:DT4):Option (R3 X68_7 Y68_7 Z68_7):=
 cond (decide (v6<v5)) (
  ((iter big u68_8 ((v1,v2,v3,v4,v5,v6,()),(),v7,()))).bind fun r=>match r with
  | .inl y8=>
    some (R3.next ((y8.1.1,y8.1.2.1,y8.1.2.2.1,y8.1.2.2.2.1,y8.1.2.2.2.2.1,(IntKind.wrap .i64 (y8.1.2.2.2.2.2.1+1)),()),(),y8.2.2.1,()))
  | .inr z9=>
    some (R3.ret ((),(),()))) (
  some (R3.out ((v3,()),(),v7,())))
noncomputable def u68_7 (z:X68_7):Option (R3 X68_7 Y68_7 Z68_7):=t68_7 z.1.1 z.1.2.1 z.1.2.2.1 z.1.2.2.2.1 z.1.2.2.2.2.1 z.1.2.2.2.2.2.1 z.2.2.1
noncomputable def f68 (v1:DT4)(v2 v3:Int):Option DT14:=
 ((f91 v2 v3)).bind fun y4=>
 cond (!(decide (y4.1=(v1.length:Int)))) (
  some ([],false,())) (
  ((iter big u68_7 ((v1,v3,0,0,v2,0,()),(),[],()))).bind fun r=>match r with
  | .inl y5=>
    cond (!(decide (y5.1.1=0))) (
     some ([],false,())) (
     some (y5.2.2.1,true,()))
  | .inr z6=>
    none)
noncomputable def f96 (v1:Int):Option DT7:=
 cond (decide (0≤v1)) (
  some ((decide (v1<274877906944)),())) (
  some (false,()))
noncomputable def f113 (v1:Int):Option DT9:=
 cond (decide (v1<0)) (
  some (0,())) (
  cond (decide (549755813888<v1)) (
   some (0,())) (
   some ((bitop .xor .i64 (Int.fdiv v1 2) (IntKind.wrap .i64 (0-(bitop .and .i64 v1 1)))),())))
abbrev X69_8:Type:=(DT4×Unit×Unit×Int×Int×Unit)×DT16×DT4×Unit
abbrev Y69_8:Type:=(Unit)×(Unit)×DT4×Unit
abbrev Z69_8:Type:=DT7×(Unit)×DT4×Unit
noncomputable def t69_8 (v1:DT4)(v2 v3 v4:Int)(v5:DT4):Option (R3 X69_8 Y69_8 Z69_8):=
 cond (decide (v3<v2)) (
  cond ((decide (0≤v3))&&(decide (v3<(v1.length:Int)))) (
   ((f113 (rd dT1 v1 (Int.toNat v3)))).bind fun y6=>
   cond (decide ((rd dT1 v1 (Int.toNat v3))≤549755813888)) (
    ((f96 (IntKind.wrap .i64 (v4+y6.1)))).bind fun y7=>
    cond (!y7.1) (
     some (R3.ret ((false,()),(),[],()))) (
     cond ((decide (((v5.length+1) * 8)≤140737488355328))&&(decide ((v5.length+1)≤9223372036854775807))) (
      some (R3.next ((v1,(),(),v2,(IntKind.wrap .i64 (v3+1)),()),(((IntKind.wrap .i64 (v4+y6.1)),()),()),(v5++[(IntKind.wrap .i64 (v4+y6.1))]),()))) (
      none))) (
    some (R3.ret ((false,()),(),[],())))) (
   none)) (
  some (R3.out ((),(),v5,())))
noncomputable def u69_8 (z:X69_8):Option (R3 X69_8 Y69_8 Z69_8):=t69_8 z.1.1 z.1.2.2.2.1 z.1.2.2.2.2.1 z.2.1.1.1 z.2.2.1
noncomputable def f69 (v1:DT4):Option DT14:=
 ((f66 v1)).bind fun y2=>
 cond (!y2.2.1) (
  some ([],false,())) (
  ((iter big u69_8 ((y2.1,(),(),(y2.1.length:Int),0,()),((0,()),()),[],()))).bind fun r=>match r with
  | .inl y3=>
    some (y3.2.2.1,true,())
  | .inr z4=>
    some (z4.2.2.1,z4.1.1,()))
abbrev X32_111_1_0:Type:=(Unit×Unit×Unit×Int×Unit)×DT3×DT1×DT2×DT1×DT1×DT2×DT1×Unit
abbrev Y32_111_1_0:Type:=(Unit)×DT3×DT1×DT2×DT1×DT1×DT2×DT1×Unit
abbrev Z32_111_1_0:Type:=Unit×(Unit×Unit×Unit×Unit×Unit×Unit×Unit)×Unit
noncomputable def t32_111_1_0 (v1 v2 v3 v4 v5 v6 v7 v8 v9 v10 v11 v12:Int)(v13:Bool)(v14:Int)(v15 v16 v17 v18 v19:DT4)(v20 v21 v22 v23 v24 v25 v26 v27 v28 v29 v30:Int)(v31:Bool)(v32:Int)(v33:DT4)(v34:Int)(v35:DT1)(v36:DT2)(v37 v38:DT1)(v39:DT2)(v40:DT1):Option (R3 X32_111_1_0 Y32_111_1_0 Z32_111_1_0):=
 cond (decide (v1<(v33.length:Int))) (
  cond (((decide (0≤v1))&&(decide (v1≤(v33.length:Int))))&&(decide ((v33.length:Int)≤(v33.length:Int)))) (
   cond ((((decide (0≤v1))&&(decide (v1≤(IntKind.wrap .i64 (v1+(mnI v34 (((List.drop (Int.toNat v1) (List.take (Int.toNat (v33.length:Int)) v33)).length:Nat):Int)))))))&&(decide ((IntKind.wrap .i64 (v1+(mnI v34 (((List.drop (Int.toNat v1) (List.take (Int.toNat (v33.length:Int)) v33)).length:Nat):Int))))≤(IntKind.wrap .i64 (v1+(mnI v34 (((List.drop (Int.toNat v1) (List.take (Int.toNat (v33.length:Int)) v33)).length:Nat):Int)))))))&&(decide ((IntKind.wrap .i64 (v1+(mnI v34 (((List.drop (Int.toNat v1) (List.take (Int.toNat (v33.length:Int)) v33)).length:Nat):Int))))≤(v33.length:Int)))) (
    cond (decide (0<(((List.drop (Int.toNat v1) (List.take (Int.toNat (IntKind.wrap .i64 (v1+(mnI v34 (((List.drop (Int.toNat v1) (List.take (Int.toNat (v33.length:Int)) v33)).length:Nat):Int))))) v33)).length:Nat):Int))) (
     cond (decide (1<(((List.drop (Int.toNat v1) (List.take (Int.toNat (IntKind.wrap .i64 (v1+(mnI v34 (((List.drop (Int.toNat v1) (List.take (Int.toNat (v33.length:Int)) v33)).length:Nat):Int))))) v33)).length:Nat):Int))) (
      cond (decide (2<(((List.drop (Int.toNat v1) (List.take (Int.toNat (IntKind.wrap .i64 (v1+(mnI v34 (((List.drop (Int.toNat v1) (List.take (Int.toNat (v33.length:Int)) v33)).length:Nat):Int))))) v33)).length:Nat):Int))) (
       cond ((decide (((v38.length+1) * 24)≤140737488355328))&&(decide ((v38.length+1)≤9223372036854775807))) (
        some (R3.next (((),(),(),(IntKind.wrap .i64 (v1+v34)),()),((v2,v3,v4,v5,v6,v7,v8,v9,v10,v11,v12,v13,v14,(),(),(),()),(v15,v16,v17,v18,v19,()),(v20,v21,v22,v23,v24,v25,v26,v27,v28,v29,v30,v31,v32,(),(),(),()),(v33,()),(v34,()),((),(),(),(),(),(),(),(),(),(),(),(),(),(),(),(),(),(),(),(),(),(),(),(),(),(),(),(),(),(),(),(),(),(),(),(),(),(),(),(),(),(),(),(),(),(),(),(),(),(),(),(),(),(),(),(),(),(),(),(),(),(),(),(),(),(),(),(),(),(),(),(),(),(),(),(),(),(),(),(),(),(),(),(),(),(),(),(),(),(),(),(),(),(),(),(),(),(),(),(),(),(),(),(),(),(),(),(),(),(),(),(),(),(),(),(),(),(),(),(),(),(),(),(),(),(),(),(),(),(),(),(),(),(),(),(),(),(),(),(),(),(),(),(),(),(),(),(),(),(),(),(),(),(),(),(),(),(),(),(),(),(),(),(),(),(),(),(),(),(),(),(),(),(),(),(),(),(),(),(),(),(),(),(),(),(),(),(),(),(),(),(),(),(),(),(),(),(),(),(),(),(),(),(),(),(),(),(),(),(),(),(),(),(),(),(),(),(),(),(),(),(),(),(),(),(),(),(),(),(),(),(),(),(),(),(),(),()),()),v35,v36,v37,(v38++[((rd dT1 (List.drop (Int.toNat v1) (List.take (Int.toNat (IntKind.wrap .i64 (v1+(mnI v34 (((List.drop (Int.toNat v1) (List.take (Int.toNat (v33.length:Int)) v33)).length:Nat):Int))))) v33)) 0),(rd dT1 (List.drop (Int.toNat v1) (List.take (Int.toNat (IntKind.wrap .i64 (v1+(mnI v34 (((List.drop (Int.toNat v1) (List.take (Int.toNat (v33.length:Int)) v33)).length:Nat):Int))))) v33)) 1),(rd dT1 (List.drop (Int.toNat v1) (List.take (Int.toNat (IntKind.wrap .i64 (v1+(mnI v34 (((List.drop (Int.toNat v1) (List.take (Int.toNat (v33.length:Int)) v33)).length:Nat):Int))))) v33)) 2))]),v39,v40,()))) (
        none)) (
       none)) (
      none)) (
     none)) (
    none)) (
   none)) (
  some (R3.out ((),((v2,v3,v4,v5,v6,v7,v8,v9,v10,v11,v12,v13,v14,(),(),(),()),(v15,v16,v17,v18,v19,()),(v20,v21,v22,v23,v24,v25,v26,v27,v28,v29,v30,v31,v32,(),(),(),()),(v33,()),(v34,()),((),(),(),(),(),(),(),(),(),(),(),(),(),(),(),(),(),(),(),(),(),(),(),(),(),(),(),(),(),(),(),(),(),(),(),(),(),(),(),(),(),(),(),(),(),(),(),(),(),(),(),(),(),(),(),(),(),(),(),(),(),(),(),(),(),(),(),(),(),(),(),(),(),(),(),(),(),(),(),(),(),(),(),(),(),(),(),(),(),(),(),(),(),(),(),(),(),(),(),(),(),(),(),(),(),(),(),(),(),(),(),(),(),(),(),(),(),(),(),(),(),(),(),(),(),(),(),(),(),(),(),(),(),(),(),(),(),(),(),(),(),(),(),(),(),(),(),(),(),(),(),(),(),(),(),(),(),(),(),(),(),(),(),(),(),(),(),(),(),(),(),(),(),(),(),(),(),(),(),(),(),(),(),(),(),(),(),(),(),(),(),(),(),(),(),(),(),(),(),(),(),(),(),(),(),(),(),(),(),(),(),(),(),(),(),(),(),(),(),(),(),(),(),(),(),(),(),(),(),(),(),(),(),(),(),(),(),()),()),v35,v36,v37,v38,v39,v40,())))
noncomputable def u32_111_1_0 (z:X32_111_1_0):Option (R3 X32_111_1_0 Y32_111_1_0 Z32_111_1_0):=t32_111_1_0 z.1.2.2.2.1 z.2.1.1.1 z.2.1.1.2.1 z.2.1.1.2.2.1 z.2.1.1.2.2.2.1 z.2.1.1.2.2.2.2.1 z.2.1.1.2.2.2.2.2.1 z.2.1.1.2.2.2.2.2.2.1 z.2.1.1.2.2.2.2.2.2.2.1 z.2.1.1.2.2.2.2.2.2.2.2.1 z.2.1.1.2.2.2.2.2.2.2.2.2.1 z.2.1.1.2.2.2.2.2.2.2.2.2.2.1 z.2.1.1.2.2.2.2.2.2.2.2.2.2.2.1 z.2.1.1.2.2.2.2.2.2.2.2.2.2.2.2.1 z.2.1.2.1.1 z.2.1.2.1.2.1 z.2.1.2.1.2.2.1 z.2.1.2.1.2.2.2.1 z.2.1.2.1.2.2.2.2.1 z.2.1.2.2.1.1 z.2.1.2.2.1.2.1 z.2.1.2.2.1.2.2.1 z.2.1.2.2.1.2.2.2.1 z.2.1.2.2.1.2.2.2.2.1 z.2.1.2.2.1.2.2.2.2.2.1 z.2.1.2.2.1.2.2.2.2.2.2.1 z.2.1.2.2.1.2.2.2.2.2.2.2.1 z.2.1.2.2.1.2.2.2.2.2.2.2.2.1 z.2.1.2.2.1.2.2.2.2.2.2.2.2.2.1 z.2.1.2.2.1.2.2.2.2.2.2.2.2.2.2.1 z.2.1.2.2.1.2.2.2.2.2.2.2.2.2.2.2.1 z.2.1.2.2.1.2.2.2.2.2.2.2.2.2.2.2.2.1 z.2.1.2.2.2.1.1 z.2.1.2.2.2.2.1.1 z.2.2.1 z.2.2.2.1 z.2.2.2.2.1 z.2.2.2.2.2.1 z.2.2.2.2.2.2.1 z.2.2.2.2.2.2.2.1
abbrev X32_16:Type:=(Unit×Unit×DT4×DT4×DT4×DT4×Int×Int×Unit)×(DT6×DT6×Unit)×DT1×DT2×DT1×DT1×DT2×DT1×Unit
abbrev Y32_16:Type:=(Unit×Unit×DT4×DT4×Unit)×(DT6×DT6×Unit)×DT1×DT2×DT1×DT1×DT2×DT1×Unit
abbrev Z32_16:Type:=Unit×Unit×Unit
noncomputable def t32_16 (v1 v2 v3 v4:DT4)(v5 v6 v7 v8 v9 v10 v11 v12 v13 v14 v15 v16 v17:Int)(v18:Bool)(v19 v20 v21 v22 v23 v24 v25 v26 v27 v28 v29 v30:Int)(v31:Bool)(v32:Int)(v33:DT1)(v34:DT2)(v35 v36:DT1)(v37:DT2)(v38:DT1):Option (R3 X32_16 Y32_16 Z32_16):=
 cond (decide (v6<v5)) (
  cond ((decide (0≤v6))&&(decide (v6<(v4.length:Int)))) (
   cond ((decide (0≤v6))&&(decide (v6<(v1.length:Int)))) (
    cond ((decide (((v37.length+1) * 40)≤140737488355328))&&(decide ((v37.length+1)≤9223372036854775807))) (
     some (R3.next (((),(),v1,v2,v3,v4,v5,(IntKind.wrap .i64 (v6+1)),()),((v7,v8,v9,v10,v11,v12,v13,v14,v15,v16,v17,v18,v19,(),(),(),()),(v20,v21,v22,v23,v24,v25,v26,v27,v28,v29,v30,v31,v32,(),(),(),()),()),v33,v34,v35,v36,(v37++[((Int.fdiv (rd dT1 v4 (Int.toNat v6)) 32),(IntKind.wrap .i64 (Int.tdiv (bitop .and .i64 (rd dT1 v4 (Int.toNat v6)) 31) 8)),(Int.tmod (bitop .and .i64 (rd dT1 v4 (Int.toNat v6)) 31) 8),(rd dT1 v1 (Int.toNat v6)),v32)]),v38,()))) (
     none)) (
    none)) (
   none)) (
  some (R3.out (((),(),v2,v3,()),((v7,v8,v9,v10,v11,v12,v13,v14,v15,v16,v17,v18,v19,(),(),(),()),(v20,v21,v22,v23,v24,v25,v26,v27,v28,v29,v30,v31,v32,(),(),(),()),()),v33,v34,v35,v36,v37,v38,())))
noncomputable def u32_16 (z:X32_16):Option (R3 X32_16 Y32_16 Z32_16):=t32_16 z.1.2.2.1 z.1.2.2.2.1 z.1.2.2.2.2.1 z.1.2.2.2.2.2.1 z.1.2.2.2.2.2.2.1 z.1.2.2.2.2.2.2.2.1 z.2.1.1.1 z.2.1.1.2.1 z.2.1.1.2.2.1 z.2.1.1.2.2.2.1 z.2.1.1.2.2.2.2.1 z.2.1.1.2.2.2.2.2.1 z.2.1.1.2.2.2.2.2.2.1 z.2.1.1.2.2.2.2.2.2.2.1 z.2.1.1.2.2.2.2.2.2.2.2.1 z.2.1.1.2.2.2.2.2.2.2.2.2.1 z.2.1.1.2.2.2.2.2.2.2.2.2.2.1 z.2.1.1.2.2.2.2.2.2.2.2.2.2.2.1 z.2.1.1.2.2.2.2.2.2.2.2.2.2.2.2.1 z.2.1.2.1.1 z.2.1.2.1.2.1 z.2.1.2.1.2.2.1 z.2.1.2.1.2.2.2.1 z.2.1.2.1.2.2.2.2.1 z.2.1.2.1.2.2.2.2.2.1 z.2.1.2.1.2.2.2.2.2.2.1 z.2.1.2.1.2.2.2.2.2.2.2.1 z.2.1.2.1.2.2.2.2.2.2.2.2.1 z.2.1.2.1.2.2.2.2.2.2.2.2.2.1 z.2.1.2.1.2.2.2.2.2.2.2.2.2.2.1 z.2.1.2.1.2.2.2.2.2.2.2.2.2.2.2.1 z.2.1.2.1.2.2.2.2.2.2.2.2.2.2.2.2.1 z.2.2.1 z.2.2.2.1 z.2.2.2.2.1 z.2.2.2.2.2.1 z.2.2.2.2.2.2.1 z.2.2.2.2.2.2.2.1
abbrev X32_22:Type:=(Unit×Unit×DT4×DT4×Int×Int×Unit)×(DT6×DT6×Unit)×DT1×DT2×DT1×DT1×DT2×DT1×Unit
abbrev Y32_22:Type:=DT25×(DT6×DT6×Unit)×DT1×DT2×DT1×DT1×DT2×DT1×Unit
abbrev Z32_22:Type:=Unit×Unit×Unit
noncomputable def t32_22 (v1 v2:DT4)(v3 v4 v5 v6 v7 v8 v9 v10 v11 v12 v13 v14 v15:Int)(v16:Bool)(v17 v18 v19 v20 v21 v22 v23 v24 v25 v26 v27 v28:Int)(v29:Bool)(v30:Int)(v31:DT1)(v32:DT2)(v33 v34:DT1)(v35:DT2)(v36:DT1):Option (R3 X32_22 Y32_22 Z32_22):=
 cond (decide (v4<v3)) (
  cond ((decide (0≤v4))&&(decide (v4<(v2.length:Int)))) (
   cond ((decide (0≤v4))&&(decide (v4<(v1.length:Int)))) (
    cond ((decide (((v36.length+1) * 24)≤140737488355328))&&(decide ((v36.length+1)≤9223372036854775807))) (
     some (R3.next (((),(),v1,v2,v3,(IntKind.wrap .i64 (v4+1)),()),((v5,v6,v7,v8,v9,v10,v11,v12,v13,v14,v15,v16,v17,(),(),(),()),(v18,v19,v20,v21,v22,v23,v24,v25,v26,v27,v28,v29,v30,(),(),(),()),()),v31,v32,v33,v34,v35,(v36++[((IntKind.wrap .i64 (Int.tdiv (rd dT1 v2 (Int.toNat v4)) 8)),(Int.tmod (rd dT1 v2 (Int.toNat v4)) 8),(rd dT1 v1 (Int.toNat v4)))]),()))) (
     none)) (
    none)) (
   none)) (
  some (R3.out (((),(),()),((v5,v6,v7,v8,v9,v10,v11,v12,v13,v14,v15,v16,v17,(),(),(),()),(v18,v19,v20,v21,v22,v23,v24,v25,v26,v27,v28,v29,v30,(),(),(),()),()),v31,v32,v33,v34,v35,v36,())))
noncomputable def u32_22 (z:X32_22):Option (R3 X32_22 Y32_22 Z32_22):=t32_22 z.1.2.2.1 z.1.2.2.2.1 z.1.2.2.2.2.1 z.1.2.2.2.2.2.1 z.2.1.1.1 z.2.1.1.2.1 z.2.1.1.2.2.1 z.2.1.1.2.2.2.1 z.2.1.1.2.2.2.2.1 z.2.1.1.2.2.2.2.2.1 z.2.1.1.2.2.2.2.2.2.1 z.2.1.1.2.2.2.2.2.2.2.1 z.2.1.1.2.2.2.2.2.2.2.2.1 z.2.1.1.2.2.2.2.2.2.2.2.2.1 z.2.1.1.2.2.2.2.2.2.2.2.2.2.1 z.2.1.1.2.2.2.2.2.2.2.2.2.2.2.1 z.2.1.1.2.2.2.2.2.2.2.2.2.2.2.2.1 z.2.1.2.1.1 z.2.1.2.1.2.1 z.2.1.2.1.2.2.1 z.2.1.2.1.2.2.2.1 z.2.1.2.1.2.2.2.2.1 z.2.1.2.1.2.2.2.2.2.1 z.2.1.2.1.2.2.2.2.2.2.1 z.2.1.2.1.2.2.2.2.2.2.2.1 z.2.1.2.1.2.2.2.2.2.2.2.2.1 z.2.1.2.1.2.2.2.2.2.2.2.2.2.1 z.2.1.2.1.2.2.2.2.2.2.2.2.2.2.1 z.2.1.2.1.2.2.2.2.2.2.2.2.2.2.2.1 z.2.1.2.1.2.2.2.2.2.2.2.2.2.2.2.2.1 z.2.2.1 z.2.2.2.1 z.2.2.2.2.1 z.2.2.2.2.2.1 z.2.2.2.2.2.2.1 z.2.2.2.2.2.2.2.1
noncomputable def f32 (v1:DT4):Option (DT10×Bool×Unit):=
 ((f65 v1)).bind fun y2=>
 ((f66 y2.1.1)).bind fun y3=>
 cond (!y2.2.1) (
  some ((((0,0),(0,0),0,0,0,0),(0,0,0,false),0,[],[],[]),false,())) (
  cond (!y3.2.1) (
   some ((((0,0),(0,0),0,0,0,0),(0,0,0,false),0,[],[],[]),false,())) (
   cond (decide ((y3.1.length:Int)<15)) (
    some ((((0,0),(0,0),0,0,0,0),(0,0,0,false),0,[],[],[]),false,())) (
    cond (!(decide ((Int.tmod (IntKind.wrap .i64 ((y3.1.length:Int)-15)) 3)=0))) (
     some ((((0,0),(0,0),0,0,0,0),(0,0,0,false),0,[],[],[]),false,())) (
     cond (decide (11<(y3.1.length:Int))) (
      cond (decide (1<(rd dT1 y3.1 11))) (
       some ((((0,0),(0,0),0,0,0,0),(0,0,0,false),0,[],[],[]),false,())) (
       cond (decide (0<(y3.1.length:Int))) (
        cond (decide (1<(y3.1.length:Int))) (
         cond (decide (2<(y3.1.length:Int))) (
          cond (decide (3<(y3.1.length:Int))) (
           cond (decide (4<(y3.1.length:Int))) (
            cond (decide (5<(y3.1.length:Int))) (
             cond (decide (6<(y3.1.length:Int))) (
              cond (decide (7<(y3.1.length:Int))) (
               cond (decide (8<(y3.1.length:Int))) (
                cond (decide (9<(y3.1.length:Int))) (
                 cond (decide (10<(y3.1.length:Int))) (
                  cond (decide (11<(y3.1.length:Int))) (
                   cond (decide (12<(y3.1.length:Int))) (
                    cond ((decide (15≤(y3.1.length:Int)))&&(decide ((y3.1.length:Int)≤(y3.1.length:Int)))) (
                     ((iter big u32_111_1_0 (((),(),(),0,()),((0,0,0,0,0,0,0,0,0,0,0,false,0,(),(),(),()),(y2.1.1,y2.1.2.1,y2.1.2.2.1,y2.1.2.2.2.1,y2.1.2.2.2.2,()),((rd dT1 y3.1 0),(rd dT1 y3.1 1),(rd dT1 y3.1 2),(rd dT1 y3.1 3),(rd dT1 y3.1 4),(rd dT1 y3.1 5),(rd dT1 y3.1 6),(rd dT1 y3.1 7),(rd dT1 y3.1 8),(rd dT1 y3.1 9),(rd dT1 y3.1 10),(decide ((rd dT1 y3.1 11)=1)),(rd dT1 y3.1 12),(),(),(),()),((List.drop 15 (List.take (Int.toNat (y3.1.length:Int)) y3.1)),()),(3,()),((),(),(),(),(),(),(),(),(),(),(),(),(),(),(),(),(),(),(),(),(),(),(),(),(),(),(),(),(),(),(),(),(),(),(),(),(),(),(),(),(),(),(),(),(),(),(),(),(),(),(),(),(),(),(),(),(),(),(),(),(),(),(),(),(),(),(),(),(),(),(),(),(),(),(),(),(),(),(),(),(),(),(),(),(),(),(),(),(),(),(),(),(),(),(),(),(),(),(),(),(),(),(),(),(),(),(),(),(),(),(),(),(),(),(),(),(),(),(),(),(),(),(),(),(),(),(),(),(),(),(),(),(),(),(),(),(),(),(),(),(),(),(),(),(),(),(),(),(),(),(),(),(),(),(),(),(),(),(),(),(),(),(),(),(),(),(),(),(),(),(),(),(),(),(),(),(),(),(),(),(),(),(),(),(),(),(),(),(),(),(),(),(),(),(),(),(),(),(),(),(),(),(),(),(),(),(),(),(),(),(),(),(),(),(),(),(),(),(),(),(),(),(),(),(),(),(),(),(),(),(),(),(),(),(),(),(),()),()),[],[],[],[],[],[],()))).bind fun r=>match r with
                     | .inl y4=>
                       cond (decide (13<(y3.1.length:Int))) (
                        ((f68 y4.2.1.2.1.2.1 (rd dT1 y3.1 13) 10)).bind fun y6=>
                        ((f69 y4.2.1.2.1.2.2.1)).bind fun y7=>
                        cond (decide (14<(y3.1.length:Int))) (
                         ((f68 y4.2.1.2.1.2.2.2.1 (rd dT1 y3.1 14) 5)).bind fun y8=>
                         ((f69 y4.2.1.2.1.2.2.2.2.1)).bind fun y9=>
                         cond (!y6.2.1) (
                          some ((((0,0),(0,0),0,0,0,0),(0,0,0,false),0,[],[],[]),false,())) (
                          cond (!y7.2.1) (
                           some ((((0,0),(0,0),0,0,0,0),(0,0,0,false),0,[],[],[]),false,())) (
                           cond (!y8.2.1) (
                            some ((((0,0),(0,0),0,0,0,0),(0,0,0,false),0,[],[],[]),false,())) (
                            cond (!y9.2.1) (
                             some ((((0,0),(0,0),0,0,0,0),(0,0,0,false),0,[],[],[]),false,())) (
                             cond (!(decide ((y7.1.length:Int)=(y6.1.length:Int)))) (
                              some ((((0,0),(0,0),0,0,0,0),(0,0,0,false),0,[],[],[]),false,())) (
                              cond (!(decide ((y9.1.length:Int)=(y8.1.length:Int)))) (
                               some ((((0,0),(0,0),0,0,0,0),(0,0,0,false),0,[],[],[]),false,())) (
                               ((iter big u32_16 (((),(),y7.1,y8.1,y9.1,y6.1,(y6.1.length:Int),0,()),((y4.2.1.1.1,y4.2.1.1.2.1,y4.2.1.1.2.2.1,y4.2.1.1.2.2.2.1,y4.2.1.1.2.2.2.2.1,y4.2.1.1.2.2.2.2.2.1,y4.2.1.1.2.2.2.2.2.2.1,y4.2.1.1.2.2.2.2.2.2.2.1,y4.2.1.1.2.2.2.2.2.2.2.2.1,y4.2.1.1.2.2.2.2.2.2.2.2.2.1,y4.2.1.1.2.2.2.2.2.2.2.2.2.2.1,y4.2.1.1.2.2.2.2.2.2.2.2.2.2.2.1,y4.2.1.1.2.2.2.2.2.2.2.2.2.2.2.2.1,(),(),(),()),(y4.2.1.2.2.1.1,y4.2.1.2.2.1.2.1,y4.2.1.2.2.1.2.2.1,y4.2.1.2.2.1.2.2.2.1,y4.2.1.2.2.1.2.2.2.2.1,y4.2.1.2.2.1.2.2.2.2.2.1,y4.2.1.2.2.1.2.2.2.2.2.2.1,y4.2.1.2.2.1.2.2.2.2.2.2.2.1,y4.2.1.2.2.1.2.2.2.2.2.2.2.2.1,y4.2.1.2.2.1.2.2.2.2.2.2.2.2.2.1,y4.2.1.2.2.1.2.2.2.2.2.2.2.2.2.2.1,y4.2.1.2.2.1.2.2.2.2.2.2.2.2.2.2.2.1,y4.2.1.2.2.1.2.2.2.2.2.2.2.2.2.2.2.2.1,(),(),(),()),()),y4.2.2.1,y4.2.2.2.1,y4.2.2.2.2.1,y4.2.2.2.2.2.1,y4.2.2.2.2.2.2.1,y4.2.2.2.2.2.2.2.1,()))).bind fun r=>match r with
                               | .inl y10=>
                                 ((iter big u32_22 (((),(),y10.1.2.2.2.1,y10.1.2.2.1,(y10.1.2.2.1.length:Int),0,()),((y10.2.1.1.1,y10.2.1.1.2.1,y10.2.1.1.2.2.1,y10.2.1.1.2.2.2.1,y10.2.1.1.2.2.2.2.1,y10.2.1.1.2.2.2.2.2.1,y10.2.1.1.2.2.2.2.2.2.1,y10.2.1.1.2.2.2.2.2.2.2.1,y10.2.1.1.2.2.2.2.2.2.2.2.1,y10.2.1.1.2.2.2.2.2.2.2.2.2.1,y10.2.1.1.2.2.2.2.2.2.2.2.2.2.1,y10.2.1.1.2.2.2.2.2.2.2.2.2.2.2.1,y10.2.1.1.2.2.2.2.2.2.2.2.2.2.2.2.1,(),(),(),()),(y10.2.1.2.1.1,y10.2.1.2.1.2.1,y10.2.1.2.1.2.2.1,y10.2.1.2.1.2.2.2.1,y10.2.1.2.1.2.2.2.2.1,y10.2.1.2.1.2.2.2.2.2.1,y10.2.1.2.1.2.2.2.2.2.2.1,y10.2.1.2.1.2.2.2.2.2.2.2.1,y10.2.1.2.1.2.2.2.2.2.2.2.2.1,y10.2.1.2.1.2.2.2.2.2.2.2.2.2.1,y10.2.1.2.1.2.2.2.2.2.2.2.2.2.2.1,y10.2.1.2.1.2.2.2.2.2.2.2.2.2.2.2.1,y10.2.1.2.1.2.2.2.2.2.2.2.2.2.2.2.2.1,(),(),(),()),()),y10.2.2.1,y10.2.2.2.1,y10.2.2.2.2.1,y10.2.2.2.2.2.1,y10.2.2.2.2.2.2.1,y10.2.2.2.2.2.2.2.1,()))).bind fun r=>match r with
                                 | .inl y12=>
                                   ((f48 y12.2.1.2.1.1 y12.2.1.2.1.2.1 y12.2.1.2.1.2.2.1 y12.2.1.2.1.2.2.2.1 y12.2.1.2.1.2.2.2.2.1 y12.2.1.2.1.2.2.2.2.2.1 y12.2.1.2.1.2.2.2.2.2.2.1 y12.2.1.2.1.2.2.2.2.2.2.2.1 y12.2.1.2.1.2.2.2.2.2.2.2.2.1 y12.2.1.2.1.2.2.2.2.2.2.2.2.2.1 y12.2.1.2.1.2.2.2.2.2.2.2.2.2.2.1 y12.2.1.2.1.2.2.2.2.2.2.2.2.2.2.2.1 y12.2.1.2.1.2.2.2.2.2.2.2.2.2.2.2.2.1 y12.2.2.2.2.2.1 y12.2.2.2.2.2.2.1 y12.2.2.2.2.2.2.2.1)).bind fun y14=>
                                   cond (!y14.1) (
                                    some ((((0,0),(0,0),0,0,0,0),(0,0,0,false),0,[],[],[]),false,())) (
                                    some ((((y12.2.1.2.1.1,y12.2.1.2.1.2.1),(y12.2.1.2.1.2.2.1,y12.2.1.2.1.2.2.2.1),y12.2.1.2.1.2.2.2.2.1,y12.2.1.2.1.2.2.2.2.2.1,y12.2.1.2.1.2.2.2.2.2.2.1,y12.2.1.2.1.2.2.2.2.2.2.2.1),(y12.2.1.2.1.2.2.2.2.2.2.2.2.1,y12.2.1.2.1.2.2.2.2.2.2.2.2.2.1,y12.2.1.2.1.2.2.2.2.2.2.2.2.2.2.1,y12.2.1.2.1.2.2.2.2.2.2.2.2.2.2.2.1),y12.2.1.2.1.2.2.2.2.2.2.2.2.2.2.2.2.1,y12.2.2.2.2.2.1,y12.2.2.2.2.2.2.1,y12.2.2.2.2.2.2.2.1),true,()))
                                 | .inr z13=>
                                   none
                               | .inr z11=>
                                 none))))))) (
                         none)) (
                        none)
                     | .inr z5=>
                       none) (
                     none)) (
                    none)) (
                   none)) (
                  none)) (
                 none)) (
                none)) (
               none)) (
              none)) (
             none)) (
            none)) (
           none)) (
          none)) (
         none)) (
        none))) (
      none)))))
noncomputable def f13 (v1:DT4):Option (DT10×Int×Bool×Unit):=
 ((f31 v1 0)).bind fun y2=>
 cond (!(decide (y2.2.2.1=0))) (
  some ((((0,0),(0,0),0,0,0,0),(0,0,0,false),0,[],[],[]),0,false,())) (
  cond (!(decide (y2.1.1=1))) (
   some ((((0,0),(0,0),0,0,0,0),(0,0,0,false),0,[],[],[]),0,false,())) (
   ((f32 y2.1.2)).bind fun y3=>
   cond (!y3.2.1) (
    some ((((0,0),(0,0),0,0,0,0),(0,0,0,false),0,[],[],[]),0,false,())) (
    some ((((y3.1.1.1.1,y3.1.1.1.2),(y3.1.1.2.1.1,y3.1.1.2.1.2),y3.1.1.2.2.1,y3.1.1.2.2.2.1,y3.1.1.2.2.2.2.1,y3.1.1.2.2.2.2.2),(y3.1.2.1.1,y3.1.2.1.2.1,y3.1.2.1.2.2.1,y3.1.2.1.2.2.2),y3.1.2.2.1,y3.1.2.2.2.1,y3.1.2.2.2.2.1,y3.1.2.2.2.2.2),y2.2.1,true,()))))
noncomputable def f36 (v1:Int)(v2:DT4)(v3 v4:Int)(v5:DT4)(v6:Int):Option DT7:=
 cond (decide (v1=v4)) (
  cond (decide (v3=v6)) (
   ((f37 v2 v5)).bind fun y7=>
   some (y7.1,())) (
   some (false,()))) (
  some (false,()))
abbrev X19_38_4_0:Type:=(DT0×Unit×DT0×Int×Int×Unit)×(DT13×DT13×Unit)×(Unit)
abbrev Y19_38_4_0:Type:=(Unit)×(DT13×DT13×Unit)×(Unit)
abbrev Z19_38_4_0:Type:=DT7×(DT13×DT13×Unit)×(Unit)
noncomputable def t19_38_4_0 (v1 v2:DT0)(v3 v4 v5:Int)(v6:DT0)(v7:Int)(v8:DT0):Option (R3 X19_38_4_0 Y19_38_4_0 Z19_38_4_0):=
 cond (decide (v4<v3)) (
  cond ((decide (0≤v4))&&(decide (v4<(v2.length:Int)))) (
   cond ((decide (0≤v4))&&(decide (v4<(v1.length:Int)))) (
    ((f36 (rd dT0 v2 (Int.toNat v4)).1 (rd dT0 v2 (Int.toNat v4)).2.1 (rd dT0 v2 (Int.toNat v4)).2.2 (rd dT0 v1 (Int.toNat v4)).1 (rd dT0 v1 (Int.toNat v4)).2.1 (rd dT0 v1 (Int.toNat v4)).2.2)).bind fun y9=>
    cond (!y9.1) (
     some (R3.ret ((false,()),((v5,v6,()),(v7,v8,()),()),()))) (
     some (R3.next ((v1,(),v2,v3,(IntKind.wrap .i64 (v4+1)),()),((v5,v6,()),(v7,v8,()),()),())))) (
    none)) (
   none)) (
  some (R3.out ((),((v5,v6,()),(v7,v8,()),()),())))
noncomputable def u19_38_4_0 (z:X19_38_4_0):Option (R3 X19_38_4_0 Y19_38_4_0 Z19_38_4_0):=t19_38_4_0 z.1.1 z.1.2.2.1 z.1.2.2.2.1 z.1.2.2.2.2.1 z.2.1.1.1 z.2.1.1.2.1 z.2.1.2.1.1 z.2.1.2.1.2.1
noncomputable def f19 (v1:Int)(v2:DT0)(v3:Int)(v4:DT0):Option DT7:=
 cond (decide (v1=v3)) (
  cond (!(decide ((v2.length:Int)=(v4.length:Int)))) (
   some (false,())) (
   ((iter big u19_38_4_0 ((v4,(),v2,(v2.length:Int),0,()),((v1,v2,()),(v3,v4,()),()),()))).bind fun r=>match r with
   | .inl y5=>
     some (true,())
   | .inr z6=>
     some (z6.1.1,()))) (
  some (false,()))
noncomputable def f15 (v1:Int)(v2:DT0)(v3 v4 v5:Int)(v6:DT0)(v7 v8:Int):Option DT7:=
 cond (decide (v3=v7)) (
  cond (decide (v4=v8)) (
   ((f19 v1 v2 v5 v6)).bind fun y9=>
   some (y9.1,())) (
   some (false,()))) (
  some (false,()))
abbrev X90_1:Type:=DT9×(Unit)×DT4×Unit
abbrev Y90_1:Type:=DT9×(Unit)×DT4×Unit
abbrev Z90_1:Type:=Unit×Unit×Unit
noncomputable def t90_1 (v1:Int)(v2:DT4):Option (R3 X90_1 Y90_1 Z90_1):=
 cond (decide (128≤v1)) (
  cond ((decide (((v2.length+1) * 1)≤140737488355328))&&(decide ((v2.length+1)≤9223372036854775807))) (
   some (R3.next (((Int.fdiv v1 128),()),(),(v2++[(bitop .or .u8 (IntKind.wrap .u8 v1) 128)]),()))) (
   none)) (
  some (R3.out ((v1,()),(),v2,())))
noncomputable def u90_1 (z:X90_1):Option (R3 X90_1 Y90_1 Z90_1):=t90_1 z.1.1 z.2.2.1
noncomputable def f90 (v1:DT4)(v2:Int):Option (DT4×Unit):=
 ((iter big u90_1 ((v2,()),(),v1,()))).bind fun r=>match r with
 | .inl y3=>
   cond ((decide (((y3.2.2.1.length+1) * 1)≤140737488355328))&&(decide ((y3.2.2.1.length+1)≤9223372036854775807))) (
    some ((y3.2.2.1++[(IntKind.wrap .u8 y3.1.1)]),())) (
    none)
 | .inr z4=>
   none
noncomputable def g90 (v1:DT4)(v2:Int):Option (List (Ty.T dT5)):=(f90 v1 v2).map (·.1)
abbrev X55_90_1_0:Type:=DT9×(Unit)×DT4×Unit
abbrev Y55_90_1_0:Type:=DT9×(Unit)×DT4×Unit
abbrev Z55_90_1_0:Type:=Unit×Unit×Unit
noncomputable def t55_90_1_0 (v1:Int)(v2:DT4):Option (R3 X55_90_1_0 Y55_90_1_0 Z55_90_1_0):=
 cond (decide (128≤v1)) (
  cond ((decide (((v2.length+1) * 1)≤140737488355328))&&(decide ((v2.length+1)≤9223372036854775807))) (
   some (R3.next (((Int.fdiv v1 128),()),(),(v2++[(bitop .or .u8 (IntKind.wrap .u8 v1) 128)]),()))) (
   none)) (
  some (R3.out ((v1,()),(),v2,())))
noncomputable def u55_90_1_0 (z:X55_90_1_0):Option (R3 X55_90_1_0 Y55_90_1_0 Z55_90_1_0):=t55_90_1_0 z.1.1 z.2.2.1
noncomputable def f55 (v1:Int):Option (DT4×Unit):=
 ((f89 v1)).bind fun y2=>
 cond (!y2.1) (
  some ([],())) (
  ((iter big u55_90_1_0 ((v1,()),(),[],()))).bind fun r=>match r with
  | .inl y3=>
    cond ((decide (((y3.2.2.1.length+1) * 1)≤140737488355328))&&(decide ((y3.2.2.1.length+1)≤9223372036854775807))) (
     some ((y3.2.2.1++[(IntKind.wrap .u8 y3.1.1)]),())) (
     none)
  | .inr z4=>
    none)
abbrev X102_3:Type:=((List DT4)×Int×(List DT4)×Int×Int×Unit)×(Unit)×(Unit)
abbrev Y102_3:Type:=((List DT4)×Int×Unit)×(Unit)×(Unit)
abbrev Z102_3:Type:=Unit×Unit×Unit
noncomputable def t102_3 (v1:(List DT4))(v2:Int)(v3:(List DT4))(v4 v5:Int):Option (R3 X102_3 Y102_3 Z102_3):=
 cond (decide (v5<v4)) (
  cond ((decide (0≤v5))&&(decide (v5<(v3.length:Int)))) (
   cond (decide ((IntKind.wrap .i64 (v2+(((rd (.row dT5) v3 (Int.toNat v5)).length:Nat):Int)))<0)) (
    none) (
    some (R3.next ((v1,(IntKind.wrap .i64 (v2+(((rd (.row dT5) v3 (Int.toNat v5)).length:Nat):Int))),v3,v4,(IntKind.wrap .i64 (v5+1)),()),(),())))) (
   none)) (
  some (R3.out ((v1,v2,()),(),())))
noncomputable def u102_3 (z:X102_3):Option (R3 X102_3 Y102_3 Z102_3):=t102_3 z.1.1 z.1.2.1 z.1.2.2.1 z.1.2.2.2.1 z.1.2.2.2.2.1
abbrev X102_11:Type:=((List DT4)×Int×Int×Unit)×(Unit)×DT4×Unit
abbrev Y102_11:Type:=(Unit)×(Unit)×DT4×Unit
abbrev Z102_11:Type:=Unit×Unit×Unit
noncomputable def t102_11 (v1:(List DT4))(v2 v3:Int)(v4:DT4):Option (R3 X102_11 Y102_11 Z102_11):=
 cond (decide (v3<v2)) (
  cond ((decide (0≤v3))&&(decide (v3<(v1.length:Int)))) (
   cond ((decide (((v4.length+(rd (.row dT5) v1 (Int.toNat v3)).length) * 1)≤140737488355328))&&(decide ((v4.length+(rd (.row dT5) v1 (Int.toNat v3)).length)≤9223372036854775807))) (
    some (R3.next ((v1,v2,(IntKind.wrap .i64 (v3+1)),()),(),(v4++(rd (.row dT5) v1 (Int.toNat v3))),()))) (
    none)) (
   none)) (
  some (R3.out ((),(),v4,())))
noncomputable def u102_11 (z:X102_11):Option (R3 X102_11 Y102_11 Z102_11):=t102_11 z.1.1 z.1.2.1 z.1.2.2.1 z.2.2.1
noncomputable def f102 (v1:(List DT4)):Option (DT4×Unit):=
 ((iter big u102_3 ((v1,0,v1,(v1.length:Int),0,()),(),()))).bind fun r=>match r with
 | .inl y2=>
   ((fGrow0 y2.1.2.1)).bind fun y4=>
   ((iter big u102_11 ((y2.1.1,(y2.1.1.length:Int),0,()),(),y4.1,()))).bind fun r=>match r with
   | .inl y5=>
     some (y5.2.2.1,())
   | .inr z6=>
     none
 | .inr z3=>
   none
noncomputable def f101 (v1:DT4):Option (DT4×Unit):=
 ((f108 v1)).bind fun y2=>
 ((f107 y2.1)).bind fun y3=>
 ((f102 [v1,y3.1])).bind fun y4=>
 some (y4.1,())
noncomputable def f59 (v1:Int)(v2:DT4):Option DT14:=
 cond (decide (v1<0)) (
  some ([],false,())) (
  cond (decide (255<v1)) (
   some ([],false,())) (
   cond (decide (1000<(v2.length:Int))) (
    some ([],false,())) (
    ((f55 (v2.length:Int))).bind fun y3=>
    ((f102 [[(IntKind.wrap .u8 v1)],y3.1,v2])).bind fun y4=>
    ((f101 y4.1)).bind fun y5=>
    some (y5.1,true,()))))
abbrev X39_3:Type:=(Unit×Unit×Int×Int×Unit)×(DT11×DT11×Unit)×DT0×DT0×Unit
abbrev Y39_3:Type:=DT25×(DT11×DT11×Unit)×DT0×DT0×Unit
abbrev Z39_3:Type:=Unit×Unit×Unit
noncomputable def t39_3 (v1 v2 v3 v4:Int)(v5 v6:DT0):Option (R3 X39_3 Y39_3 Z39_3):=
 cond (decide (v2<v1)) (
  cond ((decide (0≤v2))&&(decide (v2<(v5.length:Int)))) (
   cond (decide ((Int.toNat v2)<v5.length)) (
    ((fCloneByte (rd dT0 v5 (Int.toNat v2)).2.1)).bind fun y7=>
    cond ((decide (0≤v2))&&(decide (v2<(v5.length:Int)))) (
     cond (decide ((Int.toNat v2)<v5.length)) (
      some (R3.next (((),(),v1,(IntKind.wrap .i64 (v2+1)),()),((v3,(),()),(v4,(),()),()),(v5.set (Int.toNat v2) ((rd dT0 v5 (Int.toNat v2)).1,y7.1,(rd dT0 v5 (Int.toNat v2)).2.2)),v6,()))) (
      none)) (
     none)) (
    none)) (
   none)) (
  some (R3.out (((),(),()),((v3,(),()),(v4,(),()),()),v5,v6,())))
noncomputable def u39_3 (z:X39_3):Option (R3 X39_3 Y39_3 Z39_3):=t39_3 z.1.2.2.1 z.1.2.2.2.1 z.2.1.1.1 z.2.1.2.1.1 z.2.2.1 z.2.2.2.1
noncomputable def f39 (v1:Int)(v2:DT0):Option ((Int×DT0)×Unit):=
 ((fCloneFile v2)).bind fun y3=>
 ((iter big u39_3 (((),(),(y3.1.length:Int),0,()),((v1,(),()),(0,(),()),()),y3.1,[],()))).bind fun r=>match r with
 | .inl y4=>
   some ((y4.2.1.1.1,y4.2.2.1),())
 | .inr z5=>
   none
abbrev X1039_3:Type:=(Unit×Unit×Int×Int×Unit)×(DT11×((List (Int×List Int×Int))×Nat)×DT11×Unit)×DT0×Unit
abbrev Y1039_3:Type:=DT25×(DT11×((List (Int×List Int×Int))×Nat)×DT11×Unit)×DT0×Unit
abbrev Z1039_3:Type:=Unit×Unit×Unit
noncomputable def t1039_3 (v1 v2 v3:Int)(v4:DT0)(v5:Nat)(v6:Int)(v7:DT0):Option (R3 X1039_3 Y1039_3 Z1039_3):=
 cond (decide (v2<v1)) (
  cond ((decide (0≤v2))&&(decide (v2<(v4.length:Int)))) (
   cond ((decide ((Int.toNat v2)<v4.length))&&(decide (v5≤(Int.toNat v2)))) (
    ((gCopy (rd dT0 v4 (Int.toNat v2)).2.1)).bind fun y8=>
    cond (decide (v5<v4.length)) (
     cond ((decide (0≤v2))&&(decide (v2<(((v4.set v5 ((rd dT0 v4 v5).1,(rd dT0 v4 (Int.toNat v2)).2.1,(rd dT0 v4 v5).2.2)).length:Nat):Int)))) (
      cond ((((decide ((Int.toNat v2)<(v4.set v5 ((rd dT0 v4 v5).1,(rd dT0 v4 (Int.toNat v2)).2.1,(rd dT0 v4 v5).2.2)).length))&&(decide (v5=(Int.toNat v2))))&&(decide (v5=(Int.toNat v2))))&&(decide ((rd dT0 v4 (Int.toNat v2)).2.1.length≤(rd dT0 (v4.set v5 ((rd dT0 v4 v5).1,(rd dT0 v4 (Int.toNat v2)).2.1,(rd dT0 v4 v5).2.2)) (Int.toNat v2)).2.1.length))) (
       some (R3.next (((),(),v1,(IntKind.wrap .i64 (v2+1)),()),((v3,(),()),(((v4.set v5 ((rd dT0 v4 v5).1,(rd dT0 v4 (Int.toNat v2)).2.1,(rd dT0 v4 v5).2.2)).set (Int.toNat v2) ((rd dT0 (v4.set v5 ((rd dT0 v4 v5).1,(rd dT0 v4 (Int.toNat v2)).2.1,(rd dT0 v4 v5).2.2)) (Int.toNat v2)).1,(List.take (rd dT0 v4 (Int.toNat v2)).2.1.length (rd dT0 (v4.set v5 ((rd dT0 v4 v5).1,(rd dT0 v4 (Int.toNat v2)).2.1,(rd dT0 v4 v5).2.2)) (Int.toNat v2)).2.1),(rd dT0 (v4.set v5 ((rd dT0 v4 v5).1,(rd dT0 v4 (Int.toNat v2)).2.1,(rd dT0 v4 v5).2.2)) (Int.toNat v2)).2.2)),(v5+1)),(v6,(),()),()),v7,()))) (
       none)) (
      none)) (
     none)) (
    none)) (
   none)) (
  some (R3.out (((),(),()),((v3,(),()),(v4,v5),(v6,(),()),()),v7,())))
noncomputable def u1039_3 (z:X1039_3):Option (R3 X1039_3 Y1039_3 Z1039_3):=t1039_3 z.1.2.2.1 z.1.2.2.2.1 z.2.1.1.1 z.2.1.2.1.1 z.2.1.2.1.2 z.2.1.2.2.1.1 z.2.2.1
noncomputable def f1039 (v1:Int)(v2:DT0):Option ((Int×DT0)×Unit):=
 ((fCloneFile v2)).bind fun y3=>
 ((iter big u1039_3 (((),(),(y3.1.length:Int),0,()),((v1,(),()),(y3.1,0),(0,(),()),()),[],()))).bind fun r=>match r with
 | .inl y4=>
   cond ((decide (y4.2.1.2.1.1.length≤y4.2.1.2.1.2))&&true) (
    some ((y4.2.1.1.1,y4.2.1.2.1.1),())) (
    none)
 | .inr z5=>
   none
abbrev X58_99_2_0:Type:=(Unit×Int×Int×Unit)×(DT13×DT9×Unit)×(Unit)
abbrev Y58_99_2_0:Type:=DT9×(DT13×DT9×Unit)×(Unit)
abbrev Z58_99_2_0:Type:=Unit×DT25×Unit
noncomputable def t58_99_2_0 (v1 v2 v3:Int)(v4:DT0)(v5:Int):Option (R3 X58_99_2_0 Y58_99_2_0 Z58_99_2_0):=
 cond (decide (v1<v2)) (
  cond ((decide (0≤(IntKind.wrap .i64 (Int.fdiv (IntKind.wrap .u64 (IntKind.wrap .i64 (v1+v2))) 2))))&&(decide ((IntKind.wrap .i64 (Int.fdiv (IntKind.wrap .u64 (IntKind.wrap .i64 (v1+v2))) 2))<(v4.length:Int)))) (
   cond (!(decide (v5≤(rd dT0 v4 (Int.toNat (IntKind.wrap .i64 (Int.fdiv (IntKind.wrap .u64 (IntKind.wrap .i64 (v1+v2))) 2)))).1))) (
    some (R3.next (((),(IntKind.wrap .i64 ((IntKind.wrap .i64 (Int.fdiv (IntKind.wrap .u64 (IntKind.wrap .i64 (v1+v2))) 2))+1)),v2,()),((v3,v4,()),(v5,()),()),()))) (
    some (R3.next (((),v1,(IntKind.wrap .i64 (Int.fdiv (IntKind.wrap .u64 (IntKind.wrap .i64 (v1+v2))) 2)),()),((v3,v4,()),(v5,()),()),())))) (
   none)) (
  some (R3.out ((v1,()),((v3,v4,()),(v5,()),()),())))
noncomputable def u58_99_2_0 (z:X58_99_2_0):Option (R3 X58_99_2_0 Y58_99_2_0 Z58_99_2_0):=t58_99_2_0 z.1.2.1 z.1.2.2.1 z.2.1.1.1 z.2.1.1.2.1 z.2.1.2.1.1
noncomputable def f58 (v1:Int)(v2:DT0)(v3:Int):Option DT9:=
 ((iter big u58_99_2_0 (((),0,(v2.length:Int),()),((v1,v2,()),(v3,()),()),()))).bind fun r=>match r with
 | .inl y4=>
   some (y4.1.1,())
 | .inr z5=>
   none
noncomputable def f56 (v1:Int)(v2:DT0)(v3:Int):Option DT9:=
 ((f26 v1 v2)).bind fun y4=>
 cond (!y4.1) (
  some ((-1),())) (
  ((f58 v1 v2 v3)).bind fun y5=>
  cond (decide (y5.1<(v2.length:Int))) (
   cond ((decide (0≤y5.1))&&(decide (y5.1<(v2.length:Int)))) (
    cond (decide ((rd dT0 v2 (Int.toNat y5.1)).1=v3)) (
     some (y5.1,())) (
     some ((-1),()))) (
    none)) (
   some ((-1),())))
noncomputable def f103 (v1:Int)(v2:DT0)(v3:Int)(v4:DT4):Option DT20:=
 ((f26 v1 v2)).bind fun y5=>
 cond (!y5.1) (
  ((f1039 v1 v2)).bind fun y6=>
  some ((y6.1.1,y6.1.2),1,())) (
  ((f56 v1 v2 v3)).bind fun y7=>
  cond (decide (y7.1=(-1))) (
   ((f1039 v1 v2)).bind fun y8=>
   some ((y8.1.1,y8.1.2),5,())) (
   ((f1039 v1 v2)).bind fun y9=>
   ((f46 y9.1.2)).bind fun y10=>
   cond (decide ((IntKind.wrap .i64 (y9.1.1-y10.1))<(v4.length:Int))) (
    ((f1039 v1 v2)).bind fun y11=>
    some ((y11.1.1,y11.1.2),9,())) (
    cond ((decide (0≤y7.1))&&(decide (y7.1<(y9.1.2.length:Int)))) (
     cond (decide ((Int.toNat y7.1)<y9.1.2.length)) (
      cond (((decide ((Int.toNat y7.1)<y9.1.2.length))&&(decide ((rd dT0 y9.1.2 (Int.toNat y7.1)).2.1.length=(rd dT0 y9.1.2 (Int.toNat y7.1)).2.1.length)))&&(decide (((rd dT0 y9.1.2 (Int.toNat y7.1)).2.1.length+v4.length)≤140737488355328))) (
       cond ((decide (0≤y7.1))&&(decide (y7.1<(((y9.1.2.set (Int.toNat y7.1) ((rd dT0 y9.1.2 (Int.toNat y7.1)).1,((rd dT0 y9.1.2 (Int.toNat y7.1)).2.1++v4),(rd dT0 y9.1.2 (Int.toNat y7.1)).2.2)).length:Nat):Int)))) (
        cond ((((decide ((Int.toNat y7.1)<(y9.1.2.set (Int.toNat y7.1) ((rd dT0 y9.1.2 (Int.toNat y7.1)).1,((rd dT0 y9.1.2 (Int.toNat y7.1)).2.1++v4),(rd dT0 y9.1.2 (Int.toNat y7.1)).2.2)).length))&&(decide ((Int.toNat y7.1)=(Int.toNat y7.1))))&&(decide ((Int.toNat y7.1)=(Int.toNat y7.1))))&&(decide (((rd dT0 y9.1.2 (Int.toNat y7.1)).2.1.length+v4.length)≤(rd dT0 (y9.1.2.set (Int.toNat y7.1) ((rd dT0 y9.1.2 (Int.toNat y7.1)).1,((rd dT0 y9.1.2 (Int.toNat y7.1)).2.1++v4),(rd dT0 y9.1.2 (Int.toNat y7.1)).2.2)) (Int.toNat y7.1)).2.1.length))) (
         some ((y9.1.1,((y9.1.2.set (Int.toNat y7.1) ((rd dT0 y9.1.2 (Int.toNat y7.1)).1,((rd dT0 y9.1.2 (Int.toNat y7.1)).2.1++v4),(rd dT0 y9.1.2 (Int.toNat y7.1)).2.2)).set (Int.toNat y7.1) ((rd dT0 (y9.1.2.set (Int.toNat y7.1) ((rd dT0 y9.1.2 (Int.toNat y7.1)).1,((rd dT0 y9.1.2 (Int.toNat y7.1)).2.1++v4),(rd dT0 y9.1.2 (Int.toNat y7.1)).2.2)) (Int.toNat y7.1)).1,(List.take ((rd dT0 y9.1.2 (Int.toNat y7.1)).2.1.length+v4.length) (rd dT0 (y9.1.2.set (Int.toNat y7.1) ((rd dT0 y9.1.2 (Int.toNat y7.1)).1,((rd dT0 y9.1.2 (Int.toNat y7.1)).2.1++v4),(rd dT0 y9.1.2 (Int.toNat y7.1)).2.2)) (Int.toNat y7.1)).2.1),(rd dT0 (y9.1.2.set (Int.toNat y7.1) ((rd dT0 y9.1.2 (Int.toNat y7.1)).1,((rd dT0 y9.1.2 (Int.toNat y7.1)).2.1++v4),(rd dT0 y9.1.2 (Int.toNat y7.1)).2.2)) (Int.toNat y7.1)).2.2))),0,())) (
         none)) (
        none)) (
       none)) (
      none)) (
     none))))
noncomputable def f60 (v1:DT4)(v2:Int)(v3:DT0)(v4:Int):Option DT20:=
 ((f103 v2 v3 v4 v1)).bind fun y5=>
 some ((y5.1.1,y5.1.2),y5.2.1,())
noncomputable def f61 (v1:Int)(v2:DT0)(v3:Int):Option DT20:=
 ((f26 v1 v2)).bind fun y4=>
 cond (!y4.1) (
  ((f39 v1 v2)).bind fun y5=>
  some ((y5.1.1,y5.1.2),1,())) (
  ((f56 v1 v2 v3)).bind fun y6=>
  cond (decide (y6.1=(-1))) (
   ((f39 v1 v2)).bind fun y7=>
   some ((y7.1.1,y7.1.2),5,())) (
   ((f39 v1 v2)).bind fun y8=>
   cond ((decide (0≤y6.1))&&(decide (y6.1<(y8.1.2.length:Int)))) (
    cond (decide ((Int.toNat y6.1)<y8.1.2.length)) (
     cond ((decide (0≤y6.1))&&(decide (y6.1<(y8.1.2.length:Int)))) (
      cond (decide ((Int.toNat y6.1)<y8.1.2.length)) (
       some ((y8.1.1,(y8.1.2.set (Int.toNat y6.1) ((rd dT0 y8.1.2 (Int.toNat y6.1)).1,(rd dT0 y8.1.2 (Int.toNat y6.1)).2.1,(((rd dT0 y8.1.2 (Int.toNat y6.1)).2.1.length:Nat):Int)))),0,())) (
       none)) (
      none)) (
     none)) (
    none)))
abbrev X33_3:Type:=(Unit×Unit×Unit×DT0×Int×Int×Unit)×(DT18×(Int×Unit×Int×Int×Unit)×DT11×Unit)×DT0×DT0×Unit
abbrev Y33_3:Type:=(Unit×Unit×Unit×Unit)×(DT18×(Int×Unit×Int×Int×Unit)×DT11×Unit)×DT0×DT0×Unit
abbrev Z33_3:Type:=Unit×Unit×Unit
noncomputable def t33_3 (v1:DT0)(v2 v3 v4:Int)(v5:DT0)(v6 v7 v8 v9 v10 v11:Int)(v12 v13:DT0):Option (R3 X33_3 Y33_3 Z33_3):=
 cond (decide (v3<v2)) (
  cond ((decide (0≤v3))&&(decide (v3<(v1.length:Int)))) (
   cond ((decide (((rd dT0 v1 (Int.toNat v3)).2.1.length * 1)≤140737488355328))&&(decide ((rd dT0 v1 (Int.toNat v3)).2.1.length≤9223372036854775807))) (
    cond ((decide (((v13.length+1) * 40)≤140737488355328))&&(decide ((v13.length+1)≤9223372036854775807))) (
     some (R3.next (((),(),(),v1,v2,(IntKind.wrap .i64 (v3+1)),()),((v4,v5,v6,v7,()),(v8,(),v9,v10,()),(v11,(),()),()),v12,(v13++[((rd dT0 v1 (Int.toNat v3)).1,(rd dT0 v1 (Int.toNat v3)).2.1,(rd dT0 v1 (Int.toNat v3)).2.2)]),()))) (
     none)) (
    none)) (
   none)) (
  some (R3.out (((),(),(),()),((v4,v5,v6,v7,()),(v8,(),v9,v10,()),(v11,(),()),()),v12,v13,())))
noncomputable def u33_3 (z:X33_3):Option (R3 X33_3 Y33_3 Z33_3):=t33_3 z.1.2.2.2.1 z.1.2.2.2.2.1 z.1.2.2.2.2.2.1 z.2.1.1.1 z.2.1.1.2.1 z.2.1.1.2.2.1 z.2.1.1.2.2.2.1 z.2.1.2.1.1 z.2.1.2.1.2.2.1 z.2.1.2.1.2.2.2.1 z.2.1.2.2.1.1 z.2.2.1 z.2.2.2.1
noncomputable def f33 (v1:Int)(v2:DT0)(v3 v4:Int):Option (DT17×Unit):=
 ((iter big u33_3 (((),(),(),v2,(v2.length:Int),0,()),((v1,v2,v3,v4,()),(0,(),0,0,()),(v1,(),()),()),[],[],()))).bind fun r=>match r with
 | .inl y5=>
   some (((y5.2.1.2.2.1.1,y5.2.2.2.1),y5.2.1.1.2.2.1,y5.2.1.1.2.2.2.1),())
 | .inr z6=>
   none
abbrev X51_5:Type:=(DT4×Int×Int×Unit)×(Unit)×DT4×Unit
abbrev Y51_5:Type:=(Unit)×(Unit)×DT4×Unit
abbrev Z51_5:Type:=DT7×(Unit)×DT4×Unit
noncomputable def t51_5 (v1:DT4)(v2 v3:Int)(v4:DT4):Option (R3 X51_5 Y51_5 Z51_5):=
 cond (decide (v3<v2)) (
  cond ((decide (0≤v3))&&(decide (v3<(v1.length:Int)))) (
   ((f89 (rd dT1 v1 (Int.toNat v3)))).bind fun y5=>
   cond (!y5.1) (
    some (R3.ret ((false,()),(),[],()))) (
    ((g90 v4 (rd dT1 v1 (Int.toNat v3)))).bind fun y6=>
    some (R3.next ((v1,v2,(IntKind.wrap .i64 (v3+1)),()),(),y6,())))) (
   none)) (
  some (R3.out ((),(),v4,())))
noncomputable def u51_5 (z:X51_5):Option (R3 X51_5 Y51_5 Z51_5):=t51_5 z.1.1 z.1.2.1 z.1.2.2.1 z.2.2.1
noncomputable def f51 (v1:DT4):Option DT14:=
 cond (decide (400<(v1.length:Int))) (
  some ([],false,())) (
  ((iter big u51_5 ((v1,(v1.length:Int),0,()),(),[],()))).bind fun r=>match r with
  | .inl y2=>
    some (y2.2.2.1,true,())
  | .inr z3=>
    some (z3.2.2.1,z3.1.1,()))
noncomputable def f73 (v1 v2 v3:Int):Option DT7:=
 cond (decide (v2≤v1)) (
  some ((decide (v1≤v3)),())) (
  some (false,()))
noncomputable def f74 (v1 v2 v3 v4 v5 v6 v7 v8:Int)(v9:Bool):Option DT7:=
 ((f73 v2 0 1073741824)).bind fun y10=>
 cond (!y10.1) (
  some (false,())) (
  cond (!(decide (v1=6))) (
   cond (!((decide (v6=0))&&((decide (v7=0))&&((decide (v8=0))&&((v9 == false)&&true))))) (
    some (false,())) (
    cond (decide (v1=0)) (
     ((f73 v3 0 31)).bind fun y11=>
     cond y11.1 (
      ((f73 v4 0 3)).bind fun y12=>
      cond y12.1 (
       ((f73 v5 0 7)).bind fun y13=>
       some (y13.1,())) (
       some (false,()))) (
      some (false,()))) (
     cond (decide (v1=1)) (
      ((f73 v3 0 31)).bind fun y14=>
      cond y14.1 (
       ((f73 v4 0 3)).bind fun y15=>
       cond y15.1 (
        ((f73 v5 0 7)).bind fun y16=>
        some (y16.1,())) (
        some (false,()))) (
       some (false,()))) (
      cond (decide (v1=2)) (
       ((f73 v3 0 3)).bind fun y17=>
       cond y17.1 (
        ((f73 v4 1 4)).bind fun y18=>
        cond y18.1 (
         ((f73 v5 0 0)).bind fun y19=>
         some (y19.1,())) (
         some (false,()))) (
        some (false,()))) (
       cond (decide (v1=4)) (
        ((f73 v3 0 2)).bind fun y20=>
        cond y20.1 (
         ((f73 v4 1 4)).bind fun y21=>
         cond y21.1 (
          ((f73 v5 0 0)).bind fun y22=>
          some (y22.1,())) (
          some (false,()))) (
         some (false,()))) (
        cond (decide (v1=3)) (
         ((f73 v3 0 2)).bind fun y23=>
         cond y23.1 (
          ((f73 v4 0 0)).bind fun y24=>
          cond y24.1 (
           ((f73 v5 0 0)).bind fun y25=>
           some (y25.1,())) (
           some (false,()))) (
          some (false,()))) (
         cond (decide (v1=5)) (
          ((f73 v3 0 2)).bind fun y26=>
          cond y26.1 (
           ((f73 v4 0 0)).bind fun y27=>
           cond y27.1 (
            ((f73 v5 0 0)).bind fun y28=>
            some (y28.1,())) (
            some (false,()))) (
           some (false,()))) (
          cond (decide (v1=6)) (
           ((f82 v6 v7 v8 v9)).bind fun y29=>
           cond (!y29.1) (
            some (false,())) (
            ((f73 v3 0 0)).bind fun y30=>
            cond y30.1 (
             ((f73 v4 0 0)).bind fun y31=>
             cond y31.1 (
              ((f73 v5 0 0)).bind fun y32=>
              some (y32.1,())) (
              some (false,()))) (
             some (false,())))) (
           some (false,())))))))))) (
   cond (decide (v1=0)) (
    ((f73 v3 0 31)).bind fun y33=>
    cond y33.1 (
     ((f73 v4 0 3)).bind fun y34=>
     cond y34.1 (
      ((f73 v5 0 7)).bind fun y35=>
      some (y35.1,())) (
      some (false,()))) (
     some (false,()))) (
    cond (decide (v1=1)) (
     ((f73 v3 0 31)).bind fun y36=>
     cond y36.1 (
      ((f73 v4 0 3)).bind fun y37=>
      cond y37.1 (
       ((f73 v5 0 7)).bind fun y38=>
       some (y38.1,())) (
       some (false,()))) (
      some (false,()))) (
     cond (decide (v1=2)) (
      ((f73 v3 0 3)).bind fun y39=>
      cond y39.1 (
       ((f73 v4 1 4)).bind fun y40=>
       cond y40.1 (
        ((f73 v5 0 0)).bind fun y41=>
        some (y41.1,())) (
        some (false,()))) (
       some (false,()))) (
      cond (decide (v1=4)) (
       ((f73 v3 0 2)).bind fun y42=>
       cond y42.1 (
        ((f73 v4 1 4)).bind fun y43=>
        cond y43.1 (
         ((f73 v5 0 0)).bind fun y44=>
         some (y44.1,())) (
         some (false,()))) (
        some (false,()))) (
       cond (decide (v1=3)) (
        ((f73 v3 0 2)).bind fun y45=>
        cond y45.1 (
         ((f73 v4 0 0)).bind fun y46=>
         cond y46.1 (
          ((f73 v5 0 0)).bind fun y47=>
          some (y47.1,())) (
          some (false,()))) (
         some (false,()))) (
        cond (decide (v1=5)) (
         ((f73 v3 0 2)).bind fun y48=>
         cond y48.1 (
          ((f73 v4 0 0)).bind fun y49=>
          cond y49.1 (
           ((f73 v5 0 0)).bind fun y50=>
           some (y50.1,())) (
           some (false,()))) (
          some (false,()))) (
         cond (decide (v1=6)) (
          ((f82 v6 v7 v8 v9)).bind fun y51=>
          cond (!y51.1) (
           some (false,())) (
           ((f73 v3 0 0)).bind fun y52=>
           cond y52.1 (
            ((f73 v4 0 0)).bind fun y53=>
            cond y53.1 (
             ((f73 v5 0 0)).bind fun y54=>
             some (y54.1,())) (
             some (false,()))) (
            some (false,())))) (
          some (false,()))))))))))
noncomputable def f75 (v1 v2 v3 v4 v5 v6 v7 v8:Int)(v9:Bool):Option (DT4×Unit):=
 cond (decide (v1=0)) (
  some ([(bitop .or .i64 (bitop .or .i64 (IntKind.wrap .i64 (v3 * 32)) (IntKind.wrap .i64 (v4 * 8))) v5)],())) (
  cond (decide (v1=1)) (
   some ([(bitop .or .i64 (bitop .or .i64 (IntKind.wrap .i64 (v3 * 32)) (IntKind.wrap .i64 (v4 * 8))) v5)],())) (
   cond (decide (v1=2)) (
    some ([(bitop .or .i64 (IntKind.wrap .i64 (v3 * 8)) v4)],())) (
    cond (decide (v1=4)) (
     some ([(bitop .or .i64 (IntKind.wrap .i64 (v3 * 8)) v4)],())) (
     cond (decide (v1=3)) (
      some ([v3],())) (
      cond (decide (v1=5)) (
       some ([v3],())) (
       cond v9 (
        cond (decide (3<4)) (
         cond (decide (3<4)) (
          some ([v6,v7,v8,1],())) (
          none)) (
         none)) (
        some ([v6,v7,v8,0],()))))))))
abbrev X35_5:Type:=(Int×DT12×Int×Int×Unit)×(Unit)×DT4×Unit
abbrev Y35_5:Type:=(Unit)×(Unit)×DT4×Unit
abbrev Z35_5:Type:=DT7×(Unit)×DT4×Unit
noncomputable def t35_5 (v1:Int)(v2:DT12)(v3 v4:Int)(v5:DT4):Option (R3 X35_5 Y35_5 Z35_5):=
 cond (decide (v4<v3)) (
  cond ((decide (0≤v4))&&(decide (v4<(v2.length:Int)))) (
   ((f74 (rd dT3 v2 (Int.toNat v4)).1 (rd dT3 v2 (Int.toNat v4)).2.1 (rd dT3 v2 (Int.toNat v4)).2.2.1 (rd dT3 v2 (Int.toNat v4)).2.2.2.1 (rd dT3 v2 (Int.toNat v4)).2.2.2.2.1 (rd dT3 v2 (Int.toNat v4)).2.2.2.2.2.1 (rd dT3 v2 (Int.toNat v4)).2.2.2.2.2.2.1 (rd dT3 v2 (Int.toNat v4)).2.2.2.2.2.2.2.1 (rd dT3 v2 (Int.toNat v4)).2.2.2.2.2.2.2.2)).bind fun y6=>
   cond (!y6.1) (
    some (R3.ret ((false,()),(),[],()))) (
    cond (decide ((rd dT3 v2 (Int.toNat v4)).2.1<v1)) (
     some (R3.ret ((false,()),(),[],()))) (
     cond ((decide (((v5.length+1) * 8)≤140737488355328))&&(decide ((v5.length+1)≤9223372036854775807))) (
      ((f75 (rd dT3 v2 (Int.toNat v4)).1 (rd dT3 v2 (Int.toNat v4)).2.1 (rd dT3 v2 (Int.toNat v4)).2.2.1 (rd dT3 v2 (Int.toNat v4)).2.2.2.1 (rd dT3 v2 (Int.toNat v4)).2.2.2.2.1 (rd dT3 v2 (Int.toNat v4)).2.2.2.2.2.1 (rd dT3 v2 (Int.toNat v4)).2.2.2.2.2.2.1 (rd dT3 v2 (Int.toNat v4)).2.2.2.2.2.2.2.1 (rd dT3 v2 (Int.toNat v4)).2.2.2.2.2.2.2.2)).bind fun y7=>
      cond ((decide ((((v5++[(IntKind.wrap .i64 ((IntKind.wrap .i64 ((IntKind.wrap .i64 ((rd dT3 v2 (Int.toNat v4)).2.1-v1)) * 16))+(rd dT3 v2 (Int.toNat v4)).1))]).length+y7.1.length) * 8)≤140737488355328))&&(decide (((v5++[(IntKind.wrap .i64 ((IntKind.wrap .i64 ((IntKind.wrap .i64 ((rd dT3 v2 (Int.toNat v4)).2.1-v1)) * 16))+(rd dT3 v2 (Int.toNat v4)).1))]).length+y7.1.length)≤9223372036854775807))) (
       some (R3.next (((rd dT3 v2 (Int.toNat v4)).2.1,v2,v3,(IntKind.wrap .i64 (v4+1)),()),(),((v5++[(IntKind.wrap .i64 ((IntKind.wrap .i64 ((IntKind.wrap .i64 ((rd dT3 v2 (Int.toNat v4)).2.1-v1)) * 16))+(rd dT3 v2 (Int.toNat v4)).1))])++y7.1),()))) (
       none)) (
      none)))) (
   none)) (
  some (R3.out ((),(),v5,())))
noncomputable def u35_5 (z:X35_5):Option (R3 X35_5 Y35_5 Z35_5):=t35_5 z.1.1 z.1.2.1 z.1.2.2.1 z.1.2.2.2.1 z.2.2.1
noncomputable def f35 (v1:Int)(v2:DT12):Option DT14:=
 ((f73 v1 0 1073741824)).bind fun y3=>
 cond (!y3.1) (
  some ([],false,())) (
  ((iter big u35_5 ((v1,v2,(v2.length:Int),0,()),(),[],()))).bind fun r=>match r with
  | .inl y4=>
    ((f51 y4.2.2.1)).bind fun y6=>
    some (y6.1,y6.2.1,())
  | .inr z5=>
    some (z5.2.2.1,z5.1.1,()))
noncomputable def f17 (v1:Int)(v2:DT0)(v3 v4:Int)(v5:DT12):Option (DT17×Int×Unit):=
 ((f11 v1 v2 v3 v4)).bind fun y6=>
 cond (!y6.1) (
  ((f33 v1 v2 v3 v4)).bind fun y7=>
  some (((y7.1.1.1,y7.1.1.2),y7.1.2.1,y7.1.2.2),1,())) (
  cond (decide ((v5.length:Int)=0)) (
   ((f33 v1 v2 v3 v4)).bind fun y8=>
   some (((y8.1.1.1,y8.1.1.2),y8.1.2.1,y8.1.2.2),1,())) (
   ((f35 v4 v5)).bind fun y9=>
   cond (!y9.2.1) (
    ((f33 v1 v2 v3 v4)).bind fun y10=>
    some (((y10.1.1.1,y10.1.1.2),y10.1.2.1,y10.1.2.2),1,())) (
    ((f59 2 y9.1)).bind fun y11=>
    cond (!y11.2.1) (
     ((f33 v1 v2 v3 v4)).bind fun y12=>
     some (((y12.1.1.1,y12.1.1.2),y12.1.2.1,y12.1.2.2),1,())) (
     ((f60 y11.1 v1 v2 v3)).bind fun y13=>
     cond (decide (y13.2.1=0)) (
      ((f61 y13.1.1 y13.1.2 v3)).bind fun y14=>
      cond (!(decide (y14.2.1=0))) (
       ((f33 v1 v2 v3 v4)).bind fun y15=>
       some (((y15.1.1.1,y15.1.1.2),y15.1.2.1,y15.1.2.2),y14.2.1,())) (
       cond ((decide (0≤(IntKind.wrap .i64 ((v5.length:Int)-1))))&&(decide ((IntKind.wrap .i64 ((v5.length:Int)-1))<(v5.length:Int)))) (
        some (((y14.1.1,y14.1.2),v3,(rd dT3 v5 (Int.toNat (IntKind.wrap .i64 ((v5.length:Int)-1)))).2.1),0,())) (
        none))) (
      cond (!(decide (y13.2.1=0))) (
       ((f33 v1 v2 v3 v4)).bind fun y16=>
       some (((y16.1.1.1,y16.1.1.2),y16.1.2.1,y16.1.2.2),y13.2.1,())) (
       cond ((decide (0≤(IntKind.wrap .i64 ((v5.length:Int)-1))))&&(decide ((IntKind.wrap .i64 ((v5.length:Int)-1))<(v5.length:Int)))) (
        some (((y13.1.1,y13.1.2),v3,(rd dT3 v5 (Int.toNat (IntKind.wrap .i64 ((v5.length:Int)-1)))).2.1),0,())) (
        none)))))))
noncomputable def f50 (v1 v2:Int):Option DT9:=
 some ((IntKind.wrap .i64 ((IntKind.wrap .i64 (v1 * 8))+v2)),())
abbrev X52_6:Type:=(DT1×Int×Int×Unit)×(Unit)×DT4×Unit
abbrev Y52_6:Type:=(Unit)×(Unit)×DT4×Unit
abbrev Z52_6:Type:=Unit×Unit×Unit
noncomputable def t52_6 (v1:DT1)(v2 v3:Int)(v4:DT4):Option (R3 X52_6 Y52_6 Z52_6):=
 cond (decide (v3<v2)) (
  cond ((decide (0≤v3))&&(decide (v3<(v1.length:Int)))) (
   cond ((decide (((v4.length+3) * 8)≤140737488355328))&&(decide ((v4.length+3)≤9223372036854775807))) (
    some (R3.next ((v1,v2,(IntKind.wrap .i64 (v3+1)),()),(),(v4++[(rd dT4 v1 (Int.toNat v3)).1,(rd dT4 v1 (Int.toNat v3)).2.1,(rd dT4 v1 (Int.toNat v3)).2.2]),()))) (
    none)) (
   none)) (
  some (R3.out ((),(),v4,())))
noncomputable def u52_6 (z:X52_6):Option (R3 X52_6 Y52_6 Z52_6):=t52_6 z.1.1 z.1.2.1 z.1.2.2.1 z.2.2.1
noncomputable def f52 (v1 v2 v3 v4 v5 v6 v7 v8 v9 v10 v11:Int)(v12:Bool)(v13:Int)(v14:DT1)(v15:DT2)(v16:DT1):Option (DT4×Unit):=
 cond v12 (
  cond (decide (11<15)) (
   cond (decide (11<15)) (
    ((iter big u52_6 ((v14,(v14.length:Int),0,()),(),[v1,v2,v3,v4,v5,v6,v7,v8,v9,v10,v11,1,v13,(v15.length:Int),(v16.length:Int)],()))).bind fun r=>match r with
    | .inl y17=>
      some (y17.2.2.1,())
    | .inr z18=>
      none) (
    none)) (
   none)) (
  ((iter big u52_6 ((v14,(v14.length:Int),0,()),(),[v1,v2,v3,v4,v5,v6,v7,v8,v9,v10,v11,0,v13,(v15.length:Int),(v16.length:Int)],()))).bind fun r=>match r with
  | .inl y19=>
    some (y19.2.2.1,())
  | .inr z20=>
    none)
abbrev X53_135_2_0:Type:=(DT4×Unit×Int×Int×Unit)×DT16×(Unit)
abbrev Y53_135_2_0:Type:=(Unit)×DT16×(Unit)
abbrev Z53_135_2_0:Type:=DT9×DT16×(Unit)
noncomputable def t53_135_2_0 (v1:DT4)(v2 v3 v4:Int):Option (R3 X53_135_2_0 Y53_135_2_0 Z53_135_2_0):=
 cond (decide (v3<v2)) (
  cond ((decide (0≤v3))&&(decide (v3<(v1.length:Int)))) (
   cond (decide ((rd dT1 v1 (Int.toNat v3))<0)) (
    some (R3.ret ((v3,()),((v4,()),()),()))) (
    cond (!(decide (v4<0))) (
     cond (!(decide ((Int.fdiv (rd dT1 v1 (Int.toNat v3)) ((2:Int) ^ ((min (Int.toNat v4) 64):Nat)))=0))) (
      some (R3.ret ((v3,()),((v4,()),()),()))) (
      some (R3.next ((v1,(),v2,(IntKind.wrap .i64 (v3+1)),()),((v4,()),()),())))) (
     none))) (
   none)) (
  some (R3.out ((),((v4,()),()),())))
noncomputable def u53_135_2_0 (z:X53_135_2_0):Option (R3 X53_135_2_0 Y53_135_2_0 Z53_135_2_0):=t53_135_2_0 z.1.1 z.1.2.2.1 z.1.2.2.2.1 z.2.1.1.1
abbrev X53_9:Type:=DT22×DT16×DT4×Unit
abbrev X53_13:Type:=DT22×DT16×DT4×Unit
abbrev Y53_13:Type:=DT22×DT16×DT4×Unit
abbrev Z53_13:Type:=Unit×Unit×Unit
noncomputable def t53_13 (v1 v2:Int)(v3:DT4)(v4 v5 v6:Int)(v7:DT4):Option (R3 X53_13 Y53_13 Z53_13):=
 cond (decide (8≤v2)) (
  cond ((decide (((v7.length+1) * 1)≤140737488355328))&&(decide ((v7.length+1)≤9223372036854775807))) (
   some (R3.next (((),(Int.fdiv v1 256),(IntKind.wrap .i64 (v2-8)),v3,v4,v5,()),((v6,()),()),(v7++[(IntKind.wrap .u8 v1)]),()))) (
   none)) (
  some (R3.out (((),v1,v2,v3,v4,v5,()),((v6,()),()),v7,())))
noncomputable def u53_13 (z:X53_13):Option (R3 X53_13 Y53_13 Z53_13):=t53_13 z.1.2.1 z.1.2.2.1 z.1.2.2.2.1 z.1.2.2.2.2.1 z.1.2.2.2.2.2.1 z.2.1.1.1 z.2.2.1
abbrev Y53_9:Type:=DT21×(Unit)×DT4×Unit
abbrev Z53_9:Type:=Unit×Unit×Unit
noncomputable def t53_9 (v1 v2:Int)(v3:DT4)(v4 v5 v6:Int)(v7:DT4):Option (R3 X53_9 Y53_9 Z53_9):=
 cond (decide (v5<v4)) (
  cond ((decide (0≤v5))&&(decide (v5<(v3.length:Int)))) (
   cond (!(decide (v2<0))) (
    ((iter big u53_13 (((),(bitop .or .u64 v1 (IntKind.wrap .u64 ((IntKind.wrap .u64 (rd dT1 v3 (Int.toNat v5))) * ((2:Int) ^ ((min (Int.toNat v2) 64):Nat))))),(IntKind.wrap .i64 (v2+v6)),v3,v4,v5,()),((v6,()),()),v7,()))).bind fun r=>match r with
    | .inl y8=>
      some (R3.next (((),y8.1.2.1,y8.1.2.2.1,y8.1.2.2.2.1,y8.1.2.2.2.2.1,(IntKind.wrap .i64 (y8.1.2.2.2.2.2.1+1)),()),((y8.2.1.1.1,()),()),y8.2.2.1,()))
    | .inr z9=>
      some (R3.ret ((),(),()))) (
    none)) (
   none)) (
  some (R3.out ((v1,v2,()),(),v7,())))
noncomputable def u53_9 (z:X53_9):Option (R3 X53_9 Y53_9 Z53_9):=t53_9 z.1.2.1 z.1.2.2.1 z.1.2.2.2.1 z.1.2.2.2.2.1 z.1.2.2.2.2.2.1 z.2.1.1.1 z.2.2.1
noncomputable def f53 (v1:DT4)(v2:Int):Option DT14:=
 ((f91 (v1.length:Int) v2)).bind fun y3=>
 cond (decide (y3.1=(-1))) (
  some ([],false,())) (
  ((iter big u53_135_2_0 ((v1,(),(v1.length:Int),0,()),((v2,()),()),()))).bind fun r=>match r with
  | .inl y4=>
    cond ((decide (0≤y3.1))&&(decide ((y3.1 * 1)≤140737488355328))) (
     ((iter big u53_9 (((),0,0,v1,(v1.length:Int),0,()),((y4.2.1.1.1,()),()),[],()))).bind fun r=>match r with
     | .inl y6=>
       cond (decide (0<y6.1.2.1)) (
        cond ((decide (((y6.2.2.1.length+1) * 1)≤140737488355328))&&(decide ((y6.2.2.1.length+1)≤9223372036854775807))) (
         some ((y6.2.2.1++[(IntKind.wrap .u8 y6.1.1)]),true,())) (
         none)) (
        some (y6.2.2.1,true,()))
     | .inr z7=>
       none) (
     none)
  | .inr z5=>
    cond (decide (0≤z5.1.1)) (
     some ([],false,())) (
     cond ((decide (0≤y3.1))&&(decide ((y3.1 * 1)≤140737488355328))) (
      ((iter big u53_9 (((),0,0,v1,(v1.length:Int),0,()),((z5.2.1.1.1,()),()),[],()))).bind fun r=>match r with
      | .inl y8=>
        cond (decide (0<y8.1.2.1)) (
         cond ((decide (((y8.2.2.1.length+1) * 1)≤140737488355328))&&(decide ((y8.2.2.1.length+1)≤9223372036854775807))) (
          some ((y8.2.2.1++[(IntKind.wrap .u8 y8.1.1)]),true,())) (
          none)) (
         some (y8.2.2.1,true,()))
      | .inr z9=>
        none) (
      none)))
noncomputable def f95 (v1:Int):Option DT9:=
 cond (decide (v1<(-274877906944))) (
  some ((-1),())) (
  cond (decide (274877906944<v1)) (
   some ((-1),())) (
   cond (decide (v1<0)) (
    some ((bitop .xor .i64 (-1) (IntKind.wrap .i64 (v1 * 2))),())) (
    some ((IntKind.wrap .i64 (v1 * 2)),()))))
abbrev X54_5:Type:=(DT4×Unit×Int×Int×Unit)×DT16×DT4×Unit
abbrev Y54_5:Type:=(Unit)×(Unit)×DT4×Unit
abbrev Z54_5:Type:=DT7×(Unit)×DT4×Unit
noncomputable def t54_5 (v1:DT4)(v2 v3 v4:Int)(v5:DT4):Option (R3 X54_5 Y54_5 Z54_5):=
 cond (decide (v3<v2)) (
  cond ((decide (0≤v3))&&(decide (v3<(v1.length:Int)))) (
   ((f96 (rd dT1 v1 (Int.toNat v3)))).bind fun y6=>
   cond (!y6.1) (
    some (R3.ret ((false,()),(),[],()))) (
    cond ((decide (0≤v3))&&(decide (v3<(v1.length:Int)))) (
     ((f95 (IntKind.wrap .i64 ((rd dT1 v1 (Int.toNat v3))-v4)))).bind fun y7=>
     cond ((decide (0≤v3))&&(decide (v3<(v5.length:Int)))) (
      cond (decide ((Int.toNat v3)<v5.length)) (
       some (R3.next ((v1,(),v2,(IntKind.wrap .i64 (v3+1)),()),(((rd dT1 v1 (Int.toNat v3)),()),()),(v5.set (Int.toNat v3) y7.1),()))) (
       none)) (
      none)) (
     none))) (
   none)) (
  some (R3.out ((),(),v5,())))
noncomputable def u54_5 (z:X54_5):Option (R3 X54_5 Y54_5 Z54_5):=t54_5 z.1.1 z.1.2.2.1 z.1.2.2.2.1 z.2.1.1.1 z.2.2.1
noncomputable def f54 (v1:DT4):Option DT14:=
 cond (((decide (0≤(v1.length:Int)))&&(decide ((v1.length:Int)≤(v1.length:Int))))&&(decide (((v1.length:Int) * 8)≤140737488355328))) (
  ((iter big u54_5 ((v1,(),(v1.length:Int),0,()),((0,()),()),(List.replicate (Int.toNat (v1.length:Int)) 0),()))).bind fun r=>match r with
  | .inl y2=>
    ((f51 y2.2.2.1)).bind fun y4=>
    some (y4.1,y4.2.1,())
  | .inr z3=>
    some (z3.2.2.1,z3.1.1,())) (
  none)
abbrev X27_88_2_0:Type:=(DT2×Unit×Int×Int×Unit)×DT24×(Unit)
abbrev Y27_88_2_0:Type:=(Unit)×DT24×(Unit)
abbrev Z27_88_2_0:Type:=DT9×DT24×(Unit)
noncomputable def t27_88_2_0 (v1:DT2)(v2 v3 v4 v5 v6 v7 v8 v9 v10 v11 v12 v13 v14:Int)(v15:Bool)(v16:Int)(v17:DT1)(v18:DT2)(v19:DT1):Option (R3 X27_88_2_0 Y27_88_2_0 Z27_88_2_0):=
 cond (decide (v3<v2)) (
  cond ((decide (0≤v3))&&(decide (v3<(v1.length:Int)))) (
   cond (!(decide ((rd dT2 v1 (Int.toNat v3)).2.2.2.2=v16))) (
    some (R3.ret ((v3,()),((v4,v5,v6,v7,v8,v9,v10,v11,v12,v13,v14,v15,v16,v17,v18,v19,()),()),()))) (
    some (R3.next ((v1,(),v2,(IntKind.wrap .i64 (v3+1)),()),((v4,v5,v6,v7,v8,v9,v10,v11,v12,v13,v14,v15,v16,v17,v18,v19,()),()),())))) (
   none)) (
  some (R3.out ((),((v4,v5,v6,v7,v8,v9,v10,v11,v12,v13,v14,v15,v16,v17,v18,v19,()),()),())))
noncomputable def u27_88_2_0 (z:X27_88_2_0):Option (R3 X27_88_2_0 Y27_88_2_0 Z27_88_2_0):=t27_88_2_0 z.1.1 z.1.2.2.1 z.1.2.2.2.1 z.2.1.1.1 z.2.1.1.2.1 z.2.1.1.2.2.1 z.2.1.1.2.2.2.1 z.2.1.1.2.2.2.2.1 z.2.1.1.2.2.2.2.2.1 z.2.1.1.2.2.2.2.2.2.1 z.2.1.1.2.2.2.2.2.2.2.1 z.2.1.1.2.2.2.2.2.2.2.2.1 z.2.1.1.2.2.2.2.2.2.2.2.2.1 z.2.1.1.2.2.2.2.2.2.2.2.2.2.1 z.2.1.1.2.2.2.2.2.2.2.2.2.2.2.1 z.2.1.1.2.2.2.2.2.2.2.2.2.2.2.2.1 z.2.1.1.2.2.2.2.2.2.2.2.2.2.2.2.2.1 z.2.1.1.2.2.2.2.2.2.2.2.2.2.2.2.2.2.1 z.2.1.1.2.2.2.2.2.2.2.2.2.2.2.2.2.2.2.1
abbrev X27_6:Type:=(Unit×DT2×Int×Int×Unit)×DT24×DT4×DT4×DT4×DT4×Unit
abbrev Y27_6:Type:=DT19×DT24×DT4×DT4×DT4×DT4×Unit
abbrev Z27_6:Type:=Unit×Unit×Unit
noncomputable def t27_6 (v1:DT2)(v2 v3 v4 v5 v6 v7 v8 v9 v10 v11 v12 v13 v14:Int)(v15:Bool)(v16:Int)(v17:DT1)(v18:DT2)(v19:DT1)(v20 v21 v22 v23:DT4):Option (R3 X27_6 Y27_6 Z27_6):=
 cond (decide (v3<v2)) (
  cond ((decide (0≤v3))&&(decide (v3<(v1.length:Int)))) (
   ((f50 (rd dT2 v1 (Int.toNat v3)).2.1 (rd dT2 v1 (Int.toNat v3)).2.2.1)).bind fun y24=>
   cond ((decide (((v20.length+1) * 8)≤140737488355328))&&(decide ((v20.length+1)≤9223372036854775807))) (
    cond ((decide (((v21.length+1) * 8)≤140737488355328))&&(decide ((v21.length+1)≤9223372036854775807))) (
     some (R3.next (((),v1,v2,(IntKind.wrap .i64 (v3+1)),()),((v4,v5,v6,v7,v8,v9,v10,v11,v12,v13,v14,v15,v16,v17,v18,v19,()),()),(v20++[(bitop .or .i64 (IntKind.wrap .i64 ((rd dT2 v1 (Int.toNat v3)).1 * 32)) y24.1)]),(v21++[(rd dT2 v1 (Int.toNat v3)).2.2.2.1]),v22,v23,()))) (
     none)) (
    none)) (
   none)) (
  some (R3.out (((),()),((v4,v5,v6,v7,v8,v9,v10,v11,v12,v13,v14,v15,v16,v17,v18,v19,()),()),v20,v21,v22,v23,())))
noncomputable def u27_6 (z:X27_6):Option (R3 X27_6 Y27_6 Z27_6):=t27_6 z.1.2.1 z.1.2.2.1 z.1.2.2.2.1 z.2.1.1.1 z.2.1.1.2.1 z.2.1.1.2.2.1 z.2.1.1.2.2.2.1 z.2.1.1.2.2.2.2.1 z.2.1.1.2.2.2.2.2.1 z.2.1.1.2.2.2.2.2.2.1 z.2.1.1.2.2.2.2.2.2.2.1 z.2.1.1.2.2.2.2.2.2.2.2.1 z.2.1.1.2.2.2.2.2.2.2.2.2.1 z.2.1.1.2.2.2.2.2.2.2.2.2.2.1 z.2.1.1.2.2.2.2.2.2.2.2.2.2.2.1 z.2.1.1.2.2.2.2.2.2.2.2.2.2.2.2.1 z.2.1.1.2.2.2.2.2.2.2.2.2.2.2.2.2.1 z.2.1.1.2.2.2.2.2.2.2.2.2.2.2.2.2.2.1 z.2.1.1.2.2.2.2.2.2.2.2.2.2.2.2.2.2.2.1 z.2.2.1 z.2.2.2.1 z.2.2.2.2.1 z.2.2.2.2.2.1
abbrev X27_11:Type:=(Unit×DT1×Int×Int×Unit)×DT24×DT4×DT4×DT4×DT4×Unit
abbrev Y27_11:Type:=DT19×DT24×DT4×DT4×DT4×DT4×Unit
abbrev Z27_11:Type:=Unit×Unit×Unit
noncomputable def t27_11 (v1:DT1)(v2 v3 v4 v5 v6 v7 v8 v9 v10 v11 v12 v13 v14:Int)(v15:Bool)(v16:Int)(v17:DT1)(v18:DT2)(v19:DT1)(v20 v21 v22 v23:DT4):Option (R3 X27_11 Y27_11 Z27_11):=
 cond (decide (v3<v2)) (
  cond ((decide (0≤v3))&&(decide (v3<(v1.length:Int)))) (
   ((f50 (rd dT4 v1 (Int.toNat v3)).1 (rd dT4 v1 (Int.toNat v3)).2.1)).bind fun y24=>
   cond ((decide (((v22.length+1) * 8)≤140737488355328))&&(decide ((v22.length+1)≤9223372036854775807))) (
    cond ((decide (((v23.length+1) * 8)≤140737488355328))&&(decide ((v23.length+1)≤9223372036854775807))) (
     some (R3.next (((),v1,v2,(IntKind.wrap .i64 (v3+1)),()),((v4,v5,v6,v7,v8,v9,v10,v11,v12,v13,v14,v15,v16,v17,v18,v19,()),()),v20,v21,(v22++[y24.1]),(v23++[(rd dT4 v1 (Int.toNat v3)).2.2]),()))) (
     none)) (
    none)) (
   none)) (
  some (R3.out (((),()),((v4,v5,v6,v7,v8,v9,v10,v11,v12,v13,v14,v15,v16,v17,v18,v19,()),()),v20,v21,v22,v23,())))
noncomputable def u27_11 (z:X27_11):Option (R3 X27_11 Y27_11 Z27_11):=t27_11 z.1.2.1 z.1.2.2.1 z.1.2.2.2.1 z.2.1.1.1 z.2.1.1.2.1 z.2.1.1.2.2.1 z.2.1.1.2.2.2.1 z.2.1.1.2.2.2.2.1 z.2.1.1.2.2.2.2.2.1 z.2.1.1.2.2.2.2.2.2.1 z.2.1.1.2.2.2.2.2.2.2.1 z.2.1.1.2.2.2.2.2.2.2.2.1 z.2.1.1.2.2.2.2.2.2.2.2.2.1 z.2.1.1.2.2.2.2.2.2.2.2.2.2.1 z.2.1.1.2.2.2.2.2.2.2.2.2.2.2.1 z.2.1.1.2.2.2.2.2.2.2.2.2.2.2.2.1 z.2.1.1.2.2.2.2.2.2.2.2.2.2.2.2.2.1 z.2.1.1.2.2.2.2.2.2.2.2.2.2.2.2.2.2.1 z.2.1.1.2.2.2.2.2.2.2.2.2.2.2.2.2.2.2.1 z.2.2.1 z.2.2.2.1 z.2.2.2.2.1 z.2.2.2.2.2.1
noncomputable def f27 (v1 v2 v3 v4 v5 v6 v7 v8 v9 v10 v11:Int)(v12:Bool)(v13:Int)(v14:DT1)(v15:DT2)(v16:DT1):Option DT14:=
 ((f48 v1 v2 v3 v4 v5 v6 v7 v8 v9 v10 v11 v12 v13 v14 v15 v16)).bind fun y17=>
 cond (!y17.1) (
  some ([],false,())) (
  ((iter big u27_88_2_0 ((v15,(),(v15.length:Int),0,()),((v1,v2,v3,v4,v5,v6,v7,v8,v9,v10,v11,v12,v13,v14,v15,v16,()),()),()))).bind fun r=>match r with
  | .inl y18=>
    ((iter big u27_6 (((),y18.2.1.1.2.2.2.2.2.2.2.2.2.2.2.2.2.2.1,(y18.2.1.1.2.2.2.2.2.2.2.2.2.2.2.2.2.2.1.length:Int),0,()),((y18.2.1.1.1,y18.2.1.1.2.1,y18.2.1.1.2.2.1,y18.2.1.1.2.2.2.1,y18.2.1.1.2.2.2.2.1,y18.2.1.1.2.2.2.2.2.1,y18.2.1.1.2.2.2.2.2.2.1,y18.2.1.1.2.2.2.2.2.2.2.1,y18.2.1.1.2.2.2.2.2.2.2.2.1,y18.2.1.1.2.2.2.2.2.2.2.2.2.1,y18.2.1.1.2.2.2.2.2.2.2.2.2.2.1,y18.2.1.1.2.2.2.2.2.2.2.2.2.2.2.1,y18.2.1.1.2.2.2.2.2.2.2.2.2.2.2.2.1,y18.2.1.1.2.2.2.2.2.2.2.2.2.2.2.2.2.1,y18.2.1.1.2.2.2.2.2.2.2.2.2.2.2.2.2.2.1,y18.2.1.1.2.2.2.2.2.2.2.2.2.2.2.2.2.2.2.1,()),()),[],[],[],[],()))).bind fun r=>match r with
    | .inl y20=>
      ((iter big u27_11 (((),y20.2.1.1.2.2.2.2.2.2.2.2.2.2.2.2.2.2.2.1,(y20.2.1.1.2.2.2.2.2.2.2.2.2.2.2.2.2.2.2.1.length:Int),0,()),((y20.2.1.1.1,y20.2.1.1.2.1,y20.2.1.1.2.2.1,y20.2.1.1.2.2.2.1,y20.2.1.1.2.2.2.2.1,y20.2.1.1.2.2.2.2.2.1,y20.2.1.1.2.2.2.2.2.2.1,y20.2.1.1.2.2.2.2.2.2.2.1,y20.2.1.1.2.2.2.2.2.2.2.2.1,y20.2.1.1.2.2.2.2.2.2.2.2.2.1,y20.2.1.1.2.2.2.2.2.2.2.2.2.2.1,y20.2.1.1.2.2.2.2.2.2.2.2.2.2.2.1,y20.2.1.1.2.2.2.2.2.2.2.2.2.2.2.2.1,y20.2.1.1.2.2.2.2.2.2.2.2.2.2.2.2.2.1,y20.2.1.1.2.2.2.2.2.2.2.2.2.2.2.2.2.2.1,y20.2.1.1.2.2.2.2.2.2.2.2.2.2.2.2.2.2.2.1,()),()),y20.2.2.1,y20.2.2.2.1,y20.2.2.2.2.1,y20.2.2.2.2.2.1,()))).bind fun r=>match r with
      | .inl y22=>
        ((f52 y22.2.1.1.1 y22.2.1.1.2.1 y22.2.1.1.2.2.1 y22.2.1.1.2.2.2.1 y22.2.1.1.2.2.2.2.1 y22.2.1.1.2.2.2.2.2.1 y22.2.1.1.2.2.2.2.2.2.1 y22.2.1.1.2.2.2.2.2.2.2.1 y22.2.1.1.2.2.2.2.2.2.2.2.1 y22.2.1.1.2.2.2.2.2.2.2.2.2.1 y22.2.1.1.2.2.2.2.2.2.2.2.2.2.1 y22.2.1.1.2.2.2.2.2.2.2.2.2.2.2.1 y22.2.1.1.2.2.2.2.2.2.2.2.2.2.2.2.1 y22.2.1.1.2.2.2.2.2.2.2.2.2.2.2.2.2.1 y22.2.1.1.2.2.2.2.2.2.2.2.2.2.2.2.2.2.1 y22.2.1.1.2.2.2.2.2.2.2.2.2.2.2.2.2.2.2.1)).bind fun y24=>
        ((f51 y24.1)).bind fun y25=>
        ((f53 y22.2.2.1 10)).bind fun y26=>
        ((f54 y22.2.2.2.1)).bind fun y27=>
        ((f53 y22.2.2.2.2.1 5)).bind fun y28=>
        ((f54 y22.2.2.2.2.2.1)).bind fun y29=>
        ((f55 (y25.1.length:Int))).bind fun y30=>
        cond ((decide ((y30.1.length * 1)≤140737488355328))&&(decide (y30.1.length≤9223372036854775807))) (
         cond ((decide (((y30.1.length+y25.1.length) * 1)≤140737488355328))&&(decide ((y30.1.length+y25.1.length)≤9223372036854775807))) (
          ((f55 (y26.1.length:Int))).bind fun y31=>
          cond ((decide ((((y30.1++y25.1).length+y31.1.length) * 1)≤140737488355328))&&(decide (((y30.1++y25.1).length+y31.1.length)≤9223372036854775807))) (
           cond ((decide (((((y30.1++y25.1)++y31.1).length+y26.1.length) * 1)≤140737488355328))&&(decide ((((y30.1++y25.1)++y31.1).length+y26.1.length)≤9223372036854775807))) (
            ((f55 (y27.1.length:Int))).bind fun y32=>
            cond ((decide ((((((y30.1++y25.1)++y31.1)++y26.1).length+y32.1.length) * 1)≤140737488355328))&&(decide (((((y30.1++y25.1)++y31.1)++y26.1).length+y32.1.length)≤9223372036854775807))) (
             cond ((decide (((((((y30.1++y25.1)++y31.1)++y26.1)++y32.1).length+y27.1.length) * 1)≤140737488355328))&&(decide ((((((y30.1++y25.1)++y31.1)++y26.1)++y32.1).length+y27.1.length)≤9223372036854775807))) (
              ((f55 (y28.1.length:Int))).bind fun y33=>
              cond ((decide ((((((((y30.1++y25.1)++y31.1)++y26.1)++y32.1)++y27.1).length+y33.1.length) * 1)≤140737488355328))&&(decide (((((((y30.1++y25.1)++y31.1)++y26.1)++y32.1)++y27.1).length+y33.1.length)≤9223372036854775807))) (
               cond ((decide (((((((((y30.1++y25.1)++y31.1)++y26.1)++y32.1)++y27.1)++y33.1).length+y28.1.length) * 1)≤140737488355328))&&(decide ((((((((y30.1++y25.1)++y31.1)++y26.1)++y32.1)++y27.1)++y33.1).length+y28.1.length)≤9223372036854775807))) (
                ((f55 (y29.1.length:Int))).bind fun y34=>
                cond ((decide ((((((((((y30.1++y25.1)++y31.1)++y26.1)++y32.1)++y27.1)++y33.1)++y28.1).length+y34.1.length) * 1)≤140737488355328))&&(decide (((((((((y30.1++y25.1)++y31.1)++y26.1)++y32.1)++y27.1)++y33.1)++y28.1).length+y34.1.length)≤9223372036854775807))) (
                 cond ((decide (((((((((((y30.1++y25.1)++y31.1)++y26.1)++y32.1)++y27.1)++y33.1)++y28.1)++y34.1).length+y29.1.length) * 1)≤140737488355328))&&(decide ((((((((((y30.1++y25.1)++y31.1)++y26.1)++y32.1)++y27.1)++y33.1)++y28.1)++y34.1).length+y29.1.length)≤9223372036854775807))) (
                  some ((((((((((y30.1++y25.1)++y31.1)++y26.1)++y32.1)++y27.1)++y33.1)++y28.1)++y34.1)++y29.1),true,())) (
                  none)) (
                 none)) (
                none)) (
               none)) (
              none)) (
             none)) (
            none)) (
           none)) (
          none)) (
         none)
      | .inr z23=>
        none
    | .inr z21=>
      none
  | .inr z19=>
    cond (decide (0≤z19.1.1)) (
     some ([],false,())) (
     ((iter big u27_6 (((),z19.2.1.1.2.2.2.2.2.2.2.2.2.2.2.2.2.2.1,(z19.2.1.1.2.2.2.2.2.2.2.2.2.2.2.2.2.2.1.length:Int),0,()),((z19.2.1.1.1,z19.2.1.1.2.1,z19.2.1.1.2.2.1,z19.2.1.1.2.2.2.1,z19.2.1.1.2.2.2.2.1,z19.2.1.1.2.2.2.2.2.1,z19.2.1.1.2.2.2.2.2.2.1,z19.2.1.1.2.2.2.2.2.2.2.1,z19.2.1.1.2.2.2.2.2.2.2.2.1,z19.2.1.1.2.2.2.2.2.2.2.2.2.1,z19.2.1.1.2.2.2.2.2.2.2.2.2.2.1,z19.2.1.1.2.2.2.2.2.2.2.2.2.2.2.1,z19.2.1.1.2.2.2.2.2.2.2.2.2.2.2.2.1,z19.2.1.1.2.2.2.2.2.2.2.2.2.2.2.2.2.1,z19.2.1.1.2.2.2.2.2.2.2.2.2.2.2.2.2.2.1,z19.2.1.1.2.2.2.2.2.2.2.2.2.2.2.2.2.2.2.1,()),()),[],[],[],[],()))).bind fun r=>match r with
     | .inl y35=>
       ((iter big u27_11 (((),y35.2.1.1.2.2.2.2.2.2.2.2.2.2.2.2.2.2.2.1,(y35.2.1.1.2.2.2.2.2.2.2.2.2.2.2.2.2.2.2.1.length:Int),0,()),((y35.2.1.1.1,y35.2.1.1.2.1,y35.2.1.1.2.2.1,y35.2.1.1.2.2.2.1,y35.2.1.1.2.2.2.2.1,y35.2.1.1.2.2.2.2.2.1,y35.2.1.1.2.2.2.2.2.2.1,y35.2.1.1.2.2.2.2.2.2.2.1,y35.2.1.1.2.2.2.2.2.2.2.2.1,y35.2.1.1.2.2.2.2.2.2.2.2.2.1,y35.2.1.1.2.2.2.2.2.2.2.2.2.2.1,y35.2.1.1.2.2.2.2.2.2.2.2.2.2.2.1,y35.2.1.1.2.2.2.2.2.2.2.2.2.2.2.2.1,y35.2.1.1.2.2.2.2.2.2.2.2.2.2.2.2.2.1,y35.2.1.1.2.2.2.2.2.2.2.2.2.2.2.2.2.2.1,y35.2.1.1.2.2.2.2.2.2.2.2.2.2.2.2.2.2.2.1,()),()),y35.2.2.1,y35.2.2.2.1,y35.2.2.2.2.1,y35.2.2.2.2.2.1,()))).bind fun r=>match r with
       | .inl y37=>
         ((f52 y37.2.1.1.1 y37.2.1.1.2.1 y37.2.1.1.2.2.1 y37.2.1.1.2.2.2.1 y37.2.1.1.2.2.2.2.1 y37.2.1.1.2.2.2.2.2.1 y37.2.1.1.2.2.2.2.2.2.1 y37.2.1.1.2.2.2.2.2.2.2.1 y37.2.1.1.2.2.2.2.2.2.2.2.1 y37.2.1.1.2.2.2.2.2.2.2.2.2.1 y37.2.1.1.2.2.2.2.2.2.2.2.2.2.1 y37.2.1.1.2.2.2.2.2.2.2.2.2.2.2.1 y37.2.1.1.2.2.2.2.2.2.2.2.2.2.2.2.1 y37.2.1.1.2.2.2.2.2.2.2.2.2.2.2.2.2.1 y37.2.1.1.2.2.2.2.2.2.2.2.2.2.2.2.2.2.1 y37.2.1.1.2.2.2.2.2.2.2.2.2.2.2.2.2.2.2.1)).bind fun y39=>
         ((f51 y39.1)).bind fun y40=>
         ((f53 y37.2.2.1 10)).bind fun y41=>
         ((f54 y37.2.2.2.1)).bind fun y42=>
         ((f53 y37.2.2.2.2.1 5)).bind fun y43=>
         ((f54 y37.2.2.2.2.2.1)).bind fun y44=>
         ((f55 (y40.1.length:Int))).bind fun y45=>
         cond ((decide ((y45.1.length * 1)≤140737488355328))&&(decide (y45.1.length≤9223372036854775807))) (
          cond ((decide (((y45.1.length+y40.1.length) * 1)≤140737488355328))&&(decide ((y45.1.length+y40.1.length)≤9223372036854775807))) (
           ((f55 (y41.1.length:Int))).bind fun y46=>
           cond ((decide ((((y45.1++y40.1).length+y46.1.length) * 1)≤140737488355328))&&(decide (((y45.1++y40.1).length+y46.1.length)≤9223372036854775807))) (
            cond ((decide (((((y45.1++y40.1)++y46.1).length+y41.1.length) * 1)≤140737488355328))&&(decide ((((y45.1++y40.1)++y46.1).length+y41.1.length)≤9223372036854775807))) (
             ((f55 (y42.1.length:Int))).bind fun y47=>
             cond ((decide ((((((y45.1++y40.1)++y46.1)++y41.1).length+y47.1.length) * 1)≤140737488355328))&&(decide (((((y45.1++y40.1)++y46.1)++y41.1).length+y47.1.length)≤9223372036854775807))) (
              cond ((decide (((((((y45.1++y40.1)++y46.1)++y41.1)++y47.1).length+y42.1.length) * 1)≤140737488355328))&&(decide ((((((y45.1++y40.1)++y46.1)++y41.1)++y47.1).length+y42.1.length)≤9223372036854775807))) (
               ((f55 (y43.1.length:Int))).bind fun y48=>
               cond ((decide ((((((((y45.1++y40.1)++y46.1)++y41.1)++y47.1)++y42.1).length+y48.1.length) * 1)≤140737488355328))&&(decide (((((((y45.1++y40.1)++y46.1)++y41.1)++y47.1)++y42.1).length+y48.1.length)≤9223372036854775807))) (
                cond ((decide (((((((((y45.1++y40.1)++y46.1)++y41.1)++y47.1)++y42.1)++y48.1).length+y43.1.length) * 1)≤140737488355328))&&(decide ((((((((y45.1++y40.1)++y46.1)++y41.1)++y47.1)++y42.1)++y48.1).length+y43.1.length)≤9223372036854775807))) (
                 ((f55 (y44.1.length:Int))).bind fun y49=>
                 cond ((decide ((((((((((y45.1++y40.1)++y46.1)++y41.1)++y47.1)++y42.1)++y48.1)++y43.1).length+y49.1.length) * 1)≤140737488355328))&&(decide (((((((((y45.1++y40.1)++y46.1)++y41.1)++y47.1)++y42.1)++y48.1)++y43.1).length+y49.1.length)≤9223372036854775807))) (
                  cond ((decide (((((((((((y45.1++y40.1)++y46.1)++y41.1)++y47.1)++y42.1)++y48.1)++y43.1)++y49.1).length+y44.1.length) * 1)≤140737488355328))&&(decide ((((((((((y45.1++y40.1)++y46.1)++y41.1)++y47.1)++y42.1)++y48.1)++y43.1)++y49.1).length+y44.1.length)≤9223372036854775807))) (
                   some ((((((((((y45.1++y40.1)++y46.1)++y41.1)++y47.1)++y42.1)++y48.1)++y43.1)++y49.1)++y44.1),true,())) (
                   none)) (
                  none)) (
                 none)) (
                none)) (
               none)) (
              none)) (
             none)) (
            none)) (
           none)) (
          none)
       | .inr z38=>
         none
     | .inr z36=>
       none))
noncomputable def f29 (v1:Int)(v2:DT0)(v3:Int):Option DT20:=
 ((f39 v1 v2)).bind fun y4=>
 ((f26 v1 v2)).bind fun y5=>
 cond (!y5.1) (
  some ((y4.1.1,y4.1.2),1,())) (
  cond (decide (v3<1)) (
   some ((y4.1.1,y4.1.2),1,())) (
   cond (decide (1073741824<v3)) (
    some ((y4.1.1,y4.1.2),1,())) (
    ((f56 v1 v2 v3)).bind fun y6=>
    cond (!(decide (y6.1=(-1)))) (
     some ((y4.1.1,y4.1.2),11,())) (
     cond (decide ((v2.length:Int)=12)) (
      some ((y4.1.1,y4.1.2),9,())) (
      ((f58 v1 v2 v3)).bind fun y7=>
      ((fInsFile y4.1.2 y7.1 [(v3,[],0)])).bind fun y8=>
      some ((y4.1.1,y8),0,()))))))
noncomputable def f12 (v1:Int)(v2:DT0)(v3 v4 v5 v6 v7 v8 v9 v10 v11 v12 v13:Int)(v14:Bool)(v15:Int)(v16:DT1)(v17:DT2)(v18:DT1):Option (DT17×Int×Unit):=
 ((f27 v3 v4 v5 v6 v7 v8 v9 v10 v11 v12 v13 v14 v15 v16 v17 v18)).bind fun y19=>
 ((f25 v1 v2)).bind fun y20=>
 cond (!y19.2.1) (
  some (((0,[]),0,0),1,())) (
  ((f26 v1 v2)).bind fun y21=>
  cond (!y21.1) (
   some (((0,[]),0,0),1,())) (
   cond (decide (y20.1=1073741824)) (
    some (((0,[]),0,0),1,())) (
    ((f29 v1 v2 (IntKind.wrap .i64 (y20.1+1)))).bind fun y22=>
    cond (decide (y22.2.1=0)) (
     ((f59 1 y19.1)).bind fun y23=>
     cond (!y23.2.1) (
      some (((0,[]),0,0),1,())) (
      cond (decide (y22.2.1=0)) (
       ((f60 y23.1 y22.1.1 y22.1.2 (IntKind.wrap .i64 (y20.1+1)))).bind fun y24=>
       cond (decide (y24.2.1=0)) (
        ((f61 y24.1.1 y24.1.2 (IntKind.wrap .i64 (y20.1+1)))).bind fun y25=>
        cond (!(decide (y25.2.1=0))) (
         some (((0,[]),0,0),y25.2.1,())) (
         some (((y25.1.1,y25.1.2),(IntKind.wrap .i64 (y20.1+1)),v15),0,()))) (
        cond (!(decide (y24.2.1=0))) (
         some (((0,[]),0,0),y24.2.1,())) (
         some (((y24.1.1,y24.1.2),(IntKind.wrap .i64 (y20.1+1)),v15),0,())))) (
       cond (decide (y22.2.1=0)) (
        ((f61 y22.1.1 y22.1.2 (IntKind.wrap .i64 (y20.1+1)))).bind fun y26=>
        cond (!(decide (y26.2.1=0))) (
         some (((0,[]),0,0),y26.2.1,())) (
         some (((y26.1.1,y26.1.2),(IntKind.wrap .i64 (y20.1+1)),v15),0,()))) (
        cond (!(decide (y22.2.1=0))) (
         some (((0,[]),0,0),y22.2.1,())) (
         some (((y22.1.1,y22.1.2),(IntKind.wrap .i64 (y20.1+1)),v15),0,())))))) (
     cond (!(decide (y22.2.1=0))) (
      some (((0,[]),0,0),y22.2.1,())) (
      some (((y22.1.1,y22.1.2),(IntKind.wrap .i64 (y20.1+1)),v15),0,()))))))
noncomputable def f18 (v1:Int):Option ((Int×DT0)×Bool×Unit):=
 ((f26 v1 [])).bind fun y2=>
 cond (!y2.1) (
  some ((0,[]),false,())) (
  some ((v1,[]),true,()))
noncomputable def f41 (v1 v2 v3 v4 v5 v6 v7 v8 v9 v10 v11:Int)(v12:Bool):Option (DT10×Bool×Unit):=
 ((f48 v1 v2 v3 v4 v5 v6 v7 v8 v9 v10 v11 v12 0 [] [] [])).bind fun y13=>
 cond (!y13.1) (
  some ((((0,0),(0,0),0,0,0,0),(0,0,0,false),0,[],[],[]),false,())) (
  some ((((v1,v2),(v3,v4),v5,v6,v7,v8),(v9,v10,v11,v12),0,[],[],[]),true,()))
noncomputable def f42  : Option (((Int×Int)×(Int×Int)×Int×Int×Int×Int)×Unit):=
 some (((167772160,31),(184549376,32),1000,1099,20,10),())
noncomputable def f21  : Option (DT17×DT10×Unit):=
 (f42).bind fun y1=>
 ((f41 y1.1.1.1 y1.1.1.2 y1.1.2.1.1 y1.1.2.1.2 y1.1.2.2.1 y1.1.2.2.2.1 y1.1.2.2.2.2.1 y1.1.2.2.2.2.2 1 9 5 false)).bind fun y2=>
 ((f18 2000)).bind fun y3=>
 ((f12 y3.1.1 y3.1.2 y2.1.1.1.1 y2.1.1.1.2 y2.1.1.2.1.1 y2.1.1.2.1.2 y2.1.1.2.2.1 y2.1.1.2.2.2.1 y2.1.1.2.2.2.2.1 y2.1.1.2.2.2.2.2 y2.1.2.1.1 y2.1.2.1.2.1 y2.1.2.1.2.2.1 y2.1.2.1.2.2.2 y2.1.2.2.1 y2.1.2.2.2.1 y2.1.2.2.2.2.1 y2.1.2.2.2.2.2)).bind fun y4=>
 some (((y4.1.1.1,y4.1.1.2),y4.1.2.1,y4.1.2.2),(((y2.1.1.1.1,y2.1.1.1.2),(y2.1.1.2.1.1,y2.1.1.2.1.2),y2.1.1.2.2.1,y2.1.1.2.2.2.1,y2.1.1.2.2.2.2.1,y2.1.1.2.2.2.2.2),(y2.1.2.1.1,y2.1.2.1.2.1,y2.1.2.1.2.2.1,y2.1.2.1.2.2.2),y2.1.2.2.1,y2.1.2.2.2.1,y2.1.2.2.2.2.1,y2.1.2.2.2.2.2),())
abbrev X78_4:Type:=(DT1×DT1×Int×Int×Unit)×(Unit)×(Unit)
abbrev Y78_4:Type:=(Unit)×(Unit)×(Unit)
abbrev Z78_4:Type:=DT7×(Unit)×(Unit)
noncomputable def t78_4 (v1 v2:DT1)(v3 v4:Int):Option (R3 X78_4 Y78_4 Z78_4):=
 cond (decide (v4<v3)) (
  cond ((decide (0≤v4))&&(decide (v4<(v1.length:Int)))) (
   cond ((decide (0≤v4))&&(decide (v4<(v2.length:Int)))) (
    cond (!((decide ((rd dT4 v1 (Int.toNat v4)).1=(rd dT4 v2 (Int.toNat v4)).1))&&((decide ((rd dT4 v1 (Int.toNat v4)).2.1=(rd dT4 v2 (Int.toNat v4)).2.1))&&((decide ((rd dT4 v1 (Int.toNat v4)).2.2=(rd dT4 v2 (Int.toNat v4)).2.2))&&true)))) (
     some (R3.ret ((false,()),(),()))) (
     some (R3.next ((v1,v2,v3,(IntKind.wrap .i64 (v4+1)),()),(),())))) (
    none)) (
   none)) (
  some (R3.out ((),(),())))
noncomputable def u78_4 (z:X78_4):Option (R3 X78_4 Y78_4 Z78_4):=t78_4 z.1.1 z.1.2.1 z.1.2.2.1 z.1.2.2.2.1
noncomputable def f78 (v1 v2:DT1):Option DT7:=
 cond (!(decide ((v1.length:Int)=(v2.length:Int)))) (
  some (false,())) (
  ((iter big u78_4 ((v1,v2,(v1.length:Int),0,()),(),()))).bind fun r=>match r with
  | .inl y3=>
    some (true,())
  | .inr z4=>
    some (z4.1.1,()))
noncomputable def f43 (v1 v2:DT1):Option DT7:=
 ((f78 v1 v2)).bind fun y3=>
 some (y3.1,())
abbrev X79_4:Type:=(DT2×DT2×Int×Int×Unit)×(Unit)×(Unit)
abbrev Y79_4:Type:=(Unit)×(Unit)×(Unit)
abbrev Z79_4:Type:=DT7×(Unit)×(Unit)
noncomputable def t79_4 (v1 v2:DT2)(v3 v4:Int):Option (R3 X79_4 Y79_4 Z79_4):=
 cond (decide (v4<v3)) (
  cond ((decide (0≤v4))&&(decide (v4<(v1.length:Int)))) (
   cond ((decide (0≤v4))&&(decide (v4<(v2.length:Int)))) (
    cond (!((decide ((rd dT2 v1 (Int.toNat v4)).1=(rd dT2 v2 (Int.toNat v4)).1))&&((decide ((rd dT2 v1 (Int.toNat v4)).2.1=(rd dT2 v2 (Int.toNat v4)).2.1))&&((decide ((rd dT2 v1 (Int.toNat v4)).2.2.1=(rd dT2 v2 (Int.toNat v4)).2.2.1))&&((decide ((rd dT2 v1 (Int.toNat v4)).2.2.2.1=(rd dT2 v2 (Int.toNat v4)).2.2.2.1))&&((decide ((rd dT2 v1 (Int.toNat v4)).2.2.2.2=(rd dT2 v2 (Int.toNat v4)).2.2.2.2))&&true)))))) (
     some (R3.ret ((false,()),(),()))) (
     some (R3.next ((v1,v2,v3,(IntKind.wrap .i64 (v4+1)),()),(),())))) (
    none)) (
   none)) (
  some (R3.out ((),(),())))
noncomputable def u79_4 (z:X79_4):Option (R3 X79_4 Y79_4 Z79_4):=t79_4 z.1.1 z.1.2.1 z.1.2.2.1 z.1.2.2.2.1
noncomputable def f79 (v1 v2:DT2):Option DT7:=
 cond (!(decide ((v1.length:Int)=(v2.length:Int)))) (
  some (false,())) (
  ((iter big u79_4 ((v1,v2,(v1.length:Int),0,()),(),()))).bind fun r=>match r with
  | .inl y3=>
    some (true,())
  | .inr z4=>
    some (z4.1.1,()))
noncomputable def f44 (v1 v2:DT2):Option DT7:=
 ((f79 v1 v2)).bind fun y3=>
 some (y3.1,())
abbrev X80_4:Type:=(DT1×DT1×Int×Int×Unit)×(Unit)×(Unit)
abbrev Y80_4:Type:=(Unit)×(Unit)×(Unit)
abbrev Z80_4:Type:=DT7×(Unit)×(Unit)
noncomputable def t80_4 (v1 v2:DT1)(v3 v4:Int):Option (R3 X80_4 Y80_4 Z80_4):=
 cond (decide (v4<v3)) (
  cond ((decide (0≤v4))&&(decide (v4<(v1.length:Int)))) (
   cond ((decide (0≤v4))&&(decide (v4<(v2.length:Int)))) (
    cond (!((decide ((rd dT4 v1 (Int.toNat v4)).1=(rd dT4 v2 (Int.toNat v4)).1))&&((decide ((rd dT4 v1 (Int.toNat v4)).2.1=(rd dT4 v2 (Int.toNat v4)).2.1))&&((decide ((rd dT4 v1 (Int.toNat v4)).2.2=(rd dT4 v2 (Int.toNat v4)).2.2))&&true)))) (
     some (R3.ret ((false,()),(),()))) (
     some (R3.next ((v1,v2,v3,(IntKind.wrap .i64 (v4+1)),()),(),())))) (
    none)) (
   none)) (
  some (R3.out ((),(),())))
noncomputable def u80_4 (z:X80_4):Option (R3 X80_4 Y80_4 Z80_4):=t80_4 z.1.1 z.1.2.1 z.1.2.2.1 z.1.2.2.2.1
noncomputable def f80 (v1 v2:DT1):Option DT7:=
 cond (!(decide ((v1.length:Int)=(v2.length:Int)))) (
  some (false,())) (
  ((iter big u80_4 ((v1,v2,(v1.length:Int),0,()),(),()))).bind fun r=>match r with
  | .inl y3=>
    some (true,())
  | .inr z4=>
    some (z4.1.1,()))
noncomputable def f45 (v1 v2:DT1):Option DT7:=
 ((f80 v1 v2)).bind fun y3=>
 some (y3.1,())
noncomputable def f22 (v1 v2 v3 v4 v5 v6 v7 v8 v9 v10 v11:Int)(v12:Bool)(v13:Int)(v14:DT1)(v15:DT2)(v16:DT1)(v17 v18 v19 v20 v21 v22 v23 v24 v25 v26 v27:Int)(v28:Bool)(v29:Int)(v30:DT1)(v31:DT2)(v32:DT1):Option DT7:=
 cond (((decide (v1=v17))&&((decide (v2=v18))&&true))&&(((decide (v3=v19))&&((decide (v4=v20))&&true))&&((decide (v5=v21))&&((decide (v6=v22))&&((decide (v7=v23))&&((decide (v8=v24))&&true)))))) (
  cond ((decide (v9=v25))&&((decide (v10=v26))&&((decide (v11=v27))&&((v12 == v28)&&true)))) (
   cond (decide (v13=v29)) (
    ((f43 v14 v30)).bind fun y33=>
    cond y33.1 (
     ((f44 v15 v31)).bind fun y34=>
     cond y34.1 (
      ((f45 v16 v32)).bind fun y35=>
      some (y35.1,())) (
      some (false,()))) (
     some (false,()))) (
    some (false,()))) (
   some (false,()))) (
  some (false,()))
noncomputable def f8  : Option DT7:=
 (f21).bind fun y1=>
 ((f17 y1.1.1.1 y1.1.1.2 y1.1.2.1 y1.1.2.2 [(2,0,0,1,0,0,0,0,false)])).bind fun y2=>
 cond (!(decide ((y1.1.1.2.length:Int)=1))) (
  some (false,())) (
  cond (!(decide ((y2.1.1.2.length:Int)=1))) (
   some (false,())) (
   cond (!(decide (y2.2.1=0))) (
    some (false,())) (
    cond (decide (0<(y1.1.1.2.length:Int))) (
     ((f13 (rd dT0 y1.1.1.2 0).2.1)).bind fun y3=>
     cond (decide ((rd dT0 y1.1.1.2 0).1=1)) (
      cond (decide ((rd dT0 y1.1.1.2 0).2.2=(((rd dT0 y1.1.1.2 0).2.1.length:Nat):Int))) (
       cond (decide (y3.2.1=(rd dT0 y1.1.1.2 0).2.2)) (
        cond y3.2.2.1 (
         ((f22 y3.1.1.1.1 y3.1.1.1.2 y3.1.1.2.1.1 y3.1.1.2.1.2 y3.1.1.2.2.1 y3.1.1.2.2.2.1 y3.1.1.2.2.2.2.1 y3.1.1.2.2.2.2.2 y3.1.2.1.1 y3.1.2.1.2.1 y3.1.2.1.2.2.1 y3.1.2.1.2.2.2 y3.1.2.2.1 y3.1.2.2.2.1 y3.1.2.2.2.2.1 y3.1.2.2.2.2.2 y1.2.1.1.1.1 y1.2.1.1.1.2 y1.2.1.1.2.1.1 y1.2.1.1.2.1.2 y1.2.1.1.2.2.1 y1.2.1.1.2.2.2.1 y1.2.1.1.2.2.2.2.1 y1.2.1.1.2.2.2.2.2 y1.2.1.2.1.1 y1.2.1.2.1.2.1 y1.2.1.2.1.2.2.1 y1.2.1.2.1.2.2.2 y1.2.1.2.2.1 y1.2.1.2.2.2.1 y1.2.1.2.2.2.2.1 y1.2.1.2.2.2.2.2)).bind fun y4=>
         cond y4.1 (
          ((f11 y2.1.1.1 y2.1.1.2 y2.1.2.1 y2.1.2.2)).bind fun y5=>
          cond y5.1 (
           cond (decide (0<(y2.1.1.2.length:Int))) (
            cond (decide (y3.2.1<(((rd dT0 y2.1.1.2 0).2.1.length:Nat):Int))) (
             ((f15 y2.1.1.1 y2.1.1.2 y2.1.2.1 y2.1.2.2 y2.1.1.1 y2.1.1.2 y2.1.2.1 y2.1.2.2)).bind fun y6=>
             some (y6.1,())) (
             some (false,()))) (
            none)) (
           some (false,()))) (
          some (false,()))) (
         some (false,()))) (
        some (false,()))) (
       some (false,()))) (
      some (false,()))) (
     none))))
abbrev X23_2:Type:=(Unit×Int×Unit)×(DT13×Unit)×(Unit)
abbrev Y23_2:Type:=DT19×(DT13×Unit)×(Unit)
abbrev Z23_2:Type:=DT7×(Unit)×(Unit)
noncomputable def t23_2 (v1 v2:Int)(v3:DT0):Option (R3 X23_2 Y23_2 Z23_2):=
 cond (decide (v1<(v3.length:Int))) (
  cond ((decide (0≤v1))&&(decide (v1<(v3.length:Int)))) (
   cond (decide (3000<(((rd dT0 v3 (Int.toNat v1)).2.1.length:Nat):Int))) (
    some (R3.ret ((false,()),(),()))) (
    some (R3.next (((),(IntKind.wrap .i64 (v1+1)),()),((v2,v3,()),()),())))) (
   none)) (
  some (R3.out (((),()),((v2,v3,()),()),())))
noncomputable def u23_2 (z:X23_2):Option (R3 X23_2 Y23_2 Z23_2):=t23_2 z.1.2.1 z.2.1.1.1 z.2.1.1.2.1
noncomputable def f23 (v1:Int)(v2:DT0):Option DT7:=
 ((iter big u23_2 (((),0,()),((v1,v2,()),()),()))).bind fun r=>match r with
 | .inl y3=>
   some ((decide ((y3.2.1.1.2.1.length:Int)≤14)),())
 | .inr z4=>
   some (z4.1.1,())
noncomputable def f9 (v1:Int)(v2:DT0)(v3 v4:Int):Option DT7:=
 ((f23 v1 v2)).bind fun y5=>
 some (y5.1,())
noncomputable def f24 (v1:DT2)(v2:DT1):Option DT7:=
 cond (decide ((v1.length:Int)≤40)) (
  some ((decide ((v2.length:Int)≤40)),())) (
  some (false,()))
noncomputable def f10 (v1 v2 v3 v4 v5 v6 v7 v8 v9 v10 v11:Int)(v12:Bool)(v13:Int)(v14:DT1)(v15:DT2)(v16:DT1):Option DT7:=
 ((f24 v15 v16)).bind fun y17=>
 cond y17.1 (
  some ((decide ((v14.length:Int)≤6)),())) (
  some (false,()))
noncomputable def f14 (v1:Int)(v2:DT0)(v3 v4 v5 v6 v7 v8 v9 v10 v11 v12 v13 v14 v15:Int)(v16:Bool)(v17:Int)(v18:DT1)(v19:DT2)(v20:DT1):Option (DT17×Int×Unit):=
 ((f11 v1 v2 v3 v4)).bind fun y21=>
 cond (!y21.1) (
  ((f33 v1 v2 v3 v4)).bind fun y22=>
  some (((y22.1.1.1,y22.1.1.2),y22.1.2.1,y22.1.2.2),1,())) (
  ((f25 v1 v2)).bind fun y23=>
  cond ((decide (0≤y23.2.1))&&(decide (y23.2.1<(v2.length:Int)))) (
   cond (decide ((((rd dT0 v2 (Int.toNat y23.2.1)).2.1.length:Nat):Int)<300)) (
    ((f33 v1 v2 v3 v4)).bind fun y24=>
    some (((y24.1.1.1,y24.1.1.2),y24.1.2.1,y24.1.2.2),0,())) (
    ((f12 v1 v2 v5 v6 v7 v8 v9 v10 v11 v12 v13 v14 v15 v16 v17 v18 v19 v20)).bind fun y25=>
    cond (!(decide (y25.2.1=0))) (
     ((f33 v1 v2 v3 v4)).bind fun y26=>
     some (((y26.1.1.1,y26.1.1.2),y26.1.2.1,y26.1.2.2),y25.2.1,())) (
     some (((y25.1.1.1,y25.1.1.2),y25.1.2.1,y25.1.2.2),0,())))) (
   none))
noncomputable def f34 (v1:Int)(v2:DT0)(v3:Int):Option DT20:=
 ((f26 v1 v2)).bind fun y4=>
 cond (!y4.1) (
  ((f39 v1 v2)).bind fun y5=>
  some ((y5.1.1,y5.1.2),1,())) (
  ((f56 v1 v2 v3)).bind fun y6=>
  cond (decide (y6.1=(-1))) (
   ((f39 v1 v2)).bind fun y7=>
   some ((y7.1.1,y7.1.2),5,())) (
   ((f39 v1 v2)).bind fun y8=>
   cond ((((decide (0≤y6.1))&&(decide (y6.1≤(IntKind.wrap .i64 (y6.1+1)))))&&(decide ((IntKind.wrap .i64 (y6.1+1))≤(y8.1.2.length:Int))))&&(decide ((0+(y8.1.2.length:Int))≤(y8.1.2.length:Int)))) (
    cond (decide (y6.1=(IntKind.wrap .i64 (y6.1+1)))) (
     some ((y8.1.1,y8.1.2),0,())) (
     cond ((decide (0≤y6.1))&&(decide ((0+y6.1)≤(y8.1.2.length:Int)))) (
      cond (((decide (0≤(IntKind.wrap .i64 (y6.1+1))))&&(decide ((IntKind.wrap .i64 (y6.1+1))≤(((y8.1.2.length-0):Nat):Int))))&&(decide ((0+(((y8.1.2.length-0):Nat):Int))≤(y8.1.2.length:Int)))) (
       cond (decide (((0+(Int.toNat y6.1))+(List.drop (0+(Int.toNat (IntKind.wrap .i64 (y6.1+1)))) (List.take (0+(Int.toNat (((y8.1.2.length-0):Nat):Int))) y8.1.2)).length)≤y8.1.2.length)) (
        cond (((decide (0≤(((((0+(Int.toNat y6.1))+(List.drop (0+(Int.toNat (IntKind.wrap .i64 (y6.1+1)))) (List.take (0+(Int.toNat (((y8.1.2.length-0):Nat):Int))) y8.1.2)).length)-0):Nat):Int)))&&(decide ((((((0+(Int.toNat y6.1))+(List.drop (0+(Int.toNat (IntKind.wrap .i64 (y6.1+1)))) (List.take (0+(Int.toNat (((y8.1.2.length-0):Nat):Int))) y8.1.2)).length)-0):Nat):Int)≤(y8.1.2.length:Int))))&&(decide ((0+(y8.1.2.length:Int))≤(((((List.take (0+(Int.toNat y6.1)) y8.1.2)++(List.drop (0+(Int.toNat (IntKind.wrap .i64 (y6.1+1)))) (List.take (0+(Int.toNat (((y8.1.2.length-0):Nat):Int))) y8.1.2)))++(List.drop ((0+(Int.toNat y6.1))+(List.drop (0+(Int.toNat (IntKind.wrap .i64 (y6.1+1)))) (List.take (0+(Int.toNat (((y8.1.2.length-0):Nat):Int))) y8.1.2)).length) y8.1.2)).length:Nat):Int)))) (
         some ((y8.1.1,(List.drop 0 (List.take ((0+(Int.toNat y6.1))+(List.drop (0+(Int.toNat (IntKind.wrap .i64 (y6.1+1)))) (List.take (0+(Int.toNat (((y8.1.2.length-0):Nat):Int))) y8.1.2)).length) (((List.take (0+(Int.toNat (((((0+(Int.toNat y6.1))+(List.drop (0+(Int.toNat (IntKind.wrap .i64 (y6.1+1)))) (List.take (0+(Int.toNat (((y8.1.2.length-0):Nat):Int))) y8.1.2)).length)-0):Nat):Int))) (((List.take (0+(Int.toNat y6.1)) y8.1.2)++(List.drop (0+(Int.toNat (IntKind.wrap .i64 (y6.1+1)))) (List.take (0+(Int.toNat (((y8.1.2.length-0):Nat):Int))) y8.1.2)))++(List.drop ((0+(Int.toNat y6.1))+(List.drop (0+(Int.toNat (IntKind.wrap .i64 (y6.1+1)))) (List.take (0+(Int.toNat (((y8.1.2.length-0):Nat):Int))) y8.1.2)).length) y8.1.2)))++(List.replicate ((0+(Int.toNat (y8.1.2.length:Int)))-(0+(Int.toNat (((((0+(Int.toNat y6.1))+(List.drop (0+(Int.toNat (IntKind.wrap .i64 (y6.1+1)))) (List.take (0+(Int.toNat (((y8.1.2.length-0):Nat):Int))) y8.1.2)).length)-0):Nat):Int)))) (0,[],0)))++(List.drop ((0+(Int.toNat (((((0+(Int.toNat y6.1))+(List.drop (0+(Int.toNat (IntKind.wrap .i64 (y6.1+1)))) (List.take (0+(Int.toNat (((y8.1.2.length-0):Nat):Int))) y8.1.2)).length)-0):Nat):Int)))+((0+(Int.toNat (y8.1.2.length:Int)))-(0+(Int.toNat (((((0+(Int.toNat y6.1))+(List.drop (0+(Int.toNat (IntKind.wrap .i64 (y6.1+1)))) (List.take (0+(Int.toNat (((y8.1.2.length-0):Nat):Int))) y8.1.2)).length)-0):Nat):Int))))) (((List.take (0+(Int.toNat y6.1)) y8.1.2)++(List.drop (0+(Int.toNat (IntKind.wrap .i64 (y6.1+1)))) (List.take (0+(Int.toNat (((y8.1.2.length-0):Nat):Int))) y8.1.2)))++(List.drop ((0+(Int.toNat y6.1))+(List.drop (0+(Int.toNat (IntKind.wrap .i64 (y6.1+1)))) (List.take (0+(Int.toNat (((y8.1.2.length-0):Nat):Int))) y8.1.2)).length) y8.1.2))))))),0,())) (
         none)) (
        none)) (
       none)) (
      none))) (
    none)))
abbrev X16_4:Type:=(Int×Unit×Unit×Unit)×((Int×Unit×Int×Int×Unit)×DT18×Unit)×DT0×Unit
abbrev Y16_4:Type:=Unit×Unit×Unit
abbrev Z16_4:Type:=DT19×(DT18×Unit)×(Unit)
noncomputable def t16_4 (v1 v2 v3 v4 v5:Int)(v6:DT0)(v7 v8:Int)(v9:DT0):Option (R3 X16_4 Y16_4 Z16_4):=
 cond (decide ((v6.length:Int)<2)) (
  some (R3.ret (((),()),((v5,v6,v7,v8,()),()),()))) (
  cond (decide (1<(v6.length:Int))) (
   ((f13 (rd dT0 v6 1).2.1)).bind fun y10=>
   cond (!y10.2.2.1) (
    some (R3.ret (((),()),((v5,v6,v7,v8,()),()),()))) (
    cond (decide (v1<(IntKind.wrap .i64 (y10.1.2.2.1+1000)))) (
     some (R3.ret (((),()),((v5,v6,v7,v8,()),()),()))) (
     cond (decide (0<(v6.length:Int))) (
      ((f34 v5 v6 (rd dT0 v6 0).1)).bind fun y11=>
      some (R3.next ((v1,(),(),()),((v2,(),v3,v4,()),(y11.1.1,y11.1.2,v7,v8,()),()),v9,()))) (
      none)))) (
   none))
noncomputable def u16_4 (z:X16_4):Option (R3 X16_4 Y16_4 Z16_4):=t16_4 z.1.1 z.2.1.1.1 z.2.1.1.2.2.1 z.2.1.1.2.2.2.1 z.2.1.2.1.1 z.2.1.2.1.2.1 z.2.1.2.1.2.2.1 z.2.1.2.1.2.2.2.1 z.2.2.1
noncomputable def f16 (v1:Int)(v2:DT0)(v3 v4 v5:Int):Option (DT17×Unit):=
 ((f33 v1 v2 v3 v4)).bind fun y6=>
 ((f11 v1 v2 v3 v4)).bind fun y7=>
 cond (!y7.1) (
  some (((y6.1.1.1,y6.1.1.2),y6.1.2.1,y6.1.2.2),())) (
  ((iter big u16_4 ((v5,(),(),()),((0,(),0,0,()),(y6.1.1.1,y6.1.1.2,y6.1.2.1,y6.1.2.2,()),()),[],()))).bind fun r=>match r with
  | .inl y8=>
    none
  | .inr z9=>
    some (((z9.2.1.1.1,z9.2.1.1.2.1),z9.2.1.1.2.2.1,z9.2.1.1.2.2.2.1),()))
abbrev X20_6:Type:=(Unit×Unit×Unit×Int×Int×Unit)×DT15×DT0×Unit
abbrev X20_17:Type:=(Unit×Unit×Unit×(Nat×Nat×Nat)×Int×Int×Int×Unit)×DT15×DT0×Unit
abbrev Y20_17:Type:=(Unit×Unit×Unit×Int×Int×Unit)×DT15×DT0×Unit
abbrev Z20_17:Type:=Unit×Unit×Unit
noncomputable def t20_17 (v1 v2 v3:Nat)(v4 v5 v6 v7 v8:Int)(v9:DT0)(v10:DT4)(v11:DT0):Option (R3 X20_17 Y20_17 Z20_17):=
 cond (decide (v4<(((v3-v2):Nat):Int))) (
  cond (((decide (v1<v9.length))&&(decide (0≤v4)))&&(decide (v4<(((v3-v2):Nat):Int)))) (
   cond ((decide (v1<v9.length))&&(decide ((v2+(Int.toNat v4))<(rd dT0 v9 v1).2.1.length))) (
    cond (((decide (v1<v9.length))&&(decide (0≤v4)))&&(decide (v4<(((v3-v2):Nat):Int)))) (
     cond ((decide (v1<v9.length))&&(decide ((v2+(Int.toNat v4))<(rd dT0 v9 v1).2.1.length))) (
      some (R3.next (((),(),(),(v1,v2,v3),(IntKind.wrap .i64 (v4+1)),v5,v6,()),((v7,(),()),(v8,(),()),(v9.set v1 ((rd dT0 v9 v1).1,((rd dT0 v9 v1).2.1.set (v2+(Int.toNat v4)) (bitop .xor .u8 (rd dT5 (rd dT0 v9 v1).2.1 (v2+(Int.toNat v4))) 165)),(rd dT0 v9 v1).2.2)),(v10,()),()),v11,()))) (
      none)) (
     none)) (
    none)) (
   none)) (
  some (R3.out (((),(),(),v5,v6,()),((v7,(),()),(v8,(),()),v9,(v10,()),()),v11,())))
noncomputable def u20_17 (z:X20_17):Option (R3 X20_17 Y20_17 Z20_17):=t20_17 z.1.2.2.2.1.1 z.1.2.2.2.1.2.1 z.1.2.2.2.1.2.2 z.1.2.2.2.2.1 z.1.2.2.2.2.2.1 z.1.2.2.2.2.2.2.1 z.2.1.1.1 z.2.1.2.1.1 z.2.1.2.2.1 z.2.1.2.2.2.1.1 z.2.2.1
abbrev Y20_6:Type:=DT25×(DT11×DT11×(List (Int×List Int×Int))×Unit)×DT0×Unit
abbrev Z20_6:Type:=Unit×Unit×Unit
noncomputable def t20_6 (v1 v2 v3 v4:Int)(v5:DT0)(v6:DT4)(v7:DT0):Option (R3 X20_6 Y20_6 Z20_6):=
 cond (decide (v2<v1)) (
  cond ((decide (0≤v2))&&(decide (v2<(v5.length:Int)))) (
   cond (decide ((Int.toNat v2)<v5.length)) (
    cond (decide ((Int.toNat v2)<v5.length)) (
     cond ((((decide ((Int.toNat v2)<v5.length))&&(decide (0≤(rd dT0 v5 (Int.toNat v2)).2.2)))&&(decide ((rd dT0 v5 (Int.toNat v2)).2.2≤((((rd dT0 v5 (Int.toNat v2)).2.1.length-0):Nat):Int))))&&(decide (((((rd dT0 v5 (Int.toNat v2)).2.1.length-0):Nat):Int)≤((((rd dT0 v5 (Int.toNat v2)).2.1.length-0):Nat):Int)))) (
      cond (decide (((((Int.toNat ((((rd dT0 v5 (Int.toNat v2)).2.1.length-0):Nat):Int))-(Int.toNat (rd dT0 v5 (Int.toNat v2)).2.2)):Nat):Int)=0)) (
       some (R3.next (((),(),(),v1,(IntKind.wrap .i64 (v2+1)),()),((v3,(),()),(v4,(),()),v5,(v6,()),()),v7,()))) (
       cond (decide ((v6.length:Int)=0)) (
        cond (((decide ((Int.toNat v2)<v5.length))&&(decide (0≤(mxI 0 (mnI 0 ((((Int.toNat ((((rd dT0 v5 (Int.toNat v2)).2.1.length-0):Nat):Int))-(Int.toNat (rd dT0 v5 (Int.toNat v2)).2.2)):Nat):Int))))))&&(decide ((mxI 0 (mnI 0 ((((Int.toNat ((((rd dT0 v5 (Int.toNat v2)).2.1.length-0):Nat):Int))-(Int.toNat (rd dT0 v5 (Int.toNat v2)).2.2)):Nat):Int)))≤((((Int.toNat ((((rd dT0 v5 (Int.toNat v2)).2.1.length-0):Nat):Int))-(Int.toNat (rd dT0 v5 (Int.toNat v2)).2.2)):Nat):Int)))) (
         cond (decide ((v6.length:Int)=0)) (
          cond (decide ((Int.toNat v2)<v5.length)) (
           cond (decide ((Int.toNat v2)<v5.length)) (
            cond (((decide ((Int.toNat v2)<v5.length))&&(decide (0≤(IntKind.wrap .i64 ((rd dT0 v5 (Int.toNat v2)).2.2+(((((Int.toNat (rd dT0 v5 (Int.toNat v2)).2.2)+(Int.toNat (mxI 0 (mnI 0 ((((Int.toNat ((((rd dT0 v5 (Int.toNat v2)).2.1.length-0):Nat):Int))-(Int.toNat (rd dT0 v5 (Int.toNat v2)).2.2)):Nat):Int)))))-(Int.toNat (rd dT0 v5 (Int.toNat v2)).2.2)):Nat):Int))))))&&(decide ((IntKind.wrap .i64 ((rd dT0 v5 (Int.toNat v2)).2.2+(((((Int.toNat (rd dT0 v5 (Int.toNat v2)).2.2)+(Int.toNat (mxI 0 (mnI 0 ((((Int.toNat ((((rd dT0 v5 (Int.toNat v2)).2.1.length-0):Nat):Int))-(Int.toNat (rd dT0 v5 (Int.toNat v2)).2.2)):Nat):Int)))))-(Int.toNat (rd dT0 v5 (Int.toNat v2)).2.2)):Nat):Int)))≤((((rd dT0 v5 (Int.toNat v2)).2.1.length-0):Nat):Int)))) (
             cond ((((decide ((Int.toNat v2)<v5.length))&&(decide ((Int.toNat v2)=(Int.toNat v2))))&&true)&&(decide ((0+(Int.toNat (IntKind.wrap .i64 ((rd dT0 v5 (Int.toNat v2)).2.2+(((((Int.toNat (rd dT0 v5 (Int.toNat v2)).2.2)+(Int.toNat (mxI 0 (mnI 0 ((((Int.toNat ((((rd dT0 v5 (Int.toNat v2)).2.1.length-0):Nat):Int))-(Int.toNat (rd dT0 v5 (Int.toNat v2)).2.2)):Nat):Int)))))-(Int.toNat (rd dT0 v5 (Int.toNat v2)).2.2)):Nat):Int)))))≤(rd dT0 v5 (Int.toNat v2)).2.1.length))) (
              cond (decide ((Int.toNat v2)<(v5.set (Int.toNat v2) ((rd dT0 v5 (Int.toNat v2)).1,(List.take (0+(Int.toNat (IntKind.wrap .i64 ((rd dT0 v5 (Int.toNat v2)).2.2+(((((Int.toNat (rd dT0 v5 (Int.toNat v2)).2.2)+(Int.toNat (mxI 0 (mnI 0 ((((Int.toNat ((((rd dT0 v5 (Int.toNat v2)).2.1.length-0):Nat):Int))-(Int.toNat (rd dT0 v5 (Int.toNat v2)).2.2)):Nat):Int)))))-(Int.toNat (rd dT0 v5 (Int.toNat v2)).2.2)):Nat):Int))))) (rd dT0 v5 (Int.toNat v2)).2.1),(rd dT0 v5 (Int.toNat v2)).2.2)).length)) (
               cond (decide ((Int.toNat v2)<(v5.set (Int.toNat v2) ((rd dT0 v5 (Int.toNat v2)).1,(List.take (0+(Int.toNat (IntKind.wrap .i64 ((rd dT0 v5 (Int.toNat v2)).2.2+(((((Int.toNat (rd dT0 v5 (Int.toNat v2)).2.2)+(Int.toNat (mxI 0 (mnI 0 ((((Int.toNat ((((rd dT0 v5 (Int.toNat v2)).2.1.length-0):Nat):Int))-(Int.toNat (rd dT0 v5 (Int.toNat v2)).2.2)):Nat):Int)))))-(Int.toNat (rd dT0 v5 (Int.toNat v2)).2.2)):Nat):Int))))) (rd dT0 v5 (Int.toNat v2)).2.1),(rd dT0 v5 (Int.toNat v2)).2.2)).length)) (
                some (R3.next (((),(),(),v1,(IntKind.wrap .i64 (v2+1)),()),((v3,(),()),(v4,(),()),((v5.set (Int.toNat v2) ((rd dT0 v5 (Int.toNat v2)).1,(List.take (0+(Int.toNat (IntKind.wrap .i64 ((rd dT0 v5 (Int.toNat v2)).2.2+(((((Int.toNat (rd dT0 v5 (Int.toNat v2)).2.2)+(Int.toNat (mxI 0 (mnI 0 ((((Int.toNat ((((rd dT0 v5 (Int.toNat v2)).2.1.length-0):Nat):Int))-(Int.toNat (rd dT0 v5 (Int.toNat v2)).2.2)):Nat):Int)))))-(Int.toNat (rd dT0 v5 (Int.toNat v2)).2.2)):Nat):Int))))) (rd dT0 v5 (Int.toNat v2)).2.1),(rd dT0 v5 (Int.toNat v2)).2.2)).set (Int.toNat v2) ((rd dT0 (v5.set (Int.toNat v2) ((rd dT0 v5 (Int.toNat v2)).1,(List.take (0+(Int.toNat (IntKind.wrap .i64 ((rd dT0 v5 (Int.toNat v2)).2.2+(((((Int.toNat (rd dT0 v5 (Int.toNat v2)).2.2)+(Int.toNat (mxI 0 (mnI 0 ((((Int.toNat ((((rd dT0 v5 (Int.toNat v2)).2.1.length-0):Nat):Int))-(Int.toNat (rd dT0 v5 (Int.toNat v2)).2.2)):Nat):Int)))))-(Int.toNat (rd dT0 v5 (Int.toNat v2)).2.2)):Nat):Int))))) (rd dT0 v5 (Int.toNat v2)).2.1),(rd dT0 v5 (Int.toNat v2)).2.2)) (Int.toNat v2)).1,(rd dT0 (v5.set (Int.toNat v2) ((rd dT0 v5 (Int.toNat v2)).1,(List.take (0+(Int.toNat (IntKind.wrap .i64 ((rd dT0 v5 (Int.toNat v2)).2.2+(((((Int.toNat (rd dT0 v5 (Int.toNat v2)).2.2)+(Int.toNat (mxI 0 (mnI 0 ((((Int.toNat ((((rd dT0 v5 (Int.toNat v2)).2.1.length-0):Nat):Int))-(Int.toNat (rd dT0 v5 (Int.toNat v2)).2.2)):Nat):Int)))))-(Int.toNat (rd dT0 v5 (Int.toNat v2)).2.2)):Nat):Int))))) (rd dT0 v5 (Int.toNat v2)).2.1),(rd dT0 v5 (Int.toNat v2)).2.2)) (Int.toNat v2)).2.1,((((rd dT0 (v5.set (Int.toNat v2) ((rd dT0 v5 (Int.toNat v2)).1,(List.take (0+(Int.toNat (IntKind.wrap .i64 ((rd dT0 v5 (Int.toNat v2)).2.2+(((((Int.toNat (rd dT0 v5 (Int.toNat v2)).2.2)+(Int.toNat (mxI 0 (mnI 0 ((((Int.toNat ((((rd dT0 v5 (Int.toNat v2)).2.1.length-0):Nat):Int))-(Int.toNat (rd dT0 v5 (Int.toNat v2)).2.2)):Nat):Int)))))-(Int.toNat (rd dT0 v5 (Int.toNat v2)).2.2)):Nat):Int))))) (rd dT0 v5 (Int.toNat v2)).2.1),(rd dT0 v5 (Int.toNat v2)).2.2)) (Int.toNat v2)).2.1.length-0):Nat):Int))),(v6,()),()),v7,()))) (
                none)) (
               none)) (
              none)) (
             none)) (
            none)) (
           none)) (
          cond (decide (0<(v6.length:Int))) (
           cond ((decide (1≤(v6.length:Int)))&&(decide ((v6.length:Int)≤(v6.length:Int)))) (
            cond (decide ((Int.toNat v2)<v5.length)) (
             cond (decide ((Int.toNat v2)<v5.length)) (
              cond (((decide ((Int.toNat v2)<v5.length))&&(decide (0≤(IntKind.wrap .i64 ((rd dT0 v5 (Int.toNat v2)).2.2+(((((Int.toNat (rd dT0 v5 (Int.toNat v2)).2.2)+(Int.toNat (mxI 0 (mnI 0 ((((Int.toNat ((((rd dT0 v5 (Int.toNat v2)).2.1.length-0):Nat):Int))-(Int.toNat (rd dT0 v5 (Int.toNat v2)).2.2)):Nat):Int)))))-(Int.toNat (rd dT0 v5 (Int.toNat v2)).2.2)):Nat):Int))))))&&(decide ((IntKind.wrap .i64 ((rd dT0 v5 (Int.toNat v2)).2.2+(((((Int.toNat (rd dT0 v5 (Int.toNat v2)).2.2)+(Int.toNat (mxI 0 (mnI 0 ((((Int.toNat ((((rd dT0 v5 (Int.toNat v2)).2.1.length-0):Nat):Int))-(Int.toNat (rd dT0 v5 (Int.toNat v2)).2.2)):Nat):Int)))))-(Int.toNat (rd dT0 v5 (Int.toNat v2)).2.2)):Nat):Int)))≤((((rd dT0 v5 (Int.toNat v2)).2.1.length-0):Nat):Int)))) (
               cond ((((decide ((Int.toNat v2)<v5.length))&&(decide ((Int.toNat v2)=(Int.toNat v2))))&&true)&&(decide ((0+(Int.toNat (IntKind.wrap .i64 ((rd dT0 v5 (Int.toNat v2)).2.2+(((((Int.toNat (rd dT0 v5 (Int.toNat v2)).2.2)+(Int.toNat (mxI 0 (mnI 0 ((((Int.toNat ((((rd dT0 v5 (Int.toNat v2)).2.1.length-0):Nat):Int))-(Int.toNat (rd dT0 v5 (Int.toNat v2)).2.2)):Nat):Int)))))-(Int.toNat (rd dT0 v5 (Int.toNat v2)).2.2)):Nat):Int)))))≤(rd dT0 v5 (Int.toNat v2)).2.1.length))) (
                cond (decide ((Int.toNat v2)<(v5.set (Int.toNat v2) ((rd dT0 v5 (Int.toNat v2)).1,(List.take (0+(Int.toNat (IntKind.wrap .i64 ((rd dT0 v5 (Int.toNat v2)).2.2+(((((Int.toNat (rd dT0 v5 (Int.toNat v2)).2.2)+(Int.toNat (mxI 0 (mnI 0 ((((Int.toNat ((((rd dT0 v5 (Int.toNat v2)).2.1.length-0):Nat):Int))-(Int.toNat (rd dT0 v5 (Int.toNat v2)).2.2)):Nat):Int)))))-(Int.toNat (rd dT0 v5 (Int.toNat v2)).2.2)):Nat):Int))))) (rd dT0 v5 (Int.toNat v2)).2.1),(rd dT0 v5 (Int.toNat v2)).2.2)).length)) (
                 cond (decide ((Int.toNat v2)<(v5.set (Int.toNat v2) ((rd dT0 v5 (Int.toNat v2)).1,(List.take (0+(Int.toNat (IntKind.wrap .i64 ((rd dT0 v5 (Int.toNat v2)).2.2+(((((Int.toNat (rd dT0 v5 (Int.toNat v2)).2.2)+(Int.toNat (mxI 0 (mnI 0 ((((Int.toNat ((((rd dT0 v5 (Int.toNat v2)).2.1.length-0):Nat):Int))-(Int.toNat (rd dT0 v5 (Int.toNat v2)).2.2)):Nat):Int)))))-(Int.toNat (rd dT0 v5 (Int.toNat v2)).2.2)):Nat):Int))))) (rd dT0 v5 (Int.toNat v2)).2.1),(rd dT0 v5 (Int.toNat v2)).2.2)).length)) (
                  cond (!(!(decide ((Int.tmod (rd dT1 v6 0) 2)=0)))) (
                   some (R3.next (((),(),(),v1,(IntKind.wrap .i64 (v2+1)),()),((v3,(),()),(v4,(),()),((v5.set (Int.toNat v2) ((rd dT0 v5 (Int.toNat v2)).1,(List.take (0+(Int.toNat (IntKind.wrap .i64 ((rd dT0 v5 (Int.toNat v2)).2.2+(((((Int.toNat (rd dT0 v5 (Int.toNat v2)).2.2)+(Int.toNat (mxI 0 (mnI 0 ((((Int.toNat ((((rd dT0 v5 (Int.toNat v2)).2.1.length-0):Nat):Int))-(Int.toNat (rd dT0 v5 (Int.toNat v2)).2.2)):Nat):Int)))))-(Int.toNat (rd dT0 v5 (Int.toNat v2)).2.2)):Nat):Int))))) (rd dT0 v5 (Int.toNat v2)).2.1),(rd dT0 v5 (Int.toNat v2)).2.2)).set (Int.toNat v2) ((rd dT0 (v5.set (Int.toNat v2) ((rd dT0 v5 (Int.toNat v2)).1,(List.take (0+(Int.toNat (IntKind.wrap .i64 ((rd dT0 v5 (Int.toNat v2)).2.2+(((((Int.toNat (rd dT0 v5 (Int.toNat v2)).2.2)+(Int.toNat (mxI 0 (mnI 0 ((((Int.toNat ((((rd dT0 v5 (Int.toNat v2)).2.1.length-0):Nat):Int))-(Int.toNat (rd dT0 v5 (Int.toNat v2)).2.2)):Nat):Int)))))-(Int.toNat (rd dT0 v5 (Int.toNat v2)).2.2)):Nat):Int))))) (rd dT0 v5 (Int.toNat v2)).2.1),(rd dT0 v5 (Int.toNat v2)).2.2)) (Int.toNat v2)).1,(rd dT0 (v5.set (Int.toNat v2) ((rd dT0 v5 (Int.toNat v2)).1,(List.take (0+(Int.toNat (IntKind.wrap .i64 ((rd dT0 v5 (Int.toNat v2)).2.2+(((((Int.toNat (rd dT0 v5 (Int.toNat v2)).2.2)+(Int.toNat (mxI 0 (mnI 0 ((((Int.toNat ((((rd dT0 v5 (Int.toNat v2)).2.1.length-0):Nat):Int))-(Int.toNat (rd dT0 v5 (Int.toNat v2)).2.2)):Nat):Int)))))-(Int.toNat (rd dT0 v5 (Int.toNat v2)).2.2)):Nat):Int))))) (rd dT0 v5 (Int.toNat v2)).2.1),(rd dT0 v5 (Int.toNat v2)).2.2)) (Int.toNat v2)).2.1,((((rd dT0 (v5.set (Int.toNat v2) ((rd dT0 v5 (Int.toNat v2)).1,(List.take (0+(Int.toNat (IntKind.wrap .i64 ((rd dT0 v5 (Int.toNat v2)).2.2+(((((Int.toNat (rd dT0 v5 (Int.toNat v2)).2.2)+(Int.toNat (mxI 0 (mnI 0 ((((Int.toNat ((((rd dT0 v5 (Int.toNat v2)).2.1.length-0):Nat):Int))-(Int.toNat (rd dT0 v5 (Int.toNat v2)).2.2)):Nat):Int)))))-(Int.toNat (rd dT0 v5 (Int.toNat v2)).2.2)):Nat):Int))))) (rd dT0 v5 (Int.toNat v2)).2.1),(rd dT0 v5 (Int.toNat v2)).2.2)) (Int.toNat v2)).2.1.length-0):Nat):Int))),((List.drop 1 (List.take (Int.toNat (v6.length:Int)) v6)),()),()),v7,()))) (
                   ((iter big u20_17 (((),(),(),((Int.toNat v2),(Int.toNat (rd dT0 v5 (Int.toNat v2)).2.2),((Int.toNat (rd dT0 v5 (Int.toNat v2)).2.2)+(Int.toNat (mxI 0 (mnI 0 ((((Int.toNat ((((rd dT0 v5 (Int.toNat v2)).2.1.length-0):Nat):Int))-(Int.toNat (rd dT0 v5 (Int.toNat v2)).2.2)):Nat):Int)))))),(mxI 0 (IntKind.wrap .i64 ((((((Int.toNat (rd dT0 v5 (Int.toNat v2)).2.2)+(Int.toNat (mxI 0 (mnI 0 ((((Int.toNat ((((rd dT0 v5 (Int.toNat v2)).2.1.length-0):Nat):Int))-(Int.toNat (rd dT0 v5 (Int.toNat v2)).2.2)):Nat):Int)))))-(Int.toNat (rd dT0 v5 (Int.toNat v2)).2.2)):Nat):Int)-8))),v1,v2,()),((v3,(),()),(v4,(),()),((v5.set (Int.toNat v2) ((rd dT0 v5 (Int.toNat v2)).1,(List.take (0+(Int.toNat (IntKind.wrap .i64 ((rd dT0 v5 (Int.toNat v2)).2.2+(((((Int.toNat (rd dT0 v5 (Int.toNat v2)).2.2)+(Int.toNat (mxI 0 (mnI 0 ((((Int.toNat ((((rd dT0 v5 (Int.toNat v2)).2.1.length-0):Nat):Int))-(Int.toNat (rd dT0 v5 (Int.toNat v2)).2.2)):Nat):Int)))))-(Int.toNat (rd dT0 v5 (Int.toNat v2)).2.2)):Nat):Int))))) (rd dT0 v5 (Int.toNat v2)).2.1),(rd dT0 v5 (Int.toNat v2)).2.2)).set (Int.toNat v2) ((rd dT0 (v5.set (Int.toNat v2) ((rd dT0 v5 (Int.toNat v2)).1,(List.take (0+(Int.toNat (IntKind.wrap .i64 ((rd dT0 v5 (Int.toNat v2)).2.2+(((((Int.toNat (rd dT0 v5 (Int.toNat v2)).2.2)+(Int.toNat (mxI 0 (mnI 0 ((((Int.toNat ((((rd dT0 v5 (Int.toNat v2)).2.1.length-0):Nat):Int))-(Int.toNat (rd dT0 v5 (Int.toNat v2)).2.2)):Nat):Int)))))-(Int.toNat (rd dT0 v5 (Int.toNat v2)).2.2)):Nat):Int))))) (rd dT0 v5 (Int.toNat v2)).2.1),(rd dT0 v5 (Int.toNat v2)).2.2)) (Int.toNat v2)).1,(rd dT0 (v5.set (Int.toNat v2) ((rd dT0 v5 (Int.toNat v2)).1,(List.take (0+(Int.toNat (IntKind.wrap .i64 ((rd dT0 v5 (Int.toNat v2)).2.2+(((((Int.toNat (rd dT0 v5 (Int.toNat v2)).2.2)+(Int.toNat (mxI 0 (mnI 0 ((((Int.toNat ((((rd dT0 v5 (Int.toNat v2)).2.1.length-0):Nat):Int))-(Int.toNat (rd dT0 v5 (Int.toNat v2)).2.2)):Nat):Int)))))-(Int.toNat (rd dT0 v5 (Int.toNat v2)).2.2)):Nat):Int))))) (rd dT0 v5 (Int.toNat v2)).2.1),(rd dT0 v5 (Int.toNat v2)).2.2)) (Int.toNat v2)).2.1,((((rd dT0 (v5.set (Int.toNat v2) ((rd dT0 v5 (Int.toNat v2)).1,(List.take (0+(Int.toNat (IntKind.wrap .i64 ((rd dT0 v5 (Int.toNat v2)).2.2+(((((Int.toNat (rd dT0 v5 (Int.toNat v2)).2.2)+(Int.toNat (mxI 0 (mnI 0 ((((Int.toNat ((((rd dT0 v5 (Int.toNat v2)).2.1.length-0):Nat):Int))-(Int.toNat (rd dT0 v5 (Int.toNat v2)).2.2)):Nat):Int)))))-(Int.toNat (rd dT0 v5 (Int.toNat v2)).2.2)):Nat):Int))))) (rd dT0 v5 (Int.toNat v2)).2.1),(rd dT0 v5 (Int.toNat v2)).2.2)) (Int.toNat v2)).2.1.length-0):Nat):Int))),((List.drop 1 (List.take (Int.toNat (v6.length:Int)) v6)),()),()),v7,()))).bind fun r=>match r with
                   | .inl y8=>
                     some (R3.next (((),(),(),y8.1.2.2.2.1,(IntKind.wrap .i64 (y8.1.2.2.2.2.1+1)),()),((y8.2.1.1.1,(),()),(y8.2.1.2.1.1,(),()),y8.2.1.2.2.1,(y8.2.1.2.2.2.1.1,()),()),y8.2.2.1,()))
                   | .inr z9=>
                     some (R3.ret ((),(),())))) (
                  none)) (
                 none)) (
                none)) (
               none)) (
              none)) (
             none)) (
            none)) (
           none))) (
         none)) (
        cond (decide (0<(v6.length:Int))) (
         cond ((decide (1≤(v6.length:Int)))&&(decide ((v6.length:Int)≤(v6.length:Int)))) (
          cond (((decide ((Int.toNat v2)<v5.length))&&(decide (0≤(mxI 0 (mnI (rd dT1 v6 0) ((((Int.toNat ((((rd dT0 v5 (Int.toNat v2)).2.1.length-0):Nat):Int))-(Int.toNat (rd dT0 v5 (Int.toNat v2)).2.2)):Nat):Int))))))&&(decide ((mxI 0 (mnI (rd dT1 v6 0) ((((Int.toNat ((((rd dT0 v5 (Int.toNat v2)).2.1.length-0):Nat):Int))-(Int.toNat (rd dT0 v5 (Int.toNat v2)).2.2)):Nat):Int)))≤((((Int.toNat ((((rd dT0 v5 (Int.toNat v2)).2.1.length-0):Nat):Int))-(Int.toNat (rd dT0 v5 (Int.toNat v2)).2.2)):Nat):Int)))) (
           cond (decide ((((List.drop 1 (List.take (Int.toNat (v6.length:Int)) v6)).length:Nat):Int)=0)) (
            cond (decide ((Int.toNat v2)<v5.length)) (
             cond (decide ((Int.toNat v2)<v5.length)) (
              cond (((decide ((Int.toNat v2)<v5.length))&&(decide (0≤(IntKind.wrap .i64 ((rd dT0 v5 (Int.toNat v2)).2.2+(((((Int.toNat (rd dT0 v5 (Int.toNat v2)).2.2)+(Int.toNat (mxI 0 (mnI (rd dT1 v6 0) ((((Int.toNat ((((rd dT0 v5 (Int.toNat v2)).2.1.length-0):Nat):Int))-(Int.toNat (rd dT0 v5 (Int.toNat v2)).2.2)):Nat):Int)))))-(Int.toNat (rd dT0 v5 (Int.toNat v2)).2.2)):Nat):Int))))))&&(decide ((IntKind.wrap .i64 ((rd dT0 v5 (Int.toNat v2)).2.2+(((((Int.toNat (rd dT0 v5 (Int.toNat v2)).2.2)+(Int.toNat (mxI 0 (mnI (rd dT1 v6 0) ((((Int.toNat ((((rd dT0 v5 (Int.toNat v2)).2.1.length-0):Nat):Int))-(Int.toNat (rd dT0 v5 (Int.toNat v2)).2.2)):Nat):Int)))))-(Int.toNat (rd dT0 v5 (Int.toNat v2)).2.2)):Nat):Int)))≤((((rd dT0 v5 (Int.toNat v2)).2.1.length-0):Nat):Int)))) (
               cond ((((decide ((Int.toNat v2)<v5.length))&&(decide ((Int.toNat v2)=(Int.toNat v2))))&&true)&&(decide ((0+(Int.toNat (IntKind.wrap .i64 ((rd dT0 v5 (Int.toNat v2)).2.2+(((((Int.toNat (rd dT0 v5 (Int.toNat v2)).2.2)+(Int.toNat (mxI 0 (mnI (rd dT1 v6 0) ((((Int.toNat ((((rd dT0 v5 (Int.toNat v2)).2.1.length-0):Nat):Int))-(Int.toNat (rd dT0 v5 (Int.toNat v2)).2.2)):Nat):Int)))))-(Int.toNat (rd dT0 v5 (Int.toNat v2)).2.2)):Nat):Int)))))≤(rd dT0 v5 (Int.toNat v2)).2.1.length))) (
                cond (decide ((Int.toNat v2)<(v5.set (Int.toNat v2) ((rd dT0 v5 (Int.toNat v2)).1,(List.take (0+(Int.toNat (IntKind.wrap .i64 ((rd dT0 v5 (Int.toNat v2)).2.2+(((((Int.toNat (rd dT0 v5 (Int.toNat v2)).2.2)+(Int.toNat (mxI 0 (mnI (rd dT1 v6 0) ((((Int.toNat ((((rd dT0 v5 (Int.toNat v2)).2.1.length-0):Nat):Int))-(Int.toNat (rd dT0 v5 (Int.toNat v2)).2.2)):Nat):Int)))))-(Int.toNat (rd dT0 v5 (Int.toNat v2)).2.2)):Nat):Int))))) (rd dT0 v5 (Int.toNat v2)).2.1),(rd dT0 v5 (Int.toNat v2)).2.2)).length)) (
                 cond (decide ((Int.toNat v2)<(v5.set (Int.toNat v2) ((rd dT0 v5 (Int.toNat v2)).1,(List.take (0+(Int.toNat (IntKind.wrap .i64 ((rd dT0 v5 (Int.toNat v2)).2.2+(((((Int.toNat (rd dT0 v5 (Int.toNat v2)).2.2)+(Int.toNat (mxI 0 (mnI (rd dT1 v6 0) ((((Int.toNat ((((rd dT0 v5 (Int.toNat v2)).2.1.length-0):Nat):Int))-(Int.toNat (rd dT0 v5 (Int.toNat v2)).2.2)):Nat):Int)))))-(Int.toNat (rd dT0 v5 (Int.toNat v2)).2.2)):Nat):Int))))) (rd dT0 v5 (Int.toNat v2)).2.1),(rd dT0 v5 (Int.toNat v2)).2.2)).length)) (
                  some (R3.next (((),(),(),v1,(IntKind.wrap .i64 (v2+1)),()),((v3,(),()),(v4,(),()),((v5.set (Int.toNat v2) ((rd dT0 v5 (Int.toNat v2)).1,(List.take (0+(Int.toNat (IntKind.wrap .i64 ((rd dT0 v5 (Int.toNat v2)).2.2+(((((Int.toNat (rd dT0 v5 (Int.toNat v2)).2.2)+(Int.toNat (mxI 0 (mnI (rd dT1 v6 0) ((((Int.toNat ((((rd dT0 v5 (Int.toNat v2)).2.1.length-0):Nat):Int))-(Int.toNat (rd dT0 v5 (Int.toNat v2)).2.2)):Nat):Int)))))-(Int.toNat (rd dT0 v5 (Int.toNat v2)).2.2)):Nat):Int))))) (rd dT0 v5 (Int.toNat v2)).2.1),(rd dT0 v5 (Int.toNat v2)).2.2)).set (Int.toNat v2) ((rd dT0 (v5.set (Int.toNat v2) ((rd dT0 v5 (Int.toNat v2)).1,(List.take (0+(Int.toNat (IntKind.wrap .i64 ((rd dT0 v5 (Int.toNat v2)).2.2+(((((Int.toNat (rd dT0 v5 (Int.toNat v2)).2.2)+(Int.toNat (mxI 0 (mnI (rd dT1 v6 0) ((((Int.toNat ((((rd dT0 v5 (Int.toNat v2)).2.1.length-0):Nat):Int))-(Int.toNat (rd dT0 v5 (Int.toNat v2)).2.2)):Nat):Int)))))-(Int.toNat (rd dT0 v5 (Int.toNat v2)).2.2)):Nat):Int))))) (rd dT0 v5 (Int.toNat v2)).2.1),(rd dT0 v5 (Int.toNat v2)).2.2)) (Int.toNat v2)).1,(rd dT0 (v5.set (Int.toNat v2) ((rd dT0 v5 (Int.toNat v2)).1,(List.take (0+(Int.toNat (IntKind.wrap .i64 ((rd dT0 v5 (Int.toNat v2)).2.2+(((((Int.toNat (rd dT0 v5 (Int.toNat v2)).2.2)+(Int.toNat (mxI 0 (mnI (rd dT1 v6 0) ((((Int.toNat ((((rd dT0 v5 (Int.toNat v2)).2.1.length-0):Nat):Int))-(Int.toNat (rd dT0 v5 (Int.toNat v2)).2.2)):Nat):Int)))))-(Int.toNat (rd dT0 v5 (Int.toNat v2)).2.2)):Nat):Int))))) (rd dT0 v5 (Int.toNat v2)).2.1),(rd dT0 v5 (Int.toNat v2)).2.2)) (Int.toNat v2)).2.1,((((rd dT0 (v5.set (Int.toNat v2) ((rd dT0 v5 (Int.toNat v2)).1,(List.take (0+(Int.toNat (IntKind.wrap .i64 ((rd dT0 v5 (Int.toNat v2)).2.2+(((((Int.toNat (rd dT0 v5 (Int.toNat v2)).2.2)+(Int.toNat (mxI 0 (mnI (rd dT1 v6 0) ((((Int.toNat ((((rd dT0 v5 (Int.toNat v2)).2.1.length-0):Nat):Int))-(Int.toNat (rd dT0 v5 (Int.toNat v2)).2.2)):Nat):Int)))))-(Int.toNat (rd dT0 v5 (Int.toNat v2)).2.2)):Nat):Int))))) (rd dT0 v5 (Int.toNat v2)).2.1),(rd dT0 v5 (Int.toNat v2)).2.2)) (Int.toNat v2)).2.1.length-0):Nat):Int))),((List.drop 1 (List.take (Int.toNat (v6.length:Int)) v6)),()),()),v7,()))) (
                  none)) (
                 none)) (
                none)) (
               none)) (
              none)) (
             none)) (
            cond (decide (0<(((List.drop 1 (List.take (Int.toNat (v6.length:Int)) v6)).length:Nat):Int))) (
             cond ((decide (1≤(((List.drop 1 (List.take (Int.toNat (v6.length:Int)) v6)).length:Nat):Int)))&&(decide ((((List.drop 1 (List.take (Int.toNat (v6.length:Int)) v6)).length:Nat):Int)≤(((List.drop 1 (List.take (Int.toNat (v6.length:Int)) v6)).length:Nat):Int)))) (
              cond (decide ((Int.toNat v2)<v5.length)) (
               cond (decide ((Int.toNat v2)<v5.length)) (
                cond (((decide ((Int.toNat v2)<v5.length))&&(decide (0≤(IntKind.wrap .i64 ((rd dT0 v5 (Int.toNat v2)).2.2+(((((Int.toNat (rd dT0 v5 (Int.toNat v2)).2.2)+(Int.toNat (mxI 0 (mnI (rd dT1 v6 0) ((((Int.toNat ((((rd dT0 v5 (Int.toNat v2)).2.1.length-0):Nat):Int))-(Int.toNat (rd dT0 v5 (Int.toNat v2)).2.2)):Nat):Int)))))-(Int.toNat (rd dT0 v5 (Int.toNat v2)).2.2)):Nat):Int))))))&&(decide ((IntKind.wrap .i64 ((rd dT0 v5 (Int.toNat v2)).2.2+(((((Int.toNat (rd dT0 v5 (Int.toNat v2)).2.2)+(Int.toNat (mxI 0 (mnI (rd dT1 v6 0) ((((Int.toNat ((((rd dT0 v5 (Int.toNat v2)).2.1.length-0):Nat):Int))-(Int.toNat (rd dT0 v5 (Int.toNat v2)).2.2)):Nat):Int)))))-(Int.toNat (rd dT0 v5 (Int.toNat v2)).2.2)):Nat):Int)))≤((((rd dT0 v5 (Int.toNat v2)).2.1.length-0):Nat):Int)))) (
                 cond ((((decide ((Int.toNat v2)<v5.length))&&(decide ((Int.toNat v2)=(Int.toNat v2))))&&true)&&(decide ((0+(Int.toNat (IntKind.wrap .i64 ((rd dT0 v5 (Int.toNat v2)).2.2+(((((Int.toNat (rd dT0 v5 (Int.toNat v2)).2.2)+(Int.toNat (mxI 0 (mnI (rd dT1 v6 0) ((((Int.toNat ((((rd dT0 v5 (Int.toNat v2)).2.1.length-0):Nat):Int))-(Int.toNat (rd dT0 v5 (Int.toNat v2)).2.2)):Nat):Int)))))-(Int.toNat (rd dT0 v5 (Int.toNat v2)).2.2)):Nat):Int)))))≤(rd dT0 v5 (Int.toNat v2)).2.1.length))) (
                  cond (decide ((Int.toNat v2)<(v5.set (Int.toNat v2) ((rd dT0 v5 (Int.toNat v2)).1,(List.take (0+(Int.toNat (IntKind.wrap .i64 ((rd dT0 v5 (Int.toNat v2)).2.2+(((((Int.toNat (rd dT0 v5 (Int.toNat v2)).2.2)+(Int.toNat (mxI 0 (mnI (rd dT1 v6 0) ((((Int.toNat ((((rd dT0 v5 (Int.toNat v2)).2.1.length-0):Nat):Int))-(Int.toNat (rd dT0 v5 (Int.toNat v2)).2.2)):Nat):Int)))))-(Int.toNat (rd dT0 v5 (Int.toNat v2)).2.2)):Nat):Int))))) (rd dT0 v5 (Int.toNat v2)).2.1),(rd dT0 v5 (Int.toNat v2)).2.2)).length)) (
                   cond (decide ((Int.toNat v2)<(v5.set (Int.toNat v2) ((rd dT0 v5 (Int.toNat v2)).1,(List.take (0+(Int.toNat (IntKind.wrap .i64 ((rd dT0 v5 (Int.toNat v2)).2.2+(((((Int.toNat (rd dT0 v5 (Int.toNat v2)).2.2)+(Int.toNat (mxI 0 (mnI (rd dT1 v6 0) ((((Int.toNat ((((rd dT0 v5 (Int.toNat v2)).2.1.length-0):Nat):Int))-(Int.toNat (rd dT0 v5 (Int.toNat v2)).2.2)):Nat):Int)))))-(Int.toNat (rd dT0 v5 (Int.toNat v2)).2.2)):Nat):Int))))) (rd dT0 v5 (Int.toNat v2)).2.1),(rd dT0 v5 (Int.toNat v2)).2.2)).length)) (
                    cond (!(!(decide ((Int.tmod (rd dT1 (List.drop 1 (List.take (Int.toNat (v6.length:Int)) v6)) 0) 2)=0)))) (
                     some (R3.next (((),(),(),v1,(IntKind.wrap .i64 (v2+1)),()),((v3,(),()),(v4,(),()),((v5.set (Int.toNat v2) ((rd dT0 v5 (Int.toNat v2)).1,(List.take (0+(Int.toNat (IntKind.wrap .i64 ((rd dT0 v5 (Int.toNat v2)).2.2+(((((Int.toNat (rd dT0 v5 (Int.toNat v2)).2.2)+(Int.toNat (mxI 0 (mnI (rd dT1 v6 0) ((((Int.toNat ((((rd dT0 v5 (Int.toNat v2)).2.1.length-0):Nat):Int))-(Int.toNat (rd dT0 v5 (Int.toNat v2)).2.2)):Nat):Int)))))-(Int.toNat (rd dT0 v5 (Int.toNat v2)).2.2)):Nat):Int))))) (rd dT0 v5 (Int.toNat v2)).2.1),(rd dT0 v5 (Int.toNat v2)).2.2)).set (Int.toNat v2) ((rd dT0 (v5.set (Int.toNat v2) ((rd dT0 v5 (Int.toNat v2)).1,(List.take (0+(Int.toNat (IntKind.wrap .i64 ((rd dT0 v5 (Int.toNat v2)).2.2+(((((Int.toNat (rd dT0 v5 (Int.toNat v2)).2.2)+(Int.toNat (mxI 0 (mnI (rd dT1 v6 0) ((((Int.toNat ((((rd dT0 v5 (Int.toNat v2)).2.1.length-0):Nat):Int))-(Int.toNat (rd dT0 v5 (Int.toNat v2)).2.2)):Nat):Int)))))-(Int.toNat (rd dT0 v5 (Int.toNat v2)).2.2)):Nat):Int))))) (rd dT0 v5 (Int.toNat v2)).2.1),(rd dT0 v5 (Int.toNat v2)).2.2)) (Int.toNat v2)).1,(rd dT0 (v5.set (Int.toNat v2) ((rd dT0 v5 (Int.toNat v2)).1,(List.take (0+(Int.toNat (IntKind.wrap .i64 ((rd dT0 v5 (Int.toNat v2)).2.2+(((((Int.toNat (rd dT0 v5 (Int.toNat v2)).2.2)+(Int.toNat (mxI 0 (mnI (rd dT1 v6 0) ((((Int.toNat ((((rd dT0 v5 (Int.toNat v2)).2.1.length-0):Nat):Int))-(Int.toNat (rd dT0 v5 (Int.toNat v2)).2.2)):Nat):Int)))))-(Int.toNat (rd dT0 v5 (Int.toNat v2)).2.2)):Nat):Int))))) (rd dT0 v5 (Int.toNat v2)).2.1),(rd dT0 v5 (Int.toNat v2)).2.2)) (Int.toNat v2)).2.1,((((rd dT0 (v5.set (Int.toNat v2) ((rd dT0 v5 (Int.toNat v2)).1,(List.take (0+(Int.toNat (IntKind.wrap .i64 ((rd dT0 v5 (Int.toNat v2)).2.2+(((((Int.toNat (rd dT0 v5 (Int.toNat v2)).2.2)+(Int.toNat (mxI 0 (mnI (rd dT1 v6 0) ((((Int.toNat ((((rd dT0 v5 (Int.toNat v2)).2.1.length-0):Nat):Int))-(Int.toNat (rd dT0 v5 (Int.toNat v2)).2.2)):Nat):Int)))))-(Int.toNat (rd dT0 v5 (Int.toNat v2)).2.2)):Nat):Int))))) (rd dT0 v5 (Int.toNat v2)).2.1),(rd dT0 v5 (Int.toNat v2)).2.2)) (Int.toNat v2)).2.1.length-0):Nat):Int))),((List.drop 1 (List.take (Int.toNat (((List.drop 1 (List.take (Int.toNat (v6.length:Int)) v6)).length:Nat):Int)) (List.drop 1 (List.take (Int.toNat (v6.length:Int)) v6)))),()),()),v7,()))) (
                     ((iter big u20_17 (((),(),(),((Int.toNat v2),(Int.toNat (rd dT0 v5 (Int.toNat v2)).2.2),((Int.toNat (rd dT0 v5 (Int.toNat v2)).2.2)+(Int.toNat (mxI 0 (mnI (rd dT1 v6 0) ((((Int.toNat ((((rd dT0 v5 (Int.toNat v2)).2.1.length-0):Nat):Int))-(Int.toNat (rd dT0 v5 (Int.toNat v2)).2.2)):Nat):Int)))))),(mxI 0 (IntKind.wrap .i64 ((((((Int.toNat (rd dT0 v5 (Int.toNat v2)).2.2)+(Int.toNat (mxI 0 (mnI (rd dT1 v6 0) ((((Int.toNat ((((rd dT0 v5 (Int.toNat v2)).2.1.length-0):Nat):Int))-(Int.toNat (rd dT0 v5 (Int.toNat v2)).2.2)):Nat):Int)))))-(Int.toNat (rd dT0 v5 (Int.toNat v2)).2.2)):Nat):Int)-8))),v1,v2,()),((v3,(),()),(v4,(),()),((v5.set (Int.toNat v2) ((rd dT0 v5 (Int.toNat v2)).1,(List.take (0+(Int.toNat (IntKind.wrap .i64 ((rd dT0 v5 (Int.toNat v2)).2.2+(((((Int.toNat (rd dT0 v5 (Int.toNat v2)).2.2)+(Int.toNat (mxI 0 (mnI (rd dT1 v6 0) ((((Int.toNat ((((rd dT0 v5 (Int.toNat v2)).2.1.length-0):Nat):Int))-(Int.toNat (rd dT0 v5 (Int.toNat v2)).2.2)):Nat):Int)))))-(Int.toNat (rd dT0 v5 (Int.toNat v2)).2.2)):Nat):Int))))) (rd dT0 v5 (Int.toNat v2)).2.1),(rd dT0 v5 (Int.toNat v2)).2.2)).set (Int.toNat v2) ((rd dT0 (v5.set (Int.toNat v2) ((rd dT0 v5 (Int.toNat v2)).1,(List.take (0+(Int.toNat (IntKind.wrap .i64 ((rd dT0 v5 (Int.toNat v2)).2.2+(((((Int.toNat (rd dT0 v5 (Int.toNat v2)).2.2)+(Int.toNat (mxI 0 (mnI (rd dT1 v6 0) ((((Int.toNat ((((rd dT0 v5 (Int.toNat v2)).2.1.length-0):Nat):Int))-(Int.toNat (rd dT0 v5 (Int.toNat v2)).2.2)):Nat):Int)))))-(Int.toNat (rd dT0 v5 (Int.toNat v2)).2.2)):Nat):Int))))) (rd dT0 v5 (Int.toNat v2)).2.1),(rd dT0 v5 (Int.toNat v2)).2.2)) (Int.toNat v2)).1,(rd dT0 (v5.set (Int.toNat v2) ((rd dT0 v5 (Int.toNat v2)).1,(List.take (0+(Int.toNat (IntKind.wrap .i64 ((rd dT0 v5 (Int.toNat v2)).2.2+(((((Int.toNat (rd dT0 v5 (Int.toNat v2)).2.2)+(Int.toNat (mxI 0 (mnI (rd dT1 v6 0) ((((Int.toNat ((((rd dT0 v5 (Int.toNat v2)).2.1.length-0):Nat):Int))-(Int.toNat (rd dT0 v5 (Int.toNat v2)).2.2)):Nat):Int)))))-(Int.toNat (rd dT0 v5 (Int.toNat v2)).2.2)):Nat):Int))))) (rd dT0 v5 (Int.toNat v2)).2.1),(rd dT0 v5 (Int.toNat v2)).2.2)) (Int.toNat v2)).2.1,((((rd dT0 (v5.set (Int.toNat v2) ((rd dT0 v5 (Int.toNat v2)).1,(List.take (0+(Int.toNat (IntKind.wrap .i64 ((rd dT0 v5 (Int.toNat v2)).2.2+(((((Int.toNat (rd dT0 v5 (Int.toNat v2)).2.2)+(Int.toNat (mxI 0 (mnI (rd dT1 v6 0) ((((Int.toNat ((((rd dT0 v5 (Int.toNat v2)).2.1.length-0):Nat):Int))-(Int.toNat (rd dT0 v5 (Int.toNat v2)).2.2)):Nat):Int)))))-(Int.toNat (rd dT0 v5 (Int.toNat v2)).2.2)):Nat):Int))))) (rd dT0 v5 (Int.toNat v2)).2.1),(rd dT0 v5 (Int.toNat v2)).2.2)) (Int.toNat v2)).2.1.length-0):Nat):Int))),((List.drop 1 (List.take (Int.toNat (((List.drop 1 (List.take (Int.toNat (v6.length:Int)) v6)).length:Nat):Int)) (List.drop 1 (List.take (Int.toNat (v6.length:Int)) v6)))),()),()),v7,()))).bind fun r=>match r with
                     | .inl y10=>
                       some (R3.next (((),(),(),y10.1.2.2.2.1,(IntKind.wrap .i64 (y10.1.2.2.2.2.1+1)),()),((y10.2.1.1.1,(),()),(y10.2.1.2.1.1,(),()),y10.2.1.2.2.1,(y10.2.1.2.2.2.1.1,()),()),y10.2.2.1,()))
                     | .inr z11=>
                       some (R3.ret ((),(),())))) (
                    none)) (
                   none)) (
                  none)) (
                 none)) (
                none)) (
               none)) (
              none)) (
             none))) (
           none)) (
          none)) (
         none)))) (
      none)) (
     none)) (
    none)) (
   none)) (
  some (R3.out (((),(),()),((v3,(),()),(v4,(),()),v5,()),v7,())))
noncomputable def u20_6 (z:X20_6):Option (R3 X20_6 Y20_6 Z20_6):=t20_6 z.1.2.2.2.1 z.1.2.2.2.2.1 z.2.1.1.1 z.2.1.2.1.1 z.2.1.2.2.1 z.2.1.2.2.2.1.1 z.2.2.1
noncomputable def f20 (v1:Int)(v2:DT0)(v3:DT4):Option ((Int×DT0)×Unit):=
 ((f1039 v1 v2)).bind fun y4=>
 ((f26 v1 v2)).bind fun y5=>
 cond (!y5.1) (
  some ((y4.1.1,y4.1.2),())) (
  ((iter big u20_6 (((),(),(),(y4.1.2.length:Int),0,()),((0,(),()),(y4.1.1,(),()),y4.1.2,(v3,()),()),[],()))).bind fun r=>match r with
  | .inl y6=>
    some ((y6.2.1.2.1.1,y6.2.1.2.2.1),())
  | .inr z7=>
    none)
end Go.Proofs.Zz
