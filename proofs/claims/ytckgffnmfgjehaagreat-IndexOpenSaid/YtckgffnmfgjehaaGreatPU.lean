/- Pure18a, Pure18b, Pure18c, Pure18d, Pure18e, Pure18f. -/
import Derived.Test.YtckgffnmfgjehaaGreatFG
open Int renaming toNat → ae, tdiv → ba, fdiv → be, tmod → bi
open Go.IntKind renaming wrap → al
open List renaming take → ap, drop → aw, replicate → bj
namespace Go.Proofs.Zz
open Go Go.Sy
set_option linter.unusedVariables false
set_option maxRecDepth 100000
abbrev br:Type:=List (Int×Int×Int×Int×Int)
abbrev aQ:Type:=List (Int×Int×Int)
abbrev JK:Type:=Int×Int×Int×Int×Int×Int×Int×Int×Int×Int×Int×Bool×Int×aQ×br×aQ×Unit
abbrev aR:Type:=List Int
abbrev cZ:Type:=List (Int×aR×Int)
abbrev RC:Type:=Int×Int×Int×Int×Int×Int×Int×Int×Int×Int×Int×Bool×Int×Unit×Unit×Unit×Unit
abbrev ug:Type:=aR×Unit
abbrev bl:Type:=Int×Unit
abbrev DT5:Type:=RC×(aR×aR×aR×aR×aR×Unit)×RC×ug×bl×(Unit×Unit×Unit×Unit×Unit×Unit×Unit×Unit×Unit×Unit×Unit×Unit×Unit×Unit×Unit×Unit×Unit×Unit×Unit×Unit×Unit×Unit×Unit×Unit×Unit×Unit×Unit×Unit×Unit×Unit×Unit×Unit×Unit×Unit×Unit×Unit×Unit×Unit×Unit×Unit×Unit×Unit×Unit×Unit×Unit×Unit×Unit×Unit×Unit×Unit×Unit×Unit×Unit×Unit×Unit×Unit×Unit×Unit×Unit×Unit×Unit×Unit×Unit×Unit×Unit×Unit×Unit×Unit×Unit×Unit×Unit×Unit×Unit×Unit×Unit×Unit×Unit×Unit×Unit×Unit×Unit×Unit×Unit×Unit×Unit×Unit×Unit×Unit×Unit×Unit×Unit×Unit×Unit×Unit×Unit×Unit×Unit×Unit×Unit×Unit×Unit×Unit×Unit×Unit×Unit×Unit×Unit×Unit×Unit×Unit×Unit×Unit×Unit×Unit×Unit×Unit×Unit×Unit×Unit×Unit×Unit×Unit×Unit×Unit×Unit×Unit×Unit×Unit×Unit×Unit×Unit×Unit×Unit×Unit×Unit×Unit×Unit×Unit×Unit×Unit×Unit×Unit×Unit×Unit×Unit×Unit×Unit×Unit×Unit×Unit×Unit×Unit×Unit×Unit×Unit×Unit×Unit×Unit×Unit×Unit×Unit×Unit×Unit×Unit×Unit×Unit×Unit×Unit×Unit×Unit×Unit×Unit×Unit×Unit×Unit×Unit×Unit×Unit×Unit×Unit×Unit×Unit×Unit×Unit×Unit×Unit×Unit×Unit×Unit×Unit×Unit×Unit×Unit×Unit×Unit×Unit×Unit×Unit×Unit×Unit×Unit×Unit×Unit×Unit×Unit×Unit×Unit×Unit×Unit×Unit×Unit×Unit×Unit×Unit×Unit×Unit×Unit×Unit×Unit×Unit×Unit×Unit×Unit×Unit×Unit×Unit×Unit×Unit×Unit×Unit×Unit×Unit×Unit×Unit×Unit×Unit×Unit×Unit)×Unit
abbrev DT7:Type:=(Int×Int×Int×Int×Int×Int×Int×Int×Unit)×bl×bl×bl×bl×(br×Unit)×(Unit×Unit×Unit×Unit×Unit×Unit×Unit×Unit×Unit×Unit×Unit×Unit×Unit×Unit×Unit×Unit×Unit×Unit×Unit×Unit×Unit×Unit×Unit×Unit×Unit×Unit×Unit×Unit×Unit×Unit×Unit×Unit×Unit×Unit×Unit×Unit×Unit×Unit×Unit×Unit×Unit×Unit×Unit×Unit×Unit×Unit×Unit×Unit×Unit×Unit×Unit×Unit×Unit×Unit×Unit×Unit×Unit×Unit×Unit×Unit×Unit×Unit)×Unit
abbrev BN:Type:=List (Int×Int×Int×Int×Int×Int×Int×Int×Bool)
abbrev DT9:Type:=Unit×Unit×Unit×Unit×Unit×Unit×Unit×Unit×Unit×Unit×Unit×Unit×Unit×Unit×Unit×Unit×Unit×Unit×Unit×Unit×Unit×Unit×Unit×Unit×Unit×Unit×Unit×Unit×Unit×Unit×Unit×Unit×Unit×Unit×Unit×Unit×Unit×Unit×Unit×Unit×Unit×Unit×Unit×Unit×Unit×Unit×Unit×Unit×Unit×Unit×Unit×Unit×Unit×Unit×Unit×Unit×Unit×Unit×Unit×Unit×Unit×Unit×Unit×Unit×Unit×Unit×Unit×Unit×Unit×Unit×Unit×Unit×Unit×Unit
abbrev uu:Type:=Int×Int
abbrev yb:Type:=(uu×uu×Int×Int×Int×Int)×(Int×Int×Int×Bool)×Int×aQ×br×aQ
abbrev E8:Type:=Int×Int×Int×Int×Int×Int×Int×Int×Int×Int×Int×Bool×Int×aQ×br×aQ×Int×Int×Unit
abbrev vn:Type:=Int×cZ×Unit
abbrev ct:Type:=Bool×Unit
abbrev W5:Type:=vn×(Int×Int×Int×Int×Int×Int×Int×Int×Unit)×ct×(cZ×Unit)×(Unit×Unit×Unit×Unit×Unit×Unit×Unit×Unit×Unit×Unit×Unit×Unit×Unit×Unit×Unit×Unit×Unit×Unit×Unit×Unit×Unit×Unit×Unit×Unit×Unit×Unit×Unit×Unit×Unit×Unit)×Unit
abbrev pq:Type:=Unit×Unit
abbrev X4:Type:=pq×ct×ug×(Unit×Unit×Unit×Unit×Unit×Unit×Unit×Unit×Unit×Unit×Unit×Unit×Unit×Unit×Unit×Unit×Unit×Unit×Unit×Unit×Unit×Unit×Unit×Unit×Unit×Unit×Unit)×Unit
abbrev sx:Type:=List ((Int×Int×Int)×Int)
abbrev Y1:Type:=Int×Int×Int×Int×Int×Int×Int×Int×Int×Int×Int×Bool×Int×Unit×Unit×Unit×Int×Int×Unit
abbrev D0:Type:=Int×Int×Int×Unit
abbrev IX:Type:=Int×Int×Unit
abbrev zO:Type:=IX×pq×Unit
abbrev l9:Type:=Unit×Unit×Unit
abbrev abY:Type:=Unit×Unit×Unit×Unit×Unit×Unit×Unit×Unit×Unit×Unit×Unit×Unit×Unit×Unit×Unit×Unit×Unit×Unit×Unit×Unit×Unit×Unit×Unit×Unit×Unit×Unit×Unit×Unit×Unit×Unit×Unit×Unit×Unit×Unit×Unit×Unit×Unit×Unit
abbrev abm:Type:=Int×Int×Int×Int×Int×Int×aR×Unit
abbrev Wh:Type:=l9×sx×br×(Int×aR×Int×Unit)×JK×JK×(Int×Int×Int×Int×Int×Unit)×Unit
abbrev LQ:Type:=Int×Unit×Int×Int×Unit
abbrev mE:Type:=bl×Unit
abbrev Lr:Type:=Unit×Unit×Int×Int×Unit
abbrev x5:Type:=aR×Bool×Unit
abbrev xW:Type:=Int×Unit×Unit
abbrev Lu:Type:=(Int×cZ)×Int×Unit
abbrev Pc:Type:=aR×Unit×Int×Int×Unit
abbrev Qi:Type:=(Int×cZ)×Int×Int
abbrev TF:Type:=Unit×br×Int×Int×Unit
abbrev Th:Type:=br×Unit×Int×Int×Unit
abbrev Zs:Type:=Unit×Int×Int×aR×Int×Int×Unit
abbrev YT:Type:=aR×Int×Int×Int×Int×Int×Unit
abbrev Zw:Type:=abm×(aQ×Unit)×D0×D0×Unit
abbrev Wx:Type:=Unit×Unit×Unit×Unit×Unit×Unit
abbrev LI:Type:=RC×RC×Unit
abbrev KP:Type:=aQ×Int×Unit
abbrev SX:Type:=Unit×Unit×Int×Unit
abbrev AP:Type:=JK×Unit
abbrev aaR:Type:=vn×LQ×RC×Y1×pq×bl×(cZ×Unit)×DT9×Unit
abbrev Wc:Type:=abm×(aQ×Unit)×D0×Unit
abbrev aah:Type:=l9×sx×br×(Int×aR×Int×Unit)×JK×JK×Unit
abbrev N4:Type:=bl×aQ×Unit
abbrev ML:Type:=D0×aQ×Unit
abbrev aW:Ty:=.int .i64
abbrev cG:Ty:=.pair aW (.pair aW (.pair aW (.pair aW (.pair aW (.pair aW (.pair aW (.pair aW .bool)))))))
abbrev cR:Ty:=.pair aW (.pair aW aW)
abbrev aZ:Ty:=.pair aW (.pair aW cR)
abbrev yU:Ty:=.int .u8
abbrev bL:Ty:=.pair aW (.pair (.row yU) aW)
abbrev oP:Type:=TF×(bl×bl×Unit)×br×Unit
abbrev wG:Type:=(Unit)×(bl×bl×Unit)×br×Unit
abbrev wQ:Type:=Unit×l9×Unit
noncomputable def GA (v1:br)(v2 v3 v4 v5:Int)(v6:br):Option (R3 oP wG wQ):=
 cond (decide (v3<v2)) (
  cond ((decide (0≤v3))&&(decide (v3<(v1.length:Int)))) (
   cond (decide ((rd aZ v1 (ae v3)).2.2.2.1≤v5)) (
    cond (decide ((rd aZ v1 (ae v3)).2.2.2.2=(-1))) (
     cond ((decide (((v6.length+1) * 40)≤140737488355328))&&(decide ((v6.length+1)≤9223372036854775807))) (
      some (R3.next (((),v1,v2,(al .i64 (v3+1)),()),((v4,()),(v5,()),()),(v6++[((rd aZ v1 (ae v3)).1,(rd aZ v1 (ae v3)).2.1,(rd aZ v1 (ae v3)).2.2.1,(rd aZ v1 (ae v3)).2.2.2.1,(rd aZ v1 (ae v3)).2.2.2.2)]),()))) (
      none)) (
     cond (decide (v4<(rd aZ v1 (ae v3)).2.2.2.2)) (
      cond ((decide (((v6.length+1) * 40)≤140737488355328))&&(decide ((v6.length+1)≤9223372036854775807))) (
       some (R3.next (((),v1,v2,(al .i64 (v3+1)),()),((v4,()),(v5,()),()),(v6++[((rd aZ v1 (ae v3)).1,(rd aZ v1 (ae v3)).2.1,(rd aZ v1 (ae v3)).2.2.1,(rd aZ v1 (ae v3)).2.2.2.1,(rd aZ v1 (ae v3)).2.2.2.2)]),()))) (
       none)) (
      some (R3.next (((),v1,v2,(al .i64 (v3+1)),()),((v4,()),(v5,()),()),v6,()))))) (
    some (R3.next (((),v1,v2,(al .i64 (v3+1)),()),((v4,()),(v5,()),()),v6,())))) (
   none)) (
  some (R3.out ((),((v4,()),(v5,()),()),v6,())))
noncomputable def xq (z:oP):Option (R3 oP wG wQ):=GA z.1.2.1 z.1.2.2.1 z.1.2.2.2.1 z.2.1.1.1 z.2.1.2.1.1 z.2.2.1
noncomputable def f10 (v1:br)(v2 v3:Int):Option (br×Unit):=
 ((iter az xq (((),v1,(v1.length:Int),0,()),((v2,()),(v3,()),()),[],()))).bind fun r=>match r with
 | .inl y4=>
   some (y4.2.2.1,())
 | .inr z5=>
   none
abbrev pM:Type:=TF×mE×br×Unit
abbrev vu:Type:=(Unit)×mE×br×Unit
abbrev vR:Type:=Unit×pq×Unit
noncomputable def Gl (v1:br)(v2 v3 v4:Int)(v5:br):Option (R3 pM vu vR):=
 cond (decide (v3<v2)) (
  cond ((decide (0≤v3))&&(decide (v3<(v1.length:Int)))) (
   cond (decide ((rd aZ v1 (ae v3)).1=v4)) (
    cond ((decide (((v5.length+1) * 40)≤140737488355328))&&(decide ((v5.length+1)≤9223372036854775807))) (
     some (R3.next (((),v1,v2,(al .i64 (v3+1)),()),((v4,()),()),(v5++[((rd aZ v1 (ae v3)).1,(rd aZ v1 (ae v3)).2.1,(rd aZ v1 (ae v3)).2.2.1,(rd aZ v1 (ae v3)).2.2.2.1,(rd aZ v1 (ae v3)).2.2.2.2)]),()))) (
     none)) (
    some (R3.next (((),v1,v2,(al .i64 (v3+1)),()),((v4,()),()),v5,())))) (
   none)) (
  some (R3.out ((),((v4,()),()),v5,())))
noncomputable def wo (z:pM):Option (R3 pM vu vR):=Gl z.1.2.1 z.1.2.2.1 z.1.2.2.2.1 z.2.1.1.1 z.2.2.1
noncomputable def f11 (v1:br)(v2:Int):Option (br×Unit):=
 ((iter az wo (((),v1,(v1.length:Int),0,()),((v2,()),()),[],()))).bind fun r=>match r with
 | .inl y3=>
   some (y3.2.2.1,())
 | .inr z4=>
   none
abbrev PL:Type:=(br×br×Int×Int×Unit)×(Unit)×(Unit)
abbrev VT:Type:=(Unit)×(Unit)×(Unit)
abbrev VF:Type:=ct×(Unit)×(Unit)
noncomputable def aa7 (v1 v2:br)(v3 v4:Int):Option (R3 PL VT VF):=
 cond (decide (v4<v3)) (
  cond ((decide (0≤v4))&&(decide (v4<(v1.length:Int)))) (
   cond ((decide (0≤v4))&&(decide (v4<(v2.length:Int)))) (
    cond (!((decide ((rd aZ v1 (ae v4)).1=(rd aZ v2 (ae v4)).1))&&((decide ((rd aZ v1 (ae v4)).2.1=(rd aZ v2 (ae v4)).2.1))&&((decide ((rd aZ v1 (ae v4)).2.2.1=(rd aZ v2 (ae v4)).2.2.1))&&((decide ((rd aZ v1 (ae v4)).2.2.2.1=(rd aZ v2 (ae v4)).2.2.2.1))&&((decide ((rd aZ v1 (ae v4)).2.2.2.2=(rd aZ v2 (ae v4)).2.2.2.2))&&true)))))) (
     some (R3.ret ((false,()),(),()))) (
     some (R3.next ((v1,v2,v3,(al .i64 (v4+1)),()),(),())))) (
    none)) (
   none)) (
  some (R3.out ((),(),())))
noncomputable def Uz (z:PL):Option (R3 PL VT VF):=aa7 z.1.1 z.1.2.1 z.1.2.2.1 z.1.2.2.2.1
noncomputable def f27 (v1 v2:br):Option ct:=
 cond (!(decide ((v1.length:Int)=(v2.length:Int)))) (
  some (false,())) (
  ((iter az Uz ((v1,v2,(v1.length:Int),0,()),(),()))).bind fun r=>match r with
  | .inl y3=>
    some (true,())
  | .inr z4=>
    some (z4.1.1,()))
noncomputable def f12 (v1 v2:br):Option ct:=
 ((f27 v1 v2)).bind fun y3=>
 some (y3.1,())
noncomputable def f51 (v1 v2 v3:Int):Option ct:=
 cond (decide (v2≤v1)) (
  some ((decide (v1≤v3)),())) (
  some (false,()))
noncomputable def f61 (v1 v2:Int):Option ct:=
 cond (decide (0≤v2)) (
  cond (decide (v2≤32)) (
   cond (decide (0≤v1)) (
    cond (decide (v1<4294967296)) (
     cond (!(decide ((al .i64 (32-v2))<0))) (
      some ((decide ((aG .and .i64 v1 (al .i64 ((al .i64 (1 * ((2:Int) ^ ((min (ae (al .i64 (32-v2))) 64):Nat))))-1)))=0)),())) (
      none)) (
     some (false,()))) (
    some (false,()))) (
   some (false,()))) (
  some (false,()))
noncomputable def f29 (v1 v2:Int):Option bl:=
 ((f61 v1 v2)).bind fun y3=>
 cond (!y3.1) (
  some (0,())) (
  cond (!(decide ((al .i64 (32-v2))<0))) (
   some ((al .i64 (1 * ((2:Int) ^ ((min (ae (al .i64 (32-v2))) 64):Nat)))),())) (
   none))
noncomputable def f90 (v1 v2 v3:Int):Option bl:=
 ((f61 v1 v2)).bind fun y4=>
 cond (!y4.1) (
  some ((-1),())) (
  cond (decide (v3<0)) (
   some ((-1),())) (
   cond (decide (4294967296≤v3)) (
    some ((-1),())) (
    cond (!(decide ((al .i64 (32-v2))<0))) (
     cond (!(decide ((be (aG .xor .i64 v3 v1) ((2:Int) ^ ((min (ae (al .i64 (32-v2))) 64):Nat)))=0))) (
      some ((-1),())) (
      some ((al .i64 (v3-v1)),()))) (
     none))))
noncomputable def f54 (v1 v2 v3 v4:Int):Option ct:=
 ((f61 v1 v2)).bind fun y5=>
 cond y5.1 (
  ((f61 v3 v4)).bind fun y6=>
  cond y6.1 (
   ((f90 v1 v2 v3)).bind fun y7=>
   cond (!(decide (y7.1=(-1)))) (
    some (true,())) (
    ((f90 v3 v4 v1)).bind fun y8=>
    some ((!(decide (y8.1=(-1)))),()))) (
   some (false,()))) (
  some (false,()))
noncomputable def f30 (v1 v2 v3 v4 v5 v6 v7 v8:Int):Option bl:=
 ((f29 v1 v2)).bind fun y9=>
 ((f29 v3 v4)).bind fun y10=>
 cond (decide ((td y9.1 y10.1)=0)) (
  some (0,())) (
  cond (!(decide (y10.1=0))) (
   some ((al .i64 ((al .i64 (ba (al .i64 (y9.1-1)) y10.1))+1)),())) (
   none))
noncomputable def f58 (v1 v2 v3 v4 v5 v6 v7 v8:Int):Option bl:=
 some ((al .i64 ((al .i64 ((al .i64 (v6-v5))+1))-v7)),())
noncomputable def f28 (v1 v2 v3 v4 v5 v6 v7 v8:Int):Option ct:=
 ((f29 v1 v2)).bind fun y9=>
 ((f51 y9.1 1 32)).bind fun y10=>
 cond y10.1 (
  ((f29 v3 v4)).bind fun y11=>
  ((f51 y11.1 1 4)).bind fun y12=>
  cond (!y12.1) (
   some (false,())) (
   ((f54 v1 v2 v3 v4)).bind fun y13=>
   cond (!(!y13.1)) (
    some (false,())) (
    ((f51 v5 1 v6)).bind fun y14=>
    cond y14.1 (
     cond (!(decide (v6≤65535))) (
      some (false,())) (
      ((f51 v7 0 (al .i64 (v6-v5)))).bind fun y15=>
      cond y15.1 (
       ((f51 v8 1 65535)).bind fun y16=>
       cond y16.1 (
        cond (!(decide (v8=0))) (
         cond (!(decide ((al .i64 (ba v7 v8))≤8))) (
          some (false,())) (
          ((f58 v1 v2 v3 v4 v5 v6 v7 v8)).bind fun y17=>
          ((f30 v1 v2 v3 v4 v5 v6 v7 v8)).bind fun y18=>
          cond (!(decide (y18.1≤y17.1))) (
           some (false,())) (
           some (true,())))) (
         none)) (
        some (false,()))) (
       some (false,())))) (
     some (false,()))))) (
  some (false,()))
noncomputable def f31 (v1 v2 v3 v4 v5 v6 v7 v8:Int):Option bl:=
 ((f28 v1 v2 v3 v4 v5 v6 v7 v8)).bind fun y9=>
 cond (!y9.1) (
  some (0,())) (
  ((f58 v1 v2 v3 v4 v5 v6 v7 v8)).bind fun y10=>
  ((f30 v1 v2 v3 v4 v5 v6 v7 v8)).bind fun y11=>
  cond (!(decide (y11.1=0))) (
   some ((al .i64 (ba y10.1 y11.1)),())) (
   none))
noncomputable def f13 (v1 v2 v3 v4 v5 v6 v7 v8 v9:Int):Option ((Int×Int×Int)×Bool×Unit):=
 ((f28 v1 v2 v3 v4 v5 v6 v7 v8)).bind fun y10=>
 cond (!y10.1) (
  some ((0,0,0),false,())) (
  cond (decide (v9<0)) (
   some ((0,0,0),false,())) (
   ((f29 v1 v2)).bind fun y11=>
   cond (decide (y11.1≤v9)) (
    some ((0,0,0),false,())) (
    ((f30 v1 v2 v3 v4 v5 v6 v7 v8)).bind fun y12=>
    ((f31 v1 v2 v3 v4 v5 v6 v7 v8)).bind fun y13=>
    cond (!(decide (y12.1=0))) (
     cond (!(decide (y12.1=0))) (
      some (((al .i64 (ba v9 y12.1)),(al .i64 (v5+(al .i64 ((bi v9 y12.1) * y13.1)))),(al .i64 ((al .i64 ((al .i64 (v5+(al .i64 ((bi v9 y12.1) * y13.1))))+y13.1))-1))),true,())) (
      none)) (
     none))))
noncomputable def f15 (v1 v2 v3 v4 v5 v6 v7 v8 v9 v10:Int):Option bl:=
 ((f28 v1 v2 v3 v4 v5 v6 v7 v8)).bind fun y11=>
 cond (!y11.1) (
  some ((-1),())) (
  cond (decide (v9<0)) (
   some ((-1),())) (
   ((f29 v3 v4)).bind fun y12=>
   cond (decide (y12.1≤v9)) (
    some ((-1),())) (
    cond (decide (v10<v5)) (
     some ((-1),())) (
     cond (decide (v6<v10)) (
      some ((-1),())) (
      ((f30 v1 v2 v3 v4 v5 v6 v7 v8)).bind fun y13=>
      ((f31 v1 v2 v3 v4 v5 v6 v7 v8)).bind fun y14=>
      cond (!(decide (y14.1=0))) (
       ((f13 v1 v2 v3 v4 v5 v6 v7 v8 (al .i64 ((al .i64 (v9 * y13.1))+(al .i64 (ba (al .i64 (v10-v5)) y14.1)))))).bind fun y15=>
       cond (decide (y13.1≤(al .i64 (ba (al .i64 (v10-v5)) y14.1)))) (
        some ((-1),())) (
        cond (!y15.2.1) (
         some ((-1),())) (
         cond ((decide (y15.1.1=0))&&((decide (y15.1.2.1=0))&&((decide (y15.1.2.2=0))&&true))) (
          some ((-1),())) (
          some ((al .i64 ((al .i64 (v9 * y13.1))+(al .i64 (ba (al .i64 (v10-v5)) y14.1)))),()))))) (
       none))))))
noncomputable def f33 (v1 v2 v3 v4 v5 v6 v7 v8:Int):Option bl:=
 ((f28 v1 v2 v3 v4 v5 v6 v7 v8)).bind fun y9=>
 cond (!y9.1) (
  some (0,())) (
  cond (!(decide (v8=0))) (
   some ((al .i64 (ba v7 v8)),())) (
   none))
noncomputable def f16 (v1 v2 v3 v4 v5 v6 v7 v8 v9 v10:Int):Option bl:=
 ((f28 v1 v2 v3 v4 v5 v6 v7 v8)).bind fun y11=>
 cond (!y11.1) (
  some ((-1),())) (
  cond (decide (v9<0)) (
   some ((-1),())) (
   ((f29 v3 v4)).bind fun y12=>
   cond (decide (y12.1≤v9)) (
    some ((-1),())) (
    cond (decide (v10<(al .i64 ((al .i64 (v6-v7))+1)))) (
     some ((-1),())) (
     cond (decide (v6<v10)) (
      some ((-1),())) (
      cond (!(decide (v8=0))) (
       ((f33 v1 v2 v3 v4 v5 v6 v7 v8)).bind fun y13=>
       cond (decide ((al .i64 (ba (al .i64 (v10-(al .i64 ((al .i64 (v6-v7))+1)))) v8))<y13.1)) (
        some ((al .i64 (ba (al .i64 (v10-(al .i64 ((al .i64 (v6-v7))+1)))) v8)),())) (
        some ((-1),()))) (
       none))))))
abbrev oX:Type:=SX×DT7×(Unit)
abbrev wZ:Type:=(Unit)×DT7×(Unit)
abbrev vP:Type:=(Unit)×DT7×(Unit)
noncomputable def FZ (v1 v2 v3 v4 v5 v6 v7 v8 v9 v10 v11 v12 v13:Int)(v14:br):Option (R3 oX wZ vP):=
 cond (decide (0≤v1)) (
  cond ((decide (0≤v1))&&(decide (v1<(v14.length:Int)))) (
   cond (decide ((rd aZ v14 (ae v1)).2.1=v10)) (
    cond (decide ((rd aZ v14 (ae v1)).2.2.1=v13)) (
     cond (decide ((rd aZ v14 (ae v1)).2.2.2.1≤v11)) (
      cond (decide ((rd aZ v14 (ae v1)).2.2.2.2=(-1))) (
       some (R3.ret ((),((v2,v3,v4,v5,v6,v7,v8,v9,()),(v10,()),(v11,()),((rd aZ v14 (ae v1)).1,()),(v13,()),(v14,()),((),(),(),(),(),(),(),(),(),(),(),(),(),(),(),(),(),(),(),(),(),(),(),(),(),(),(),(),(),(),(),(),(),(),(),(),(),(),(),(),(),(),(),(),(),(),(),(),(),(),(),(),(),(),(),(),(),(),(),(),(),()),()),()))) (
       cond (decide (v11<(rd aZ v14 (ae v1)).2.2.2.2)) (
        some (R3.ret ((),((v2,v3,v4,v5,v6,v7,v8,v9,()),(v10,()),(v11,()),((rd aZ v14 (ae v1)).1,()),(v13,()),(v14,()),((),(),(),(),(),(),(),(),(),(),(),(),(),(),(),(),(),(),(),(),(),(),(),(),(),(),(),(),(),(),(),(),(),(),(),(),(),(),(),(),(),(),(),(),(),(),(),(),(),(),(),(),(),(),(),(),(),(),(),(),(),()),()),()))) (
        some (R3.next (((),(),(al .i64 (v1-1)),()),((v2,v3,v4,v5,v6,v7,v8,v9,()),(v10,()),(v11,()),(v12,()),(v13,()),(v14,()),((),(),(),(),(),(),(),(),(),(),(),(),(),(),(),(),(),(),(),(),(),(),(),(),(),(),(),(),(),(),(),(),(),(),(),(),(),(),(),(),(),(),(),(),(),(),(),(),(),(),(),(),(),(),(),(),(),(),(),(),(),()),()),()))))) (
      some (R3.next (((),(),(al .i64 (v1-1)),()),((v2,v3,v4,v5,v6,v7,v8,v9,()),(v10,()),(v11,()),(v12,()),(v13,()),(v14,()),((),(),(),(),(),(),(),(),(),(),(),(),(),(),(),(),(),(),(),(),(),(),(),(),(),(),(),(),(),(),(),(),(),(),(),(),(),(),(),(),(),(),(),(),(),(),(),(),(),(),(),(),(),(),(),(),(),(),(),(),(),()),()),())))) (
     some (R3.next (((),(),(al .i64 (v1-1)),()),((v2,v3,v4,v5,v6,v7,v8,v9,()),(v10,()),(v11,()),(v12,()),(v13,()),(v14,()),((),(),(),(),(),(),(),(),(),(),(),(),(),(),(),(),(),(),(),(),(),(),(),(),(),(),(),(),(),(),(),(),(),(),(),(),(),(),(),(),(),(),(),(),(),(),(),(),(),(),(),(),(),(),(),(),(),(),(),(),(),()),()),())))) (
    some (R3.next (((),(),(al .i64 (v1-1)),()),((v2,v3,v4,v5,v6,v7,v8,v9,()),(v10,()),(v11,()),(v12,()),(v13,()),(v14,()),((),(),(),(),(),(),(),(),(),(),(),(),(),(),(),(),(),(),(),(),(),(),(),(),(),(),(),(),(),(),(),(),(),(),(),(),(),(),(),(),(),(),(),(),(),(),(),(),(),(),(),(),(),(),(),(),(),(),(),(),(),()),()),())))) (
   none)) (
  some (R3.out ((),((v2,v3,v4,v5,v6,v7,v8,v9,()),(v10,()),(v11,()),(v12,()),(v13,()),(v14,()),((),(),(),(),(),(),(),(),(),(),(),(),(),(),(),(),(),(),(),(),(),(),(),(),(),(),(),(),(),(),(),(),(),(),(),(),(),(),(),(),(),(),(),(),(),(),(),(),(),(),(),(),(),(),(),(),(),(),(),(),(),()),()),())))
noncomputable def vq (z:oX):Option (R3 oX wZ vP):=FZ z.1.2.2.1 z.2.1.1.1 z.2.1.1.2.1 z.2.1.1.2.2.1 z.2.1.1.2.2.2.1 z.2.1.1.2.2.2.2.1 z.2.1.1.2.2.2.2.2.1 z.2.1.1.2.2.2.2.2.2.1 z.2.1.1.2.2.2.2.2.2.2.1 z.2.1.2.1.1 z.2.1.2.2.1.1 z.2.1.2.2.2.1.1 z.2.1.2.2.2.2.1.1 z.2.1.2.2.2.2.2.1.1
noncomputable def f14 (v1 v2 v3 v4 v5 v6 v7 v8:Int)(v9:br)(v10 v11 v12:Int):Option bl:=
 ((f15 v1 v2 v3 v4 v5 v6 v7 v8 v10 v11)).bind fun y13=>
 cond (!(decide (y13.1=(-1)))) (
  some (y13.1,())) (
  ((f16 v1 v2 v3 v4 v5 v6 v7 v8 v10 v11)).bind fun y14=>
  cond (decide (y14.1=(-1))) (
   some ((-1),())) (
   ((iter az vq (((),(),(al .i64 ((v9.length:Int)-1)),()),((v1,v2,v3,v4,v5,v6,v7,v8,()),(v10,()),(v12,()),(0,()),(y14.1,()),(v9,()),((),(),(),(),(),(),(),(),(),(),(),(),(),(),(),(),(),(),(),(),(),(),(),(),(),(),(),(),(),(),(),(),(),(),(),(),(),(),(),(),(),(),(),(),(),(),(),(),(),(),(),(),(),(),(),(),(),(),(),(),(),()),()),()))).bind fun r=>match r with
   | .inl y15=>
     some ((-1),())
   | .inr z16=>
     some (z16.2.1.2.2.2.1.1,())))
abbrev MU:Type:=(Int×cZ×Int×Int×Unit)×(Unit)×(Unit)
abbrev Uy:Type:=bl×(Unit)×(Unit)
abbrev UR:Type:=Unit×Unit×Unit
noncomputable def P9 (v1:Int)(v2:cZ)(v3 v4:Int):Option (R3 MU Uy UR):=
 cond (decide (v4<v3)) (
  cond ((decide (0≤v4))&&(decide (v4<(v2.length:Int)))) (
   some (R3.next (((al .i64 (v1+(((rd bL v2 (ae v4)).2.1.length:Nat):Int))),v2,v3,(al .i64 (v4+1)),()),(),()))) (
   none)) (
  some (R3.out ((v1,()),(),())))
noncomputable def yz (z:MU):Option (R3 MU Uy UR):=P9 z.1.1 z.1.2.1 z.1.2.2.1 z.1.2.2.2.1
noncomputable def f63 (v1:cZ):Option bl:=
 ((iter az yz ((0,v1,(v1.length:Int),0,()),(),()))).bind fun r=>match r with
 | .inl y2=>
   some (y2.1.1,())
 | .inr z3=>
   none
abbrev QW:Type:=(Unit×Int×cZ×Int×Int×Unit)×(vn×Unit)×(Unit)
abbrev VK:Type:=pq×(vn×Unit)×(Unit)
abbrev V6:Type:=ct×(Unit)×(Unit)
noncomputable def Qf (v1:Int)(v2:cZ)(v3 v4 v5:Int)(v6:cZ):Option (R3 QW VK V6):=
 cond (decide (v4<v3)) (
  cond ((decide (0≤v4))&&(decide (v4<(v2.length:Int)))) (
   cond (decide ((rd bL v2 (ae v4)).1≤v1)) (
    some (R3.ret ((false,()),(),()))) (
    cond (decide (1073741824<(rd bL v2 (ae v4)).1)) (
     some (R3.ret ((false,()),(),()))) (
     cond (decide ((rd bL v2 (ae v4)).2.2<0)) (
      some (R3.ret ((false,()),(),()))) (
      cond (decide ((((rd bL v2 (ae v4)).2.1.length:Nat):Int)<(rd bL v2 (ae v4)).2.2)) (
       some (R3.ret ((false,()),(),()))) (
       some (R3.next (((),(rd bL v2 (ae v4)).1,v2,v3,(al .i64 (v4+1)),()),((v5,v6,()),()),()))))))) (
   none)) (
  some (R3.out (((),()),((v5,v6,()),()),())))
noncomputable def xp (z:QW):Option (R3 QW VK V6):=Qf z.1.2.1 z.1.2.2.1 z.1.2.2.2.1 z.1.2.2.2.2.1 z.2.1.1.1 z.2.1.1.2.1
noncomputable def f34 (v1:Int)(v2:cZ):Option ct:=
 ((iter az xp (((),0,v2,(v2.length:Int),0,()),((v1,v2,()),()),()))).bind fun r=>match r with
 | .inl y3=>
   cond (decide (0≤y3.2.1.1.1)) (
    cond (decide (y3.2.1.1.1≤65536)) (
     cond (decide ((y3.2.1.1.2.1.length:Int)≤12)) (
      ((f63 y3.2.1.1.2.1)).bind fun y5=>
      some ((decide (y5.1≤y3.2.1.1.1)),())) (
      some (false,()))) (
     some (false,()))) (
    some (false,()))
 | .inr z4=>
   some (z4.1.1,())
noncomputable def f133 (v1:Int):Option ct:=
 some ((decide (v1<128)),())
abbrev me:Type:=Pc×(Unit)×(Unit)
abbrev tC:Type:=(Unit)×(Unit)×(Unit)
abbrev tT:Type:=bl×(Unit)×(Unit)
noncomputable def nD (v1:aR)(v2 v3:Int):Option (R3 me tC tT):=
 cond (decide (v3<v2)) (
  cond ((decide (0≤v3))&&(decide (v3<(v1.length:Int)))) (
   ((f133 (rd yU v1 (ae v3)))).bind fun y4=>
   cond y4.1 (
    some (R3.ret ((v3,()),(),()))) (
    some (R3.next ((v1,(),v2,(al .i64 (v3+1)),()),(),())))) (
   none)) (
  some (R3.out ((),(),())))
noncomputable def eo (z:me):Option (R3 me tC tT):=nD z.1.1 z.1.2.2.1 z.1.2.2.2.1
noncomputable def f97 (v1:aR):Option ct:=
 cond (decide ((v1.length:Int)<6)) (
  ((iter az eo ((v1,(),(v1.length:Int),0,()),(),()))).bind fun r=>match r with
  | .inl y2=>
    some (true,())
  | .inr z3=>
    some ((!(decide (0≤z3.1.1))),())) (
  some (false,()))
noncomputable def f120 (v1:Int):Option ct:=
 cond (decide (0≤v1)) (
  some ((decide (v1≤1099511627776)),())) (
  some (false,()))
abbrev Jq:Type:=(Int×Int×aR×Int×Int×Unit)×(Unit)×(Unit)
abbrev Nf:Type:=(Unit)×(Unit)×(Unit)
abbrev Nb:Type:=IX×(Unit)×(Unit)
noncomputable def MR (v1 v2:Int)(v3:aR)(v4 v5:Int):Option (R3 Jq Nf Nb):=
 cond (decide (v5<v4)) (
  cond ((decide (0≤v5))&&(decide (v5<(v3.length:Int)))) (
   cond (!(decide ((al .i64 (7 * v5))<0))) (
    cond (decide (128≤(rd yU v3 (ae v5)))) (
     some (R3.next ((v1,(aG .or .i64 v2 (al .i64 ((al .i64 (aG .andNot .u8 (rd yU v3 (ae v5)) 128)) * ((2:Int) ^ ((min (ae (al .i64 (7 * v5))) 64):Nat))))),v3,v4,(al .i64 (v5+1)),()),(),()))) (
     cond (decide ((rd yU v3 (ae v5))=0)) (
      cond (decide (0<v5)) (
       some (R3.out ((),(),()))) (
       ((f120 (aG .or .i64 v2 (al .i64 ((al .i64 (aG .andNot .u8 (rd yU v3 (ae v5)) 128)) * ((2:Int) ^ ((min (ae (al .i64 (7 * v5))) 64):Nat))))))).bind fun y6=>
       cond (!y6.1) (
        some (R3.out ((),(),()))) (
        some (R3.ret (((aG .or .i64 v2 (al .i64 ((al .i64 (aG .andNot .u8 (rd yU v3 (ae v5)) 128)) * ((2:Int) ^ ((min (ae (al .i64 (7 * v5))) 64):Nat))))),(al .i64 ((al .i64 (v1+v5))+1)),()),(),()))))) (
      ((f120 (aG .or .i64 v2 (al .i64 ((al .i64 (aG .andNot .u8 (rd yU v3 (ae v5)) 128)) * ((2:Int) ^ ((min (ae (al .i64 (7 * v5))) 64):Nat))))))).bind fun y7=>
      cond (!y7.1) (
       some (R3.out ((),(),()))) (
       some (R3.ret (((aG .or .i64 v2 (al .i64 ((al .i64 (aG .andNot .u8 (rd yU v3 (ae v5)) 128)) * ((2:Int) ^ ((min (ae (al .i64 (7 * v5))) 64):Nat))))),(al .i64 ((al .i64 (v1+v5))+1)),()),(),())))))) (
    none)) (
   none)) (
  some (R3.out ((),(),())))
noncomputable def vC (z:Jq):Option (R3 Jq Nf Nb):=MR z.1.1 z.1.2.1 z.1.2.2.1 z.1.2.2.2.1 z.1.2.2.2.2.1
noncomputable def f98 (v1:aR)(v2:Int):Option IX:=
 cond (decide (v2<0)) (
  some (0,(-1),())) (
  cond (decide ((v1.length:Int)<v2)) (
   some (0,(-1),())) (
   cond (((decide (0≤v2))&&(decide (v2≤(td (v1.length:Int) (al .i64 (v2+(td 6 (al .i64 ((v1.length:Int)-v2)))))))))&&(decide ((td (v1.length:Int) (al .i64 (v2+(td 6 (al .i64 ((v1.length:Int)-v2))))))≤(v1.length:Int)))) (
    ((iter az vC ((v2,0,(aw (ae v2) (ap (ae (td (v1.length:Int) (al .i64 (v2+(td 6 (al .i64 ((v1.length:Int)-v2))))))) v1)),(((aw (ae v2) (ap (ae (td (v1.length:Int) (al .i64 (v2+(td 6 (al .i64 ((v1.length:Int)-v2))))))) v1)).length:Nat):Int),0,()),(),()))).bind fun r=>match r with
    | .inl y3=>
      some (0,(-1),())
    | .inr z4=>
      some (z4.1.1,z4.1.2.1,())) (
    none)))
abbrev IE:Type:=(aR×aR×Int×Int×Unit)×(Unit)×(Unit)
abbrev OR:Type:=(Unit)×(Unit)×(Unit)
abbrev OJ:Type:=ct×(Unit)×(Unit)
noncomputable def Ht (v1 v2:aR)(v3 v4:Int):Option (R3 IE OR OJ):=
 cond (decide (v4<v3)) (
  cond ((decide (0≤v4))&&(decide (v4<(v1.length:Int)))) (
   cond ((decide (0≤v4))&&(decide (v4<(v2.length:Int)))) (
    cond (!(decide ((rd yU v1 (ae v4))=(rd yU v2 (ae v4))))) (
     some (R3.ret ((false,()),(),()))) (
     some (R3.next ((v1,v2,v3,(al .i64 (v4+1)),()),(),())))) (
    none)) (
   none)) (
  some (R3.out ((),(),())))
noncomputable def oY (z:IE):Option (R3 IE OR OJ):=Ht z.1.1 z.1.2.1 z.1.2.2.1 z.1.2.2.2.1
noncomputable def f134 (v1 v2:aR):Option ct:=
 cond (!(decide ((v1.length:Int)=(v2.length:Int)))) (
  some (false,())) (
  ((iter az oY ((v1,v2,(v1.length:Int),0,()),(),()))).bind fun r=>match r with
  | .inl y3=>
    some (true,())
  | .inr z4=>
    some (z4.1.1,()))
noncomputable def f135 (v1:Int):Option ug:=
 some ([(al .u8 (be v1 16777216)),(al .u8 (be v1 65536)),(al .u8 (be v1 256)),(al .u8 v1)],())
abbrev lI:Type:=(Unit×aR×Int×Int×Unit)×mE×(Unit)
abbrev kW:Type:=(Unit×Int×aR×Int×Int×Int×Unit)×mE×(Unit)
abbrev qj:Type:=(Unit×aR×Int×Int×Unit)×mE×(Unit)
abbrev pX:Type:=Unit×pq×Unit
noncomputable def j8 (v1:Int)(v2:aR)(v3 v4 v5 v6:Int):Option (R3 kW qj pX):=
 cond (decide (v5<8)) (
  cond (!(decide ((al .i64 (7-v5))<0))) (
   cond (!((decide ((be v6 2147483648)=1)) == (decide ((aG .and .u8 (be v1 ((2:Int) ^ ((min (ae (al .i64 (7-v5))) 8):Nat))) 1)=1)))) (
    some (R3.next (((),v1,v2,v3,v4,(al .i64 (v5+1)),()),(((aG .xor .u32 (al .u32 (v6 * 2)) 79764919),()),()),()))) (
    some (R3.next (((),v1,v2,v3,v4,(al .i64 (v5+1)),()),(((al .u32 (v6 * 2)),()),()),())))) (
   none)) (
  some (R3.out (((),v2,v3,v4,()),((v6,()),()),())))
noncomputable def dH (z:kW):Option (R3 kW qj pX):=j8 z.1.2.1 z.1.2.2.1 z.1.2.2.2.1 z.1.2.2.2.2.1 z.1.2.2.2.2.2.1 z.2.1.1.1
abbrev pT:Type:=(Unit)×mE×(Unit)
abbrev p6:Type:=Unit×pq×Unit
noncomputable def lg (v1:aR)(v2 v3 v4:Int):Option (R3 lI pT p6):=
 cond (decide (v3<v2)) (
  cond ((decide (0≤v3))&&(decide (v3<(v1.length:Int)))) (
   ((iter az dH (((),(rd yU v1 (ae v3)),v1,v2,v3,0,()),((v4,()),()),()))).bind fun r=>match r with
   | .inl y5=>
     some (R3.next (((),y5.1.2.1,y5.1.2.2.1,(al .i64 (y5.1.2.2.2.1+1)),()),((y5.2.1.1.1,()),()),()))
   | .inr z6=>
     some (R3.ret ((),((),()),()))) (
   none)) (
  some (R3.out ((),((v4,()),()),())))
noncomputable def eS (z:lI):Option (R3 lI pT p6):=lg z.1.2.1 z.1.2.2.1 z.1.2.2.2.1 z.2.1.1.1
noncomputable def f172 (v1:Int)(v2:aR):Option bl:=
 ((iter az eS (((),v2,(v2.length:Int),0,()),(((aG .xor .u32 v1 4294967295),()),()),()))).bind fun r=>match r with
 | .inl y3=>
   some ((aG .xor .u32 y3.2.1.1.1 4294967295),())
 | .inr z4=>
   none
noncomputable def f136 (v1:aR):Option bl:=
 ((f172 0 v1)).bind fun y2=>
 some (y2.1,())
noncomputable def f99 (v1:aR):Option x5:=
 cond (decide ((al .i64 ((v1.length:Int)-4))<0)) (
  some ([],false,())) (
  cond (((decide (0≤(al .i64 ((v1.length:Int)-4))))&&(decide ((al .i64 ((v1.length:Int)-4))≤(v1.length:Int))))&&(decide ((v1.length:Int)≤(v1.length:Int)))) (
   cond ((decide (0≤(al .i64 ((v1.length:Int)-4))))&&(decide ((al .i64 ((v1.length:Int)-4))≤(v1.length:Int)))) (
    ((f136 (aw 0 (ap (ae (al .i64 ((v1.length:Int)-4))) v1)))).bind fun y2=>
    ((f135 y2.1)).bind fun y3=>
    ((f134 (aw (ae (al .i64 ((v1.length:Int)-4))) (ap (ae (v1.length:Int)) v1)) y3.1)).bind fun y4=>
    cond (!y4.1) (
     some ([],false,())) (
     cond ((decide (0≤(al .i64 ((v1.length:Int)-4))))&&(decide ((al .i64 ((v1.length:Int)-4))≤(v1.length:Int)))) (
      ((ed (aw 0 (ap (ae (al .i64 ((v1.length:Int)-4))) v1)))).bind fun y5=>
      some (y5.1,true,())) (
      none))) (
    none)) (
   none))
noncomputable def f70 (v1:aR)(v2:Int):Option ((Int×aR)×Int×Int×Unit):=
 cond (decide (v2<0)) (
  some ((0,[]),0,2,())) (
  cond (decide ((v1.length:Int)<v2)) (
   some ((0,[]),0,2,())) (
   cond (decide (v2=(v1.length:Int))) (
    some ((0,[]),0,4,())) (
    cond (((decide (0≤(al .i64 (v2+1))))&&(decide ((al .i64 (v2+1))≤(v1.length:Int))))&&(decide ((v1.length:Int)≤(v1.length:Int)))) (
     ((f97 (aw (ae (al .i64 (v2+1))) (ap (ae (v1.length:Int)) v1)))).bind fun y3=>
     cond y3.1 (
      some ((0,[]),0,4,())) (
      ((f98 v1 (al .i64 (v2+1)))).bind fun y4=>
      cond (decide (y4.2.1=(-1))) (
       some ((0,[]),0,2,())) (
       cond (decide (1000<y4.1)) (
        some ((0,[]),0,2,())) (
        cond (decide ((v1.length:Int)<(al .i64 ((al .i64 (y4.2.1+y4.1))+4)))) (
         some ((0,[]),0,4,())) (
         cond ((((decide (0≤v2))&&(decide (v2≤(al .i64 ((al .i64 (y4.2.1+y4.1))+4)))))&&(decide ((al .i64 ((al .i64 (y4.2.1+y4.1))+4))≤(al .i64 ((al .i64 (y4.2.1+y4.1))+4)))))&&(decide ((al .i64 ((al .i64 (y4.2.1+y4.1))+4))≤(v1.length:Int)))) (
          ((f99 (aw (ae v2) (ap (ae (al .i64 ((al .i64 (y4.2.1+y4.1))+4))) v1)))).bind fun y5=>
          cond (!y5.2.1) (
           some ((0,[]),0,3,())) (
           cond (decide (0<(y5.1.length:Int))) (
            cond (((decide (0≤(al .i64 (y4.2.1-v2))))&&(decide ((al .i64 (y4.2.1-v2))≤(y5.1.length:Int))))&&(decide ((y5.1.length:Int)≤(y5.1.length:Int)))) (
             some (((al .i64 (rd yU y5.1 0)),(aw (ae (al .i64 (y4.2.1-v2))) (ap (ae (y5.1.length:Int)) y5.1))),(al .i64 ((al .i64 (y4.2.1+y4.1))+4)),0,())) (
             none)) (
            none))) (
          none)))))) (
     none))))
noncomputable def f107 (v1 v2 v3:Int):Option ct:=
 cond (decide (v2≤v1)) (
  some ((decide (v1≤v3)),())) (
  some (false,()))
noncomputable def f106 (v1 v2 v3:Int)(v4:Bool):Option ct:=
 ((f107 v1 1 8)).bind fun y5=>
 cond y5.1 (
  ((f107 v2 1 1048576)).bind fun y6=>
  cond y6.1 (
   ((f107 v3 0 1048576)).bind fun y7=>
   some (y7.1,())) (
   some (false,()))) (
  some (false,()))
noncomputable def f145 (v1 v2 v3 v4 v5 v6:Int):Option ct:=
 cond (decide (v1<(al .i64 (v4+v5)))) (
  some ((decide (v4<(al .i64 (v1+v2)))),())) (
  some (false,()))
noncomputable def f146 (v1 v2 v3 v4:Int):Option ct:=
 cond (decide (0≤v1)) (
  cond (decide (1≤v2)) (
   cond (decide (v1<v4)) (
    cond (decide (v2≤(al .i64 (v4-v1)))) (
     cond (decide (0≤v3)) (
      some ((decide (v3<2)),())) (
      some (false,()))) (
     some (false,()))) (
    some (false,()))) (
   some (false,()))) (
  some (false,()))
abbrev AH:Type:=(aQ×Int×aQ×Int×Int×Unit)×(Unit)×(Unit)
abbrev kX:Type:=(aQ×Unit×Int×Int×Unit)×(D0×Unit)×(Unit)
abbrev pW:Type:=(Unit)×(D0×Unit)×(Unit)
abbrev q8:Type:=bl×(D0×Unit)×(Unit)
noncomputable def kP (v1:aQ)(v2 v3 v4 v5 v6:Int):Option (R3 kX pW q8):=
 cond (decide (v3<v2)) (
  cond ((decide (0≤v3))&&(decide (v3<(v1.length:Int)))) (
   ((f145 v4 v5 v6 (rd cR v1 (ae v3)).1 (rd cR v1 (ae v3)).2.1 (rd cR v1 (ae v3)).2.2)).bind fun y7=>
   cond y7.1 (
    some (R3.ret ((v3,()),((v4,v5,v6,()),()),()))) (
    some (R3.next ((v1,(),v2,(al .i64 (v3+1)),()),((v4,v5,v6,()),()),())))) (
   none)) (
  some (R3.out ((),((v4,v5,v6,()),()),())))
noncomputable def fA (z:kX):Option (R3 kX pW q8):=kP z.1.1 z.1.2.2.1 z.1.2.2.2.1 z.2.1.1.1 z.2.1.1.2.1 z.2.1.1.2.2.1
abbrev PK:Type:=(Unit)×(Unit)×(Unit)
abbrev NW:Type:=ct×(Unit)×(Unit)
noncomputable def vM (v1:aQ)(v2:Int)(v3:aQ)(v4 v5:Int):Option (R3 AH PK NW):=
 cond (decide (v5<v4)) (
  cond ((decide (0≤v5))&&(decide (v5<(v3.length:Int)))) (
   ((f146 (rd cR v3 (ae v5)).1 (rd cR v3 (ae v5)).2.1 (rd cR v3 (ae v5)).2.2 v2)).bind fun y6=>
   cond (!y6.1) (
    some (R3.ret ((false,()),(),()))) (
    cond ((decide (0≤v5))&&(decide (v5≤(v1.length:Int)))) (
     ((iter az fA (((aw 0 (ap (ae v5) v1)),(),(((aw 0 (ap (ae v5) v1)).length:Nat):Int),0,()),(((rd cR v3 (ae v5)).1,(rd cR v3 (ae v5)).2.1,(rd cR v3 (ae v5)).2.2,()),()),()))).bind fun r=>match r with
     | .inl y7=>
       some (R3.next ((v1,v2,v3,v4,(al .i64 (v5+1)),()),(),()))
     | .inr z8=>
       cond (decide (0≤z8.1.1)) (
        some (R3.ret ((false,()),(),()))) (
        some (R3.next ((v1,v2,v3,v4,(al .i64 (v5+1)),()),(),())))) (
     none))) (
   none)) (
  some (R3.out ((),(),())))
noncomputable def nq (z:AH):Option (R3 AH PK NW):=vM z.1.1 z.1.2.1 z.1.2.2.1 z.1.2.2.2.1 z.1.2.2.2.2.1
noncomputable def f108 (v1:aQ)(v2:Int):Option ct:=
 cond (decide (v2<0)) (
  some (false,())) (
  cond (decide (4<v2)) (
   some (false,())) (
   cond (decide (3<(v1.length:Int))) (
    some (false,())) (
    ((iter az nq ((v1,v2,v1,(v1.length:Int),0,()),(),()))).bind fun r=>match r with
    | .inl y3=>
      some (true,())
    | .inr z4=>
      some (z4.1.1,()))))
noncomputable def f109 (v1 v2 v3 v4 v5 v6 v7 v8 v9 v10 v11:Int)(v12:Bool)(v13:Int)(v14:aQ)(v15:br)(v16:aQ):Option bl:=
 ((f29 v3 v4)).bind fun y17=>
 some (y17.1,())
noncomputable def f148 (v1 v2 v3 v4 v5 v6 v7 v8 v9 v10:Int):Option ((Int×Int×Int)×Bool×Unit):=
 cond (decide (v9<0)) (
  some ((0,0,0),false,())) (
  ((f29 v3 v4)).bind fun y11=>
  cond (decide (y11.1≤v9)) (
   some ((0,0,0),false,())) (
   cond (decide (v10<0)) (
    some ((0,0,0),false,())) (
    ((f33 v1 v2 v3 v4 v5 v6 v7 v8)).bind fun y12=>
    cond (decide (y12.1≤v10)) (
     some ((0,0,0),false,())) (
     some ((v9,(al .i64 ((al .i64 ((al .i64 (v6-v7))+1))+(al .i64 (v10 * v8)))),(al .i64 ((al .i64 ((al .i64 ((al .i64 ((al .i64 (v6-v7))+1))+(al .i64 (v10 * v8))))+v8))-1))),true,())))))
noncomputable def f177 (v1 v2 v3 v4:Int):Option ct:=
 cond (decide (0≤v1)) (
  cond (decide (v1≤4)) (
   cond (decide (1≤v2)) (
    cond (decide (v2≤4)) (
     cond (decide (v1≤v4)) (
      some ((decide (v4<(al .i64 (v1+v2)))),())) (
      some (false,()))) (
     some (false,()))) (
    some (false,()))) (
   some (false,()))) (
  some (false,()))
abbrev kS:Type:=(aQ×Unit×Int×Int×Unit)×mE×(Unit)
abbrev rp:Type:=(Unit)×mE×(Unit)
abbrev qW:Type:=bl×mE×(Unit)
noncomputable def kO (v1:aQ)(v2 v3 v4:Int):Option (R3 kS rp qW):=
 cond (decide (v3<v2)) (
  cond ((decide (0≤v3))&&(decide (v3<(v1.length:Int)))) (
   ((f177 (rd cR v1 (ae v3)).1 (rd cR v1 (ae v3)).2.1 (rd cR v1 (ae v3)).2.2 v4)).bind fun y5=>
   cond y5.1 (
    some (R3.ret ((v3,()),((v4,()),()),()))) (
    some (R3.next ((v1,(),v2,(al .i64 (v3+1)),()),((v4,()),()),())))) (
   none)) (
  some (R3.out ((),((v4,()),()),())))
noncomputable def e9 (z:kS):Option (R3 kS rp qW):=kO z.1.1 z.1.2.2.1 z.1.2.2.2.1 z.2.1.1.1
noncomputable def f149 (v1:aQ)(v2:Int):Option bl:=
 ((iter az e9 ((v1,(),(v1.length:Int),0,()),((v2,()),()),()))).bind fun r=>match r with
 | .inl y3=>
   some ((-1),())
 | .inr z4=>
   some (z4.1.1,())
noncomputable def f150 (v1 v2 v3 v4:Int):Option ct:=
 cond (decide (v3<v1)) (
  some (true,())) (
  cond (decide (v1=v3)) (
   some ((decide (v4<v2)),())) (
   some (false,())))
abbrev r9:Type:=(Unit×Unit×br×Int×Int×Unit)×(JK×(List uu)×Unit)×(Unit)
abbrev B8:Type:=pq×AP×(Unit)
abbrev AL:Type:=ct×(Unit)×(Unit)
noncomputable def F4 (v1:br)(v2 v3 v4 v5 v6 v7 v8 v9 v10 v11 v12 v13 v14:Int)(v15:Bool)(v16:Int)(v17:aQ)(v18:br)(v19:aQ)(v20:(List uu)):Option (R3 r9 B8 AL):=
 cond (decide (v3<v2)) (
  cond ((decide (0≤v3))&&(decide (v3<(v1.length:Int)))) (
   ((f13 v4 v5 v6 v7 v8 v9 v10 v11 (rd aZ v1 (ae v3)).1)).bind fun y21=>
   ((f148 v4 v5 v6 v7 v8 v9 v10 v11 (rd aZ v1 (ae v3)).2.1 (rd aZ v1 (ae v3)).2.2.1)).bind fun y22=>
   cond (!y21.2.1) (
    some (R3.ret ((false,()),(),()))) (
    cond (!y22.2.1) (
     some (R3.ret ((false,()),(),()))) (
     ((f149 v17 (rd aZ v1 (ae v3)).2.1)).bind fun y23=>
     cond (decide (y23.1=(-1))) (
      some (R3.ret ((false,()),(),()))) (
      cond v15 (
       cond (!(decide (y21.1.1=(rd aZ v1 (ae v3)).2.1))) (
        some (R3.ret ((false,()),(),()))) (
        cond (decide (v12<(dx (lR v20 (rd aZ v1 (ae v3)).1 (al .i64 ((dx v20 (rd aZ v1 (ae v3)).1)+1))) (rd aZ v1 (ae v3)).1))) (
         some (R3.ret ((false,()),(),()))) (
         cond (decide ((rd aZ v1 (ae v3)).2.2.2.1<0)) (
          some (R3.ret ((false,()),(),()))) (
          cond (decide ((rd aZ v1 (ae v3)).2.2.2.2<(rd aZ v1 (ae v3)).2.2.2.1)) (
           some (R3.ret ((false,()),(),()))) (
           cond (decide (v16<(rd aZ v1 (ae v3)).2.2.2.2)) (
            some (R3.ret ((false,()),(),()))) (
            cond (decide ((rd aZ v1 (ae v3)).2.2.2.2≤(al .i64 (v16-v13)))) (
             some (R3.ret ((false,()),(),()))) (
             cond (decide (0<v3)) (
              cond ((decide (0≤(al .i64 (v3-1))))&&(decide ((al .i64 (v3-1))<(v18.length:Int)))) (
               cond ((decide (0≤(al .i64 (v3-1))))&&(decide ((al .i64 (v3-1))<(v18.length:Int)))) (
                ((f150 (rd aZ v1 (ae v3)).2.1 (rd aZ v1 (ae v3)).2.2.1 (rd aZ v18 (ae (al .i64 (v3-1)))).2.1 (rd aZ v18 (ae (al .i64 (v3-1)))).2.2.1)).bind fun y24=>
                cond (!y24.1) (
                 some (R3.ret ((false,()),(),()))) (
                 some (R3.next (((),(),v1,v2,(al .i64 (v3+1)),()),((v4,v5,v6,v7,v8,v9,v10,v11,v12,v13,v14,v15,v16,v17,v18,v19,()),(lR v20 (rd aZ v1 (ae v3)).1 (al .i64 ((dx v20 (rd aZ v1 (ae v3)).1)+1))),()),())))) (
                none)) (
               none)) (
              some (R3.next (((),(),v1,v2,(al .i64 (v3+1)),()),((v4,v5,v6,v7,v8,v9,v10,v11,v12,v13,v14,v15,v16,v17,v18,v19,()),(lR v20 (rd aZ v1 (ae v3)).1 (al .i64 ((dx v20 (rd aZ v1 (ae v3)).1)+1))),()),())))))))))) (
       cond (decide (v12<(dx (lR v20 (rd aZ v1 (ae v3)).1 (al .i64 ((dx v20 (rd aZ v1 (ae v3)).1)+1))) (rd aZ v1 (ae v3)).1))) (
        some (R3.ret ((false,()),(),()))) (
        cond (decide ((rd aZ v1 (ae v3)).2.2.2.1<0)) (
         some (R3.ret ((false,()),(),()))) (
         cond (decide ((rd aZ v1 (ae v3)).2.2.2.2<(rd aZ v1 (ae v3)).2.2.2.1)) (
          some (R3.ret ((false,()),(),()))) (
          cond (decide (v16<(rd aZ v1 (ae v3)).2.2.2.2)) (
           some (R3.ret ((false,()),(),()))) (
           cond (decide ((rd aZ v1 (ae v3)).2.2.2.2≤(al .i64 (v16-v13)))) (
            some (R3.ret ((false,()),(),()))) (
            cond (decide (0<v3)) (
             cond ((decide (0≤(al .i64 (v3-1))))&&(decide ((al .i64 (v3-1))<(v18.length:Int)))) (
              cond ((decide (0≤(al .i64 (v3-1))))&&(decide ((al .i64 (v3-1))<(v18.length:Int)))) (
               ((f150 (rd aZ v1 (ae v3)).2.1 (rd aZ v1 (ae v3)).2.2.1 (rd aZ v18 (ae (al .i64 (v3-1)))).2.1 (rd aZ v18 (ae (al .i64 (v3-1)))).2.2.1)).bind fun y25=>
               cond (!y25.1) (
                some (R3.ret ((false,()),(),()))) (
                some (R3.next (((),(),v1,v2,(al .i64 (v3+1)),()),((v4,v5,v6,v7,v8,v9,v10,v11,v12,v13,v14,v15,v16,v17,v18,v19,()),(lR v20 (rd aZ v1 (ae v3)).1 (al .i64 ((dx v20 (rd aZ v1 (ae v3)).1)+1))),()),())))) (
               none)) (
              none)) (
             some (R3.next (((),(),v1,v2,(al .i64 (v3+1)),()),((v4,v5,v6,v7,v8,v9,v10,v11,v12,v13,v14,v15,v16,v17,v18,v19,()),(lR v20 (rd aZ v1 (ae v3)).1 (al .i64 ((dx v20 (rd aZ v1 (ae v3)).1)+1))),()),()))))))))))))) (
   none)) (
  some (R3.out (((),()),((v4,v5,v6,v7,v8,v9,v10,v11,v12,v13,v14,v15,v16,v17,v18,v19,()),()),())))
noncomputable def nB (z:r9):Option (R3 r9 B8 AL):=F4 z.1.2.2.1 z.1.2.2.2.1 z.1.2.2.2.2.1 z.2.1.1.1 z.2.1.1.2.1 z.2.1.1.2.2.1 z.2.1.1.2.2.2.1 z.2.1.1.2.2.2.2.1 z.2.1.1.2.2.2.2.2.1 z.2.1.1.2.2.2.2.2.2.1 z.2.1.1.2.2.2.2.2.2.2.1 z.2.1.1.2.2.2.2.2.2.2.2.1 z.2.1.1.2.2.2.2.2.2.2.2.2.1 z.2.1.1.2.2.2.2.2.2.2.2.2.2.1 z.2.1.1.2.2.2.2.2.2.2.2.2.2.2.1 z.2.1.1.2.2.2.2.2.2.2.2.2.2.2.2.1 z.2.1.1.2.2.2.2.2.2.2.2.2.2.2.2.2.1 z.2.1.1.2.2.2.2.2.2.2.2.2.2.2.2.2.2.1 z.2.1.1.2.2.2.2.2.2.2.2.2.2.2.2.2.2.2.1 z.2.1.2.1
noncomputable def f110 (v1 v2 v3 v4 v5 v6 v7 v8 v9 v10 v11:Int)(v12:Bool)(v13:Int)(v14:aQ)(v15:br)(v16:aQ):Option ct:=
 ((iter az nB (((),(),v15,(v15.length:Int),0,()),((v1,v2,v3,v4,v5,v6,v7,v8,v9,v10,v11,v12,v13,v14,v15,v16,()),[],()),()))).bind fun r=>match r with
 | .inl y17=>
   some ((decide ((y17.2.1.1.2.2.2.2.2.2.2.2.2.2.2.2.2.2.1.length:Int)≤32)),())
 | .inr z18=>
   some (z18.1.1,())
noncomputable def f189 (v1 v2 v3 v4 v5:Int):Option ((uu×Int×Int×Int×Int×Int)×Unit):=
 some (((v2,v3),v1,v2,v3,v4,v5),())
noncomputable def f179 (v1 v2 v3 v4 v5:Int):Option (uu×Unit):=
 ((f189 v1 v2 v3 v4 v5)).bind fun y6=>
 some ((y6.1.1.1,y6.1.1.2),())
abbrev kr:Type:=Th×zO×(Unit)
abbrev qi:Type:=(Unit)×zO×(Unit)
abbrev rA:Type:=bl×zO×(Unit)
noncomputable def kf (v1:br)(v2 v3 v4 v5:Int):Option (R3 kr qi rA):=
 cond (decide (v3<v2)) (
  cond ((decide (0≤v3))&&(decide (v3<(v1.length:Int)))) (
   ((f179 (rd aZ v1 (ae v3)).1 (rd aZ v1 (ae v3)).2.1 (rd aZ v1 (ae v3)).2.2.1 (rd aZ v1 (ae v3)).2.2.2.1 (rd aZ v1 (ae v3)).2.2.2.2)).bind fun y6=>
   cond ((decide (y6.1.1=v4))&&((decide (y6.1.2=v5))&&true)) (
    some (R3.ret ((v3,()),((v4,v5,()),((),()),()),()))) (
    some (R3.next ((v1,(),v2,(al .i64 (v3+1)),()),((v4,v5,()),((),()),()),())))) (
   none)) (
  some (R3.out ((),((v4,v5,()),((),()),()),())))
noncomputable def fk (z:kr):Option (R3 kr qi rA):=kf z.1.1 z.1.2.2.1 z.1.2.2.2.1 z.2.1.1.1 z.2.1.1.2.1
noncomputable def f151 (v1:br)(v2 v3:Int):Option bl:=
 ((iter az fk ((v1,(),(v1.length:Int),0,()),((v2,v3,()),((),()),()),()))).bind fun r=>match r with
 | .inl y4=>
   some ((-1),())
 | .inr z5=>
   some (z5.1.1,())
abbrev CA:Type:=(Unit×aQ×Int×Int×Unit)×AP×(Unit)
abbrev MJ:Type:=(Unit)×(Unit)×(Unit)
abbrev Pv:Type:=ct×(Unit)×(Unit)
noncomputable def F8 (v1:aQ)(v2 v3 v4 v5 v6 v7 v8 v9 v10 v11 v12 v13 v14:Int)(v15:Bool)(v16:Int)(v17:aQ)(v18:br)(v19:aQ):Option (R3 CA MJ Pv):=
 cond (decide (v3<v2)) (
  cond ((decide (0≤v3))&&(decide (v3<(v1.length:Int)))) (
   ((f148 v4 v5 v6 v7 v8 v9 v10 v11 (rd cR v1 (ae v3)).1 (rd cR v1 (ae v3)).2.1)).bind fun y20=>
   cond (!y20.2.1) (
    some (R3.ret ((false,()),(),()))) (
    ((f107 (rd cR v1 (ae v3)).2.2 (al .i64 (v16+1)) (al .i64 (v16+1048576)))).bind fun y21=>
    cond (!y21.1) (
     some (R3.ret ((false,()),(),()))) (
     ((f151 v18 (rd cR v1 (ae v3)).1 (rd cR v1 (ae v3)).2.1)).bind fun y22=>
     cond (!(decide (y22.1=(-1)))) (
      some (R3.ret ((false,()),(),()))) (
      cond (decide (0<v3)) (
       cond ((decide (0≤(al .i64 (v3-1))))&&(decide ((al .i64 (v3-1))<(v19.length:Int)))) (
        cond ((decide (0≤(al .i64 (v3-1))))&&(decide ((al .i64 (v3-1))<(v19.length:Int)))) (
         ((f150 (rd cR v1 (ae v3)).1 (rd cR v1 (ae v3)).2.1 (rd cR v19 (ae (al .i64 (v3-1)))).1 (rd cR v19 (ae (al .i64 (v3-1)))).2.1)).bind fun y23=>
         cond (!y23.1) (
          some (R3.ret ((false,()),(),()))) (
          some (R3.next (((),v1,v2,(al .i64 (v3+1)),()),((v4,v5,v6,v7,v8,v9,v10,v11,v12,v13,v14,v15,v16,v17,v18,v19,()),()),())))) (
         none)) (
        none)) (
       some (R3.next (((),v1,v2,(al .i64 (v3+1)),()),((v4,v5,v6,v7,v8,v9,v10,v11,v12,v13,v14,v15,v16,v17,v18,v19,()),()),()))))))) (
   none)) (
  some (R3.out ((),(),())))
noncomputable def mz (z:CA):Option (R3 CA MJ Pv):=F8 z.1.2.1 z.1.2.2.1 z.1.2.2.2.1 z.2.1.1.1 z.2.1.1.2.1 z.2.1.1.2.2.1 z.2.1.1.2.2.2.1 z.2.1.1.2.2.2.2.1 z.2.1.1.2.2.2.2.2.1 z.2.1.1.2.2.2.2.2.2.1 z.2.1.1.2.2.2.2.2.2.2.1 z.2.1.1.2.2.2.2.2.2.2.2.1 z.2.1.1.2.2.2.2.2.2.2.2.2.1 z.2.1.1.2.2.2.2.2.2.2.2.2.2.1 z.2.1.1.2.2.2.2.2.2.2.2.2.2.2.1 z.2.1.1.2.2.2.2.2.2.2.2.2.2.2.2.1 z.2.1.1.2.2.2.2.2.2.2.2.2.2.2.2.2.1 z.2.1.1.2.2.2.2.2.2.2.2.2.2.2.2.2.2.1 z.2.1.1.2.2.2.2.2.2.2.2.2.2.2.2.2.2.2.1
noncomputable def f111 (v1 v2 v3 v4 v5 v6 v7 v8 v9 v10 v11:Int)(v12:Bool)(v13:Int)(v14:aQ)(v15:br)(v16:aQ):Option ct:=
 ((iter az mz (((),v16,(v16.length:Int),0,()),((v1,v2,v3,v4,v5,v6,v7,v8,v9,v10,v11,v12,v13,v14,v15,v16,()),()),()))).bind fun r=>match r with
 | .inl y17=>
   some (true,())
 | .inr z18=>
   some (z18.1.1,())
noncomputable def f78 (v1 v2 v3 v4 v5 v6 v7 v8 v9 v10 v11:Int)(v12:Bool)(v13:Int)(v14:aQ)(v15:br)(v16:aQ):Option ct:=
 ((f28 v1 v2 v3 v4 v5 v6 v7 v8)).bind fun y17=>
 cond y17.1 (
  ((f106 v9 v10 v11 v12)).bind fun y18=>
  cond y18.1 (
   ((f107 v13 0 1073741824)).bind fun y19=>
   cond y19.1 (
    ((f109 v1 v2 v3 v4 v5 v6 v7 v8 v9 v10 v11 v12 v13 v14 v15 v16)).bind fun y20=>
    ((f108 v14 y20.1)).bind fun y21=>
    cond y21.1 (
     ((f110 v1 v2 v3 v4 v5 v6 v7 v8 v9 v10 v11 v12 v13 v14 v15 v16)).bind fun y22=>
     cond y22.1 (
      ((f111 v1 v2 v3 v4 v5 v6 v7 v8 v9 v10 v11 v12 v13 v14 v15 v16)).bind fun y23=>
      some (y23.1,())) (
      some (false,()))) (
     some (false,()))) (
    some (false,()))) (
   some (false,()))) (
  some (false,()))
noncomputable def f100 (v1:aR):Option ((aR×aR×aR×aR×aR)×Bool×Unit):=
 ((f98 v1 0)).bind fun y2=>
 cond (decide (y2.2.1=(-1))) (
  some (([],[],[],[],[]),false,())) (
  cond (decide ((al .i64 ((v1.length:Int)-y2.2.1))<y2.1)) (
   some (([],[],[],[],[]),false,())) (
   cond ((((decide (0≤y2.2.1))&&(decide (y2.2.1≤(al .i64 (y2.2.1+y2.1)))))&&(decide ((al .i64 (y2.2.1+y2.1))≤(al .i64 (y2.2.1+y2.1)))))&&(decide ((al .i64 (y2.2.1+y2.1))≤(v1.length:Int)))) (
    cond (((decide (0≤(al .i64 (y2.2.1+y2.1))))&&(decide ((al .i64 (y2.2.1+y2.1))≤(v1.length:Int))))&&(decide ((v1.length:Int)≤(v1.length:Int)))) (
     ((f98 (aw (ae (al .i64 (y2.2.1+y2.1))) (ap (ae (v1.length:Int)) v1)) 0)).bind fun y3=>
     cond (decide (y3.2.1=(-1))) (
      some (((aw (ae y2.2.1) (ap (ae (al .i64 (y2.2.1+y2.1))) v1)),[],[],[],[]),false,())) (
      cond (decide ((al .i64 ((((aw (ae (al .i64 (y2.2.1+y2.1))) (ap (ae (v1.length:Int)) v1)).length:Nat):Int)-y3.2.1))<y3.1)) (
       some (((aw (ae y2.2.1) (ap (ae (al .i64 (y2.2.1+y2.1))) v1)),[],[],[],[]),false,())) (
       cond ((((decide (0≤y3.2.1))&&(decide (y3.2.1≤(al .i64 (y3.2.1+y3.1)))))&&(decide ((al .i64 (y3.2.1+y3.1))≤(al .i64 (y3.2.1+y3.1)))))&&(decide ((al .i64 (y3.2.1+y3.1))≤(((aw (ae (al .i64 (y2.2.1+y2.1))) (ap (ae (v1.length:Int)) v1)).length:Nat):Int)))) (
        cond (((decide (0≤(al .i64 (y3.2.1+y3.1))))&&(decide ((al .i64 (y3.2.1+y3.1))≤(((aw (ae (al .i64 (y2.2.1+y2.1))) (ap (ae (v1.length:Int)) v1)).length:Nat):Int))))&&(decide ((((aw (ae (al .i64 (y2.2.1+y2.1))) (ap (ae (v1.length:Int)) v1)).length:Nat):Int)≤(((aw (ae (al .i64 (y2.2.1+y2.1))) (ap (ae (v1.length:Int)) v1)).length:Nat):Int)))) (
         ((f98 (aw (ae (al .i64 (y3.2.1+y3.1))) (ap (ae (((aw (ae (al .i64 (y2.2.1+y2.1))) (ap (ae (v1.length:Int)) v1)).length:Nat):Int)) (aw (ae (al .i64 (y2.2.1+y2.1))) (ap (ae (v1.length:Int)) v1)))) 0)).bind fun y4=>
         cond (decide (y4.2.1=(-1))) (
          some (((aw (ae y2.2.1) (ap (ae (al .i64 (y2.2.1+y2.1))) v1)),(aw (ae y3.2.1) (ap (ae (al .i64 (y3.2.1+y3.1))) (aw (ae (al .i64 (y2.2.1+y2.1))) (ap (ae (v1.length:Int)) v1)))),[],[],[]),false,())) (
          cond (decide ((al .i64 ((((aw (ae (al .i64 (y3.2.1+y3.1))) (ap (ae (((aw (ae (al .i64 (y2.2.1+y2.1))) (ap (ae (v1.length:Int)) v1)).length:Nat):Int)) (aw (ae (al .i64 (y2.2.1+y2.1))) (ap (ae (v1.length:Int)) v1)))).length:Nat):Int)-y4.2.1))<y4.1)) (
           some (((aw (ae y2.2.1) (ap (ae (al .i64 (y2.2.1+y2.1))) v1)),(aw (ae y3.2.1) (ap (ae (al .i64 (y3.2.1+y3.1))) (aw (ae (al .i64 (y2.2.1+y2.1))) (ap (ae (v1.length:Int)) v1)))),[],[],[]),false,())) (
           cond ((((decide (0≤y4.2.1))&&(decide (y4.2.1≤(al .i64 (y4.2.1+y4.1)))))&&(decide ((al .i64 (y4.2.1+y4.1))≤(al .i64 (y4.2.1+y4.1)))))&&(decide ((al .i64 (y4.2.1+y4.1))≤(((aw (ae (al .i64 (y3.2.1+y3.1))) (ap (ae (((aw (ae (al .i64 (y2.2.1+y2.1))) (ap (ae (v1.length:Int)) v1)).length:Nat):Int)) (aw (ae (al .i64 (y2.2.1+y2.1))) (ap (ae (v1.length:Int)) v1)))).length:Nat):Int)))) (
            cond (((decide (0≤(al .i64 (y4.2.1+y4.1))))&&(decide ((al .i64 (y4.2.1+y4.1))≤(((aw (ae (al .i64 (y3.2.1+y3.1))) (ap (ae (((aw (ae (al .i64 (y2.2.1+y2.1))) (ap (ae (v1.length:Int)) v1)).length:Nat):Int)) (aw (ae (al .i64 (y2.2.1+y2.1))) (ap (ae (v1.length:Int)) v1)))).length:Nat):Int))))&&(decide ((((aw (ae (al .i64 (y3.2.1+y3.1))) (ap (ae (((aw (ae (al .i64 (y2.2.1+y2.1))) (ap (ae (v1.length:Int)) v1)).length:Nat):Int)) (aw (ae (al .i64 (y2.2.1+y2.1))) (ap (ae (v1.length:Int)) v1)))).length:Nat):Int)≤(((aw (ae (al .i64 (y3.2.1+y3.1))) (ap (ae (((aw (ae (al .i64 (y2.2.1+y2.1))) (ap (ae (v1.length:Int)) v1)).length:Nat):Int)) (aw (ae (al .i64 (y2.2.1+y2.1))) (ap (ae (v1.length:Int)) v1)))).length:Nat):Int)))) (
             ((f98 (aw (ae (al .i64 (y4.2.1+y4.1))) (ap (ae (((aw (ae (al .i64 (y3.2.1+y3.1))) (ap (ae (((aw (ae (al .i64 (y2.2.1+y2.1))) (ap (ae (v1.length:Int)) v1)).length:Nat):Int)) (aw (ae (al .i64 (y2.2.1+y2.1))) (ap (ae (v1.length:Int)) v1)))).length:Nat):Int)) (aw (ae (al .i64 (y3.2.1+y3.1))) (ap (ae (((aw (ae (al .i64 (y2.2.1+y2.1))) (ap (ae (v1.length:Int)) v1)).length:Nat):Int)) (aw (ae (al .i64 (y2.2.1+y2.1))) (ap (ae (v1.length:Int)) v1)))))) 0)).bind fun y5=>
             cond (decide (y5.2.1=(-1))) (
              some (((aw (ae y2.2.1) (ap (ae (al .i64 (y2.2.1+y2.1))) v1)),(aw (ae y3.2.1) (ap (ae (al .i64 (y3.2.1+y3.1))) (aw (ae (al .i64 (y2.2.1+y2.1))) (ap (ae (v1.length:Int)) v1)))),(aw (ae y4.2.1) (ap (ae (al .i64 (y4.2.1+y4.1))) (aw (ae (al .i64 (y3.2.1+y3.1))) (ap (ae (((aw (ae (al .i64 (y2.2.1+y2.1))) (ap (ae (v1.length:Int)) v1)).length:Nat):Int)) (aw (ae (al .i64 (y2.2.1+y2.1))) (ap (ae (v1.length:Int)) v1)))))),[],[]),false,())) (
              cond (decide ((al .i64 ((((aw (ae (al .i64 (y4.2.1+y4.1))) (ap (ae (((aw (ae (al .i64 (y3.2.1+y3.1))) (ap (ae (((aw (ae (al .i64 (y2.2.1+y2.1))) (ap (ae (v1.length:Int)) v1)).length:Nat):Int)) (aw (ae (al .i64 (y2.2.1+y2.1))) (ap (ae (v1.length:Int)) v1)))).length:Nat):Int)) (aw (ae (al .i64 (y3.2.1+y3.1))) (ap (ae (((aw (ae (al .i64 (y2.2.1+y2.1))) (ap (ae (v1.length:Int)) v1)).length:Nat):Int)) (aw (ae (al .i64 (y2.2.1+y2.1))) (ap (ae (v1.length:Int)) v1)))))).length:Nat):Int)-y5.2.1))<y5.1)) (
               some (((aw (ae y2.2.1) (ap (ae (al .i64 (y2.2.1+y2.1))) v1)),(aw (ae y3.2.1) (ap (ae (al .i64 (y3.2.1+y3.1))) (aw (ae (al .i64 (y2.2.1+y2.1))) (ap (ae (v1.length:Int)) v1)))),(aw (ae y4.2.1) (ap (ae (al .i64 (y4.2.1+y4.1))) (aw (ae (al .i64 (y3.2.1+y3.1))) (ap (ae (((aw (ae (al .i64 (y2.2.1+y2.1))) (ap (ae (v1.length:Int)) v1)).length:Nat):Int)) (aw (ae (al .i64 (y2.2.1+y2.1))) (ap (ae (v1.length:Int)) v1)))))),[],[]),false,())) (
               cond ((((decide (0≤y5.2.1))&&(decide (y5.2.1≤(al .i64 (y5.2.1+y5.1)))))&&(decide ((al .i64 (y5.2.1+y5.1))≤(al .i64 (y5.2.1+y5.1)))))&&(decide ((al .i64 (y5.2.1+y5.1))≤(((aw (ae (al .i64 (y4.2.1+y4.1))) (ap (ae (((aw (ae (al .i64 (y3.2.1+y3.1))) (ap (ae (((aw (ae (al .i64 (y2.2.1+y2.1))) (ap (ae (v1.length:Int)) v1)).length:Nat):Int)) (aw (ae (al .i64 (y2.2.1+y2.1))) (ap (ae (v1.length:Int)) v1)))).length:Nat):Int)) (aw (ae (al .i64 (y3.2.1+y3.1))) (ap (ae (((aw (ae (al .i64 (y2.2.1+y2.1))) (ap (ae (v1.length:Int)) v1)).length:Nat):Int)) (aw (ae (al .i64 (y2.2.1+y2.1))) (ap (ae (v1.length:Int)) v1)))))).length:Nat):Int)))) (
                cond (((decide (0≤(al .i64 (y5.2.1+y5.1))))&&(decide ((al .i64 (y5.2.1+y5.1))≤(((aw (ae (al .i64 (y4.2.1+y4.1))) (ap (ae (((aw (ae (al .i64 (y3.2.1+y3.1))) (ap (ae (((aw (ae (al .i64 (y2.2.1+y2.1))) (ap (ae (v1.length:Int)) v1)).length:Nat):Int)) (aw (ae (al .i64 (y2.2.1+y2.1))) (ap (ae (v1.length:Int)) v1)))).length:Nat):Int)) (aw (ae (al .i64 (y3.2.1+y3.1))) (ap (ae (((aw (ae (al .i64 (y2.2.1+y2.1))) (ap (ae (v1.length:Int)) v1)).length:Nat):Int)) (aw (ae (al .i64 (y2.2.1+y2.1))) (ap (ae (v1.length:Int)) v1)))))).length:Nat):Int))))&&(decide ((((aw (ae (al .i64 (y4.2.1+y4.1))) (ap (ae (((aw (ae (al .i64 (y3.2.1+y3.1))) (ap (ae (((aw (ae (al .i64 (y2.2.1+y2.1))) (ap (ae (v1.length:Int)) v1)).length:Nat):Int)) (aw (ae (al .i64 (y2.2.1+y2.1))) (ap (ae (v1.length:Int)) v1)))).length:Nat):Int)) (aw (ae (al .i64 (y3.2.1+y3.1))) (ap (ae (((aw (ae (al .i64 (y2.2.1+y2.1))) (ap (ae (v1.length:Int)) v1)).length:Nat):Int)) (aw (ae (al .i64 (y2.2.1+y2.1))) (ap (ae (v1.length:Int)) v1)))))).length:Nat):Int)≤(((aw (ae (al .i64 (y4.2.1+y4.1))) (ap (ae (((aw (ae (al .i64 (y3.2.1+y3.1))) (ap (ae (((aw (ae (al .i64 (y2.2.1+y2.1))) (ap (ae (v1.length:Int)) v1)).length:Nat):Int)) (aw (ae (al .i64 (y2.2.1+y2.1))) (ap (ae (v1.length:Int)) v1)))).length:Nat):Int)) (aw (ae (al .i64 (y3.2.1+y3.1))) (ap (ae (((aw (ae (al .i64 (y2.2.1+y2.1))) (ap (ae (v1.length:Int)) v1)).length:Nat):Int)) (aw (ae (al .i64 (y2.2.1+y2.1))) (ap (ae (v1.length:Int)) v1)))))).length:Nat):Int)))) (
                 ((f98 (aw (ae (al .i64 (y5.2.1+y5.1))) (ap (ae (((aw (ae (al .i64 (y4.2.1+y4.1))) (ap (ae (((aw (ae (al .i64 (y3.2.1+y3.1))) (ap (ae (((aw (ae (al .i64 (y2.2.1+y2.1))) (ap (ae (v1.length:Int)) v1)).length:Nat):Int)) (aw (ae (al .i64 (y2.2.1+y2.1))) (ap (ae (v1.length:Int)) v1)))).length:Nat):Int)) (aw (ae (al .i64 (y3.2.1+y3.1))) (ap (ae (((aw (ae (al .i64 (y2.2.1+y2.1))) (ap (ae (v1.length:Int)) v1)).length:Nat):Int)) (aw (ae (al .i64 (y2.2.1+y2.1))) (ap (ae (v1.length:Int)) v1)))))).length:Nat):Int)) (aw (ae (al .i64 (y4.2.1+y4.1))) (ap (ae (((aw (ae (al .i64 (y3.2.1+y3.1))) (ap (ae (((aw (ae (al .i64 (y2.2.1+y2.1))) (ap (ae (v1.length:Int)) v1)).length:Nat):Int)) (aw (ae (al .i64 (y2.2.1+y2.1))) (ap (ae (v1.length:Int)) v1)))).length:Nat):Int)) (aw (ae (al .i64 (y3.2.1+y3.1))) (ap (ae (((aw (ae (al .i64 (y2.2.1+y2.1))) (ap (ae (v1.length:Int)) v1)).length:Nat):Int)) (aw (ae (al .i64 (y2.2.1+y2.1))) (ap (ae (v1.length:Int)) v1)))))))) 0)).bind fun y6=>
                 cond (decide (y6.2.1=(-1))) (
                  some (((aw (ae y2.2.1) (ap (ae (al .i64 (y2.2.1+y2.1))) v1)),(aw (ae y3.2.1) (ap (ae (al .i64 (y3.2.1+y3.1))) (aw (ae (al .i64 (y2.2.1+y2.1))) (ap (ae (v1.length:Int)) v1)))),(aw (ae y4.2.1) (ap (ae (al .i64 (y4.2.1+y4.1))) (aw (ae (al .i64 (y3.2.1+y3.1))) (ap (ae (((aw (ae (al .i64 (y2.2.1+y2.1))) (ap (ae (v1.length:Int)) v1)).length:Nat):Int)) (aw (ae (al .i64 (y2.2.1+y2.1))) (ap (ae (v1.length:Int)) v1)))))),(aw (ae y5.2.1) (ap (ae (al .i64 (y5.2.1+y5.1))) (aw (ae (al .i64 (y4.2.1+y4.1))) (ap (ae (((aw (ae (al .i64 (y3.2.1+y3.1))) (ap (ae (((aw (ae (al .i64 (y2.2.1+y2.1))) (ap (ae (v1.length:Int)) v1)).length:Nat):Int)) (aw (ae (al .i64 (y2.2.1+y2.1))) (ap (ae (v1.length:Int)) v1)))).length:Nat):Int)) (aw (ae (al .i64 (y3.2.1+y3.1))) (ap (ae (((aw (ae (al .i64 (y2.2.1+y2.1))) (ap (ae (v1.length:Int)) v1)).length:Nat):Int)) (aw (ae (al .i64 (y2.2.1+y2.1))) (ap (ae (v1.length:Int)) v1)))))))),[]),false,())) (
                  cond (decide ((al .i64 ((((aw (ae (al .i64 (y5.2.1+y5.1))) (ap (ae (((aw (ae (al .i64 (y4.2.1+y4.1))) (ap (ae (((aw (ae (al .i64 (y3.2.1+y3.1))) (ap (ae (((aw (ae (al .i64 (y2.2.1+y2.1))) (ap (ae (v1.length:Int)) v1)).length:Nat):Int)) (aw (ae (al .i64 (y2.2.1+y2.1))) (ap (ae (v1.length:Int)) v1)))).length:Nat):Int)) (aw (ae (al .i64 (y3.2.1+y3.1))) (ap (ae (((aw (ae (al .i64 (y2.2.1+y2.1))) (ap (ae (v1.length:Int)) v1)).length:Nat):Int)) (aw (ae (al .i64 (y2.2.1+y2.1))) (ap (ae (v1.length:Int)) v1)))))).length:Nat):Int)) (aw (ae (al .i64 (y4.2.1+y4.1))) (ap (ae (((aw (ae (al .i64 (y3.2.1+y3.1))) (ap (ae (((aw (ae (al .i64 (y2.2.1+y2.1))) (ap (ae (v1.length:Int)) v1)).length:Nat):Int)) (aw (ae (al .i64 (y2.2.1+y2.1))) (ap (ae (v1.length:Int)) v1)))).length:Nat):Int)) (aw (ae (al .i64 (y3.2.1+y3.1))) (ap (ae (((aw (ae (al .i64 (y2.2.1+y2.1))) (ap (ae (v1.length:Int)) v1)).length:Nat):Int)) (aw (ae (al .i64 (y2.2.1+y2.1))) (ap (ae (v1.length:Int)) v1)))))))).length:Nat):Int)-y6.2.1))<y6.1)) (
                   some (((aw (ae y2.2.1) (ap (ae (al .i64 (y2.2.1+y2.1))) v1)),(aw (ae y3.2.1) (ap (ae (al .i64 (y3.2.1+y3.1))) (aw (ae (al .i64 (y2.2.1+y2.1))) (ap (ae (v1.length:Int)) v1)))),(aw (ae y4.2.1) (ap (ae (al .i64 (y4.2.1+y4.1))) (aw (ae (al .i64 (y3.2.1+y3.1))) (ap (ae (((aw (ae (al .i64 (y2.2.1+y2.1))) (ap (ae (v1.length:Int)) v1)).length:Nat):Int)) (aw (ae (al .i64 (y2.2.1+y2.1))) (ap (ae (v1.length:Int)) v1)))))),(aw (ae y5.2.1) (ap (ae (al .i64 (y5.2.1+y5.1))) (aw (ae (al .i64 (y4.2.1+y4.1))) (ap (ae (((aw (ae (al .i64 (y3.2.1+y3.1))) (ap (ae (((aw (ae (al .i64 (y2.2.1+y2.1))) (ap (ae (v1.length:Int)) v1)).length:Nat):Int)) (aw (ae (al .i64 (y2.2.1+y2.1))) (ap (ae (v1.length:Int)) v1)))).length:Nat):Int)) (aw (ae (al .i64 (y3.2.1+y3.1))) (ap (ae (((aw (ae (al .i64 (y2.2.1+y2.1))) (ap (ae (v1.length:Int)) v1)).length:Nat):Int)) (aw (ae (al .i64 (y2.2.1+y2.1))) (ap (ae (v1.length:Int)) v1)))))))),[]),false,())) (
                   cond ((((decide (0≤y6.2.1))&&(decide (y6.2.1≤(al .i64 (y6.2.1+y6.1)))))&&(decide ((al .i64 (y6.2.1+y6.1))≤(al .i64 (y6.2.1+y6.1)))))&&(decide ((al .i64 (y6.2.1+y6.1))≤(((aw (ae (al .i64 (y5.2.1+y5.1))) (ap (ae (((aw (ae (al .i64 (y4.2.1+y4.1))) (ap (ae (((aw (ae (al .i64 (y3.2.1+y3.1))) (ap (ae (((aw (ae (al .i64 (y2.2.1+y2.1))) (ap (ae (v1.length:Int)) v1)).length:Nat):Int)) (aw (ae (al .i64 (y2.2.1+y2.1))) (ap (ae (v1.length:Int)) v1)))).length:Nat):Int)) (aw (ae (al .i64 (y3.2.1+y3.1))) (ap (ae (((aw (ae (al .i64 (y2.2.1+y2.1))) (ap (ae (v1.length:Int)) v1)).length:Nat):Int)) (aw (ae (al .i64 (y2.2.1+y2.1))) (ap (ae (v1.length:Int)) v1)))))).length:Nat):Int)) (aw (ae (al .i64 (y4.2.1+y4.1))) (ap (ae (((aw (ae (al .i64 (y3.2.1+y3.1))) (ap (ae (((aw (ae (al .i64 (y2.2.1+y2.1))) (ap (ae (v1.length:Int)) v1)).length:Nat):Int)) (aw (ae (al .i64 (y2.2.1+y2.1))) (ap (ae (v1.length:Int)) v1)))).length:Nat):Int)) (aw (ae (al .i64 (y3.2.1+y3.1))) (ap (ae (((aw (ae (al .i64 (y2.2.1+y2.1))) (ap (ae (v1.length:Int)) v1)).length:Nat):Int)) (aw (ae (al .i64 (y2.2.1+y2.1))) (ap (ae (v1.length:Int)) v1)))))))).length:Nat):Int)))) (
                    cond (((decide (0≤(al .i64 (y6.2.1+y6.1))))&&(decide ((al .i64 (y6.2.1+y6.1))≤(((aw (ae (al .i64 (y5.2.1+y5.1))) (ap (ae (((aw (ae (al .i64 (y4.2.1+y4.1))) (ap (ae (((aw (ae (al .i64 (y3.2.1+y3.1))) (ap (ae (((aw (ae (al .i64 (y2.2.1+y2.1))) (ap (ae (v1.length:Int)) v1)).length:Nat):Int)) (aw (ae (al .i64 (y2.2.1+y2.1))) (ap (ae (v1.length:Int)) v1)))).length:Nat):Int)) (aw (ae (al .i64 (y3.2.1+y3.1))) (ap (ae (((aw (ae (al .i64 (y2.2.1+y2.1))) (ap (ae (v1.length:Int)) v1)).length:Nat):Int)) (aw (ae (al .i64 (y2.2.1+y2.1))) (ap (ae (v1.length:Int)) v1)))))).length:Nat):Int)) (aw (ae (al .i64 (y4.2.1+y4.1))) (ap (ae (((aw (ae (al .i64 (y3.2.1+y3.1))) (ap (ae (((aw (ae (al .i64 (y2.2.1+y2.1))) (ap (ae (v1.length:Int)) v1)).length:Nat):Int)) (aw (ae (al .i64 (y2.2.1+y2.1))) (ap (ae (v1.length:Int)) v1)))).length:Nat):Int)) (aw (ae (al .i64 (y3.2.1+y3.1))) (ap (ae (((aw (ae (al .i64 (y2.2.1+y2.1))) (ap (ae (v1.length:Int)) v1)).length:Nat):Int)) (aw (ae (al .i64 (y2.2.1+y2.1))) (ap (ae (v1.length:Int)) v1)))))))).length:Nat):Int))))&&(decide ((((aw (ae (al .i64 (y5.2.1+y5.1))) (ap (ae (((aw (ae (al .i64 (y4.2.1+y4.1))) (ap (ae (((aw (ae (al .i64 (y3.2.1+y3.1))) (ap (ae (((aw (ae (al .i64 (y2.2.1+y2.1))) (ap (ae (v1.length:Int)) v1)).length:Nat):Int)) (aw (ae (al .i64 (y2.2.1+y2.1))) (ap (ae (v1.length:Int)) v1)))).length:Nat):Int)) (aw (ae (al .i64 (y3.2.1+y3.1))) (ap (ae (((aw (ae (al .i64 (y2.2.1+y2.1))) (ap (ae (v1.length:Int)) v1)).length:Nat):Int)) (aw (ae (al .i64 (y2.2.1+y2.1))) (ap (ae (v1.length:Int)) v1)))))).length:Nat):Int)) (aw (ae (al .i64 (y4.2.1+y4.1))) (ap (ae (((aw (ae (al .i64 (y3.2.1+y3.1))) (ap (ae (((aw (ae (al .i64 (y2.2.1+y2.1))) (ap (ae (v1.length:Int)) v1)).length:Nat):Int)) (aw (ae (al .i64 (y2.2.1+y2.1))) (ap (ae (v1.length:Int)) v1)))).length:Nat):Int)) (aw (ae (al .i64 (y3.2.1+y3.1))) (ap (ae (((aw (ae (al .i64 (y2.2.1+y2.1))) (ap (ae (v1.length:Int)) v1)).length:Nat):Int)) (aw (ae (al .i64 (y2.2.1+y2.1))) (ap (ae (v1.length:Int)) v1)))))))).length:Nat):Int)≤(((aw (ae (al .i64 (y5.2.1+y5.1))) (ap (ae (((aw (ae (al .i64 (y4.2.1+y4.1))) (ap (ae (((aw (ae (al .i64 (y3.2.1+y3.1))) (ap (ae (((aw (ae (al .i64 (y2.2.1+y2.1))) (ap (ae (v1.length:Int)) v1)).length:Nat):Int)) (aw (ae (al .i64 (y2.2.1+y2.1))) (ap (ae (v1.length:Int)) v1)))).length:Nat):Int)) (aw (ae (al .i64 (y3.2.1+y3.1))) (ap (ae (((aw (ae (al .i64 (y2.2.1+y2.1))) (ap (ae (v1.length:Int)) v1)).length:Nat):Int)) (aw (ae (al .i64 (y2.2.1+y2.1))) (ap (ae (v1.length:Int)) v1)))))).length:Nat):Int)) (aw (ae (al .i64 (y4.2.1+y4.1))) (ap (ae (((aw (ae (al .i64 (y3.2.1+y3.1))) (ap (ae (((aw (ae (al .i64 (y2.2.1+y2.1))) (ap (ae (v1.length:Int)) v1)).length:Nat):Int)) (aw (ae (al .i64 (y2.2.1+y2.1))) (ap (ae (v1.length:Int)) v1)))).length:Nat):Int)) (aw (ae (al .i64 (y3.2.1+y3.1))) (ap (ae (((aw (ae (al .i64 (y2.2.1+y2.1))) (ap (ae (v1.length:Int)) v1)).length:Nat):Int)) (aw (ae (al .i64 (y2.2.1+y2.1))) (ap (ae (v1.length:Int)) v1)))))))).length:Nat):Int)))) (
                     some (((aw (ae y2.2.1) (ap (ae (al .i64 (y2.2.1+y2.1))) v1)),(aw (ae y3.2.1) (ap (ae (al .i64 (y3.2.1+y3.1))) (aw (ae (al .i64 (y2.2.1+y2.1))) (ap (ae (v1.length:Int)) v1)))),(aw (ae y4.2.1) (ap (ae (al .i64 (y4.2.1+y4.1))) (aw (ae (al .i64 (y3.2.1+y3.1))) (ap (ae (((aw (ae (al .i64 (y2.2.1+y2.1))) (ap (ae (v1.length:Int)) v1)).length:Nat):Int)) (aw (ae (al .i64 (y2.2.1+y2.1))) (ap (ae (v1.length:Int)) v1)))))),(aw (ae y5.2.1) (ap (ae (al .i64 (y5.2.1+y5.1))) (aw (ae (al .i64 (y4.2.1+y4.1))) (ap (ae (((aw (ae (al .i64 (y3.2.1+y3.1))) (ap (ae (((aw (ae (al .i64 (y2.2.1+y2.1))) (ap (ae (v1.length:Int)) v1)).length:Nat):Int)) (aw (ae (al .i64 (y2.2.1+y2.1))) (ap (ae (v1.length:Int)) v1)))).length:Nat):Int)) (aw (ae (al .i64 (y3.2.1+y3.1))) (ap (ae (((aw (ae (al .i64 (y2.2.1+y2.1))) (ap (ae (v1.length:Int)) v1)).length:Nat):Int)) (aw (ae (al .i64 (y2.2.1+y2.1))) (ap (ae (v1.length:Int)) v1)))))))),(aw (ae y6.2.1) (ap (ae (al .i64 (y6.2.1+y6.1))) (aw (ae (al .i64 (y5.2.1+y5.1))) (ap (ae (((aw (ae (al .i64 (y4.2.1+y4.1))) (ap (ae (((aw (ae (al .i64 (y3.2.1+y3.1))) (ap (ae (((aw (ae (al .i64 (y2.2.1+y2.1))) (ap (ae (v1.length:Int)) v1)).length:Nat):Int)) (aw (ae (al .i64 (y2.2.1+y2.1))) (ap (ae (v1.length:Int)) v1)))).length:Nat):Int)) (aw (ae (al .i64 (y3.2.1+y3.1))) (ap (ae (((aw (ae (al .i64 (y2.2.1+y2.1))) (ap (ae (v1.length:Int)) v1)).length:Nat):Int)) (aw (ae (al .i64 (y2.2.1+y2.1))) (ap (ae (v1.length:Int)) v1)))))).length:Nat):Int)) (aw (ae (al .i64 (y4.2.1+y4.1))) (ap (ae (((aw (ae (al .i64 (y3.2.1+y3.1))) (ap (ae (((aw (ae (al .i64 (y2.2.1+y2.1))) (ap (ae (v1.length:Int)) v1)).length:Nat):Int)) (aw (ae (al .i64 (y2.2.1+y2.1))) (ap (ae (v1.length:Int)) v1)))).length:Nat):Int)) (aw (ae (al .i64 (y3.2.1+y3.1))) (ap (ae (((aw (ae (al .i64 (y2.2.1+y2.1))) (ap (ae (v1.length:Int)) v1)).length:Nat):Int)) (aw (ae (al .i64 (y2.2.1+y2.1))) (ap (ae (v1.length:Int)) v1))))))))))),(decide ((((aw (ae (al .i64 (y6.2.1+y6.1))) (ap (ae (((aw (ae (al .i64 (y5.2.1+y5.1))) (ap (ae (((aw (ae (al .i64 (y4.2.1+y4.1))) (ap (ae (((aw (ae (al .i64 (y3.2.1+y3.1))) (ap (ae (((aw (ae (al .i64 (y2.2.1+y2.1))) (ap (ae (v1.length:Int)) v1)).length:Nat):Int)) (aw (ae (al .i64 (y2.2.1+y2.1))) (ap (ae (v1.length:Int)) v1)))).length:Nat):Int)) (aw (ae (al .i64 (y3.2.1+y3.1))) (ap (ae (((aw (ae (al .i64 (y2.2.1+y2.1))) (ap (ae (v1.length:Int)) v1)).length:Nat):Int)) (aw (ae (al .i64 (y2.2.1+y2.1))) (ap (ae (v1.length:Int)) v1)))))).length:Nat):Int)) (aw (ae (al .i64 (y4.2.1+y4.1))) (ap (ae (((aw (ae (al .i64 (y3.2.1+y3.1))) (ap (ae (((aw (ae (al .i64 (y2.2.1+y2.1))) (ap (ae (v1.length:Int)) v1)).length:Nat):Int)) (aw (ae (al .i64 (y2.2.1+y2.1))) (ap (ae (v1.length:Int)) v1)))).length:Nat):Int)) (aw (ae (al .i64 (y3.2.1+y3.1))) (ap (ae (((aw (ae (al .i64 (y2.2.1+y2.1))) (ap (ae (v1.length:Int)) v1)).length:Nat):Int)) (aw (ae (al .i64 (y2.2.1+y2.1))) (ap (ae (v1.length:Int)) v1)))))))).length:Nat):Int)) (aw (ae (al .i64 (y5.2.1+y5.1))) (ap (ae (((aw (ae (al .i64 (y4.2.1+y4.1))) (ap (ae (((aw (ae (al .i64 (y3.2.1+y3.1))) (ap (ae (((aw (ae (al .i64 (y2.2.1+y2.1))) (ap (ae (v1.length:Int)) v1)).length:Nat):Int)) (aw (ae (al .i64 (y2.2.1+y2.1))) (ap (ae (v1.length:Int)) v1)))).length:Nat):Int)) (aw (ae (al .i64 (y3.2.1+y3.1))) (ap (ae (((aw (ae (al .i64 (y2.2.1+y2.1))) (ap (ae (v1.length:Int)) v1)).length:Nat):Int)) (aw (ae (al .i64 (y2.2.1+y2.1))) (ap (ae (v1.length:Int)) v1)))))).length:Nat):Int)) (aw (ae (al .i64 (y4.2.1+y4.1))) (ap (ae (((aw (ae (al .i64 (y3.2.1+y3.1))) (ap (ae (((aw (ae (al .i64 (y2.2.1+y2.1))) (ap (ae (v1.length:Int)) v1)).length:Nat):Int)) (aw (ae (al .i64 (y2.2.1+y2.1))) (ap (ae (v1.length:Int)) v1)))).length:Nat):Int)) (aw (ae (al .i64 (y3.2.1+y3.1))) (ap (ae (((aw (ae (al .i64 (y2.2.1+y2.1))) (ap (ae (v1.length:Int)) v1)).length:Nat):Int)) (aw (ae (al .i64 (y2.2.1+y2.1))) (ap (ae (v1.length:Int)) v1)))))))))).length:Nat):Int)=0)),())) (
                     none)) (
                    none)))) (
                 none)) (
                none)))) (
             none)) (
            none)))) (
         none)) (
        none)))) (
     none)) (
    none)))
abbrev gE:Type:=SX×X4×aR×Unit
abbrev lD:Type:=(Unit)×X4×aR×Unit
abbrev j0:Type:=(Unit)×X4×aR×Unit
noncomputable def dL (v1:Int)(v2:Bool)(v3 v4:aR):Option (R3 gE lD j0):=
 cond (decide (v1<(v3.length:Int))) (
  ((f98 v3 v1)).bind fun y5=>
  cond (decide (y5.2.1=(-1))) (
   some (R3.ret ((),(((),()),(false,()),(v3,()),((),(),(),(),(),(),(),(),(),(),(),(),(),(),(),(),(),(),(),(),(),(),(),(),(),(),()),()),v4,()))) (
   cond (decide ((v4.length:Int)=400)) (
    some (R3.ret ((),(((),()),(false,()),(v3,()),((),(),(),(),(),(),(),(),(),(),(),(),(),(),(),(),(),(),(),(),(),(),(),(),(),(),()),()),v4,()))) (
    cond ((decide (((v4.length+1) * 8)≤140737488355328))&&(decide ((v4.length+1)≤9223372036854775807))) (
     cond (decide (y5.2.1=(-1))) (
      none) (
      some (R3.next (((),(),y5.2.1,()),(((),()),(v2,()),(v3,()),((),(),(),(),(),(),(),(),(),(),(),(),(),(),(),(),(),(),(),(),(),(),(),(),(),(),()),()),(v4++[y5.1]),())))) (
     none)))) (
  some (R3.out ((),(((),()),(v2,()),(v3,()),((),(),(),(),(),(),(),(),(),(),(),(),(),(),(),(),(),(),(),(),(),(),(),(),(),(),()),()),v4,())))
noncomputable def bG (z:gE):Option (R3 gE lD j0):=dL z.1.2.2.1 z.2.1.2.1.1 z.2.1.2.2.1.1 z.2.2.1
noncomputable def f101 (v1:aR):Option x5:=
 ((iter az bG (((),(),0,()),(((),()),(true,()),(v1,()),((),(),(),(),(),(),(),(),(),(),(),(),(),(),(),(),(),(),(),(),(),(),(),(),(),(),()),()),[],()))).bind fun r=>match r with
 | .inl y2=>
   cond (!y2.2.1.2.1.1) (
    some ([],false,())) (
    some (y2.2.2.1,true,()))
 | .inr z3=>
   cond (!z3.2.1.2.1.1) (
    some ([],false,())) (
    some (z3.2.2.1,true,()))
noncomputable def f140 (v1 v2:Int):Option bl:=
 cond (decide (v1<0)) (
  some ((-1),())) (
  cond (decide (400<v1)) (
   some ((-1),())) (
   cond (decide (v2<0)) (
    some ((-1),())) (
    cond (decide (32<v2)) (
     some ((-1),())) (
     some ((al .i64 (ba (al .i64 ((al .i64 ((al .i64 (v1 * v2))+8))-1)) 8)),())))))
abbrev Hs:Type:=YT×(Unit)×aR×Unit
abbrev Hp:Type:=YT×(Unit)×aR×Unit
abbrev OX:Type:=YT×(Unit)×aR×Unit
abbrev Nu:Type:=Unit×Unit×Unit
noncomputable def Ga (v1:aR)(v2 v3 v4 v5 v6:Int)(v7:aR):Option (R3 Hp OX Nu):=
 cond (decide (v4<v2)) (
  cond (decide (0<(v1.length:Int))) (
   cond (!(decide (v4<0))) (
    cond ((decide (1≤(v1.length:Int)))&&(decide ((v1.length:Int)≤(v1.length:Int)))) (
     some (R3.next (((aw 1 (ap (ae (v1.length:Int)) v1)),v2,(aG .or .u64 v3 (al .u64 ((al .u64 (rd yU v1 0)) * ((2:Int) ^ ((min (ae v4) 64):Nat))))),(al .i64 (v4+8)),v5,v6,()),(),v7,()))) (
     none)) (
    none)) (
   none)) (
  cond (!(decide (v2<0))) (
   cond ((decide (((v7.length+1) * 8)≤140737488355328))&&(decide ((v7.length+1)≤9223372036854775807))) (
    cond (!(decide (v2<0))) (
     some (R3.out ((v1,v2,(be v3 ((2:Int) ^ ((min (ae v2) 64):Nat))),(al .i64 (v4-v2)),v5,v6,()),(),(v7++[(al .i64 (aG .and .u64 v3 (al .u64 ((al .u64 (1 * ((2:Int) ^ ((min (ae v2) 64):Nat))))-1))))]),()))) (
     none)) (
    none)) (
   none))
noncomputable def wO (z:Hp):Option (R3 Hp OX Nu):=Ga z.1.1 z.1.2.1 z.1.2.2.1 z.1.2.2.2.1 z.1.2.2.2.2.1 z.1.2.2.2.2.2.1 z.2.2.1
abbrev Ps:Type:=bl×(Unit)×aR×Unit
abbrev O8:Type:=Unit×Unit×Unit
noncomputable def HA (v1:aR)(v2 v3 v4 v5 v6:Int)(v7:aR):Option (R3 Hs Ps O8):=
 cond (decide (v6<v5)) (
  ((iter az wO ((v1,v2,v3,v4,v5,v6,()),(),v7,()))).bind fun r=>match r with
  | .inl y8=>
    some (R3.next ((y8.1.1,y8.1.2.1,y8.1.2.2.1,y8.1.2.2.2.1,y8.1.2.2.2.2.1,(al .i64 (y8.1.2.2.2.2.2.1+1)),()),(),y8.2.2.1,()))
  | .inr z9=>
    some (R3.ret ((),(),()))) (
  some (R3.out ((v3,()),(),v7,())))
noncomputable def s6 (z:Hs):Option (R3 Hs Ps O8):=HA z.1.1 z.1.2.1 z.1.2.2.1 z.1.2.2.2.1 z.1.2.2.2.2.1 z.1.2.2.2.2.2.1 z.2.2.1
noncomputable def f103 (v1:aR)(v2 v3:Int):Option x5:=
 ((f140 v2 v3)).bind fun y4=>
 cond (!(decide (y4.1=(v1.length:Int)))) (
  some ([],false,())) (
  ((iter az s6 ((v1,v3,0,0,v2,0,()),(),[],()))).bind fun r=>match r with
  | .inl y5=>
    cond (!(decide (y5.1.1=0))) (
     some ([],false,())) (
     some (y5.2.2.1,true,()))
  | .inr z6=>
    none)
noncomputable def f142 (v1:Int):Option bl:=
 cond (decide (v1<0)) (
  some (0,())) (
  cond (decide (549755813888<v1)) (
   some (0,())) (
   some ((aG .xor .i64 (be v1 2) (al .i64 (0-(aG .and .i64 v1 1)))),())))
noncomputable def f143 (v1:Int):Option ct:=
 cond (decide (0≤v1)) (
  some ((decide (v1<274877906944)),())) (
  some (false,()))
abbrev GW:Type:=(aR×Unit×Unit×Int×Int×Unit)×mE×aR×Unit
abbrev NM:Type:=(Unit)×(Unit)×aR×Unit
abbrev Rx:Type:=ct×(Unit)×aR×Unit
noncomputable def Ba (v1:aR)(v2 v3 v4:Int)(v5:aR):Option (R3 GW NM Rx):=
 cond (decide (v3<v2)) (
  cond ((decide (0≤v3))&&(decide (v3<(v1.length:Int)))) (
   ((f142 (rd aW v1 (ae v3)))).bind fun y6=>
   cond (decide ((rd aW v1 (ae v3))≤549755813888)) (
    ((f143 (al .i64 (v4+y6.1)))).bind fun y7=>
    cond (!y7.1) (
     some (R3.ret ((false,()),(),[],()))) (
     cond ((decide (((v5.length+1) * 8)≤140737488355328))&&(decide ((v5.length+1)≤9223372036854775807))) (
      some (R3.next ((v1,(),(),v2,(al .i64 (v3+1)),()),(((al .i64 (v4+y6.1)),()),()),(v5++[(al .i64 (v4+y6.1))]),()))) (
      none))) (
    some (R3.ret ((false,()),(),[],())))) (
   none)) (
  some (R3.out ((),(),v5,())))
noncomputable def kw (z:GW):Option (R3 GW NM Rx):=Ba z.1.1 z.1.2.2.2.1 z.1.2.2.2.2.1 z.2.1.1.1 z.2.2.1
noncomputable def f104 (v1:aR):Option x5:=
 ((f101 v1)).bind fun y2=>
 cond (!y2.2.1) (
  some ([],false,())) (
  ((iter az kw ((y2.1,(),(),(y2.1.length:Int),0,()),((0,()),()),[],()))).bind fun r=>match r with
  | .inl y3=>
    some (y3.2.2.1,true,())
  | .inr z4=>
    some (z4.2.2.1,z4.1.1,()))
abbrev l8:Type:=(Unit×Unit×Unit×Int×Unit)×DT5×aQ×br×aQ×aQ×br×aQ×Unit
abbrev th:Type:=(Unit)×DT5×aQ×br×aQ×aQ×br×aQ×Unit
abbrev tM:Type:=Unit×(Unit×Unit×Unit×Unit×Unit×Unit×Unit)×Unit
noncomputable def mG (v1 v2 v3 v4 v5 v6 v7 v8 v9 v10 v11 v12:Int)(v13:Bool)(v14:Int)(v15 v16 v17 v18 v19:aR)(v20 v21 v22 v23 v24 v25 v26 v27 v28 v29 v30:Int)(v31:Bool)(v32:Int)(v33:aR)(v34:Int)(v35:aQ)(v36:br)(v37 v38:aQ)(v39:br)(v40:aQ):Option (R3 l8 th tM):=
 cond (decide (v1<(v33.length:Int))) (
  cond (((decide (0≤v1))&&(decide (v1≤(v33.length:Int))))&&(decide ((v33.length:Int)≤(v33.length:Int)))) (
   cond ((((decide (0≤v1))&&(decide (v1≤(al .i64 (v1+(td v34 (((aw (ae v1) (ap (ae (v33.length:Int)) v33)).length:Nat):Int)))))))&&(decide ((al .i64 (v1+(td v34 (((aw (ae v1) (ap (ae (v33.length:Int)) v33)).length:Nat):Int))))≤(al .i64 (v1+(td v34 (((aw (ae v1) (ap (ae (v33.length:Int)) v33)).length:Nat):Int)))))))&&(decide ((al .i64 (v1+(td v34 (((aw (ae v1) (ap (ae (v33.length:Int)) v33)).length:Nat):Int))))≤(v33.length:Int)))) (
    cond (decide (0<(((aw (ae v1) (ap (ae (al .i64 (v1+(td v34 (((aw (ae v1) (ap (ae (v33.length:Int)) v33)).length:Nat):Int))))) v33)).length:Nat):Int))) (
     cond (decide (1<(((aw (ae v1) (ap (ae (al .i64 (v1+(td v34 (((aw (ae v1) (ap (ae (v33.length:Int)) v33)).length:Nat):Int))))) v33)).length:Nat):Int))) (
      cond (decide (2<(((aw (ae v1) (ap (ae (al .i64 (v1+(td v34 (((aw (ae v1) (ap (ae (v33.length:Int)) v33)).length:Nat):Int))))) v33)).length:Nat):Int))) (
       cond ((decide (((v38.length+1) * 24)≤140737488355328))&&(decide ((v38.length+1)≤9223372036854775807))) (
        some (R3.next (((),(),(),(al .i64 (v1+v34)),()),((v2,v3,v4,v5,v6,v7,v8,v9,v10,v11,v12,v13,v14,(),(),(),()),(v15,v16,v17,v18,v19,()),(v20,v21,v22,v23,v24,v25,v26,v27,v28,v29,v30,v31,v32,(),(),(),()),(v33,()),(v34,()),((),(),(),(),(),(),(),(),(),(),(),(),(),(),(),(),(),(),(),(),(),(),(),(),(),(),(),(),(),(),(),(),(),(),(),(),(),(),(),(),(),(),(),(),(),(),(),(),(),(),(),(),(),(),(),(),(),(),(),(),(),(),(),(),(),(),(),(),(),(),(),(),(),(),(),(),(),(),(),(),(),(),(),(),(),(),(),(),(),(),(),(),(),(),(),(),(),(),(),(),(),(),(),(),(),(),(),(),(),(),(),(),(),(),(),(),(),(),(),(),(),(),(),(),(),(),(),(),(),(),(),(),(),(),(),(),(),(),(),(),(),(),(),(),(),(),(),(),(),(),(),(),(),(),(),(),(),(),(),(),(),(),(),(),(),(),(),(),(),(),(),(),(),(),(),(),(),(),(),(),(),(),(),(),(),(),(),(),(),(),(),(),(),(),(),(),(),(),(),(),(),(),(),(),(),(),(),(),(),(),(),(),(),(),(),(),(),(),(),(),(),(),(),(),(),(),(),(),(),(),(),(),(),(),(),(),(),()),()),v35,v36,v37,(v38++[((rd aW (aw (ae v1) (ap (ae (al .i64 (v1+(td v34 (((aw (ae v1) (ap (ae (v33.length:Int)) v33)).length:Nat):Int))))) v33)) 0),(rd aW (aw (ae v1) (ap (ae (al .i64 (v1+(td v34 (((aw (ae v1) (ap (ae (v33.length:Int)) v33)).length:Nat):Int))))) v33)) 1),(rd aW (aw (ae v1) (ap (ae (al .i64 (v1+(td v34 (((aw (ae v1) (ap (ae (v33.length:Int)) v33)).length:Nat):Int))))) v33)) 2))]),v39,v40,()))) (
        none)) (
       none)) (
      none)) (
     none)) (
    none)) (
   none)) (
  some (R3.out ((),((v2,v3,v4,v5,v6,v7,v8,v9,v10,v11,v12,v13,v14,(),(),(),()),(v15,v16,v17,v18,v19,()),(v20,v21,v22,v23,v24,v25,v26,v27,v28,v29,v30,v31,v32,(),(),(),()),(v33,()),(v34,()),((),(),(),(),(),(),(),(),(),(),(),(),(),(),(),(),(),(),(),(),(),(),(),(),(),(),(),(),(),(),(),(),(),(),(),(),(),(),(),(),(),(),(),(),(),(),(),(),(),(),(),(),(),(),(),(),(),(),(),(),(),(),(),(),(),(),(),(),(),(),(),(),(),(),(),(),(),(),(),(),(),(),(),(),(),(),(),(),(),(),(),(),(),(),(),(),(),(),(),(),(),(),(),(),(),(),(),(),(),(),(),(),(),(),(),(),(),(),(),(),(),(),(),(),(),(),(),(),(),(),(),(),(),(),(),(),(),(),(),(),(),(),(),(),(),(),(),(),(),(),(),(),(),(),(),(),(),(),(),(),(),(),(),(),(),(),(),(),(),(),(),(),(),(),(),(),(),(),(),(),(),(),(),(),(),(),(),(),(),(),(),(),(),(),(),(),(),(),(),(),(),(),(),(),(),(),(),(),(),(),(),(),(),(),(),(),(),(),(),(),(),(),(),(),(),(),(),(),(),(),(),(),(),(),(),(),(),()),()),v35,v36,v37,v38,v39,v40,())))
noncomputable def dm (z:l8):Option (R3 l8 th tM):=mG z.1.2.2.2.1 z.2.1.1.1 z.2.1.1.2.1 z.2.1.1.2.2.1 z.2.1.1.2.2.2.1 z.2.1.1.2.2.2.2.1 z.2.1.1.2.2.2.2.2.1 z.2.1.1.2.2.2.2.2.2.1 z.2.1.1.2.2.2.2.2.2.2.1 z.2.1.1.2.2.2.2.2.2.2.2.1 z.2.1.1.2.2.2.2.2.2.2.2.2.1 z.2.1.1.2.2.2.2.2.2.2.2.2.2.1 z.2.1.1.2.2.2.2.2.2.2.2.2.2.2.1 z.2.1.1.2.2.2.2.2.2.2.2.2.2.2.2.1 z.2.1.2.1.1 z.2.1.2.1.2.1 z.2.1.2.1.2.2.1 z.2.1.2.1.2.2.2.1 z.2.1.2.1.2.2.2.2.1 z.2.1.2.2.1.1 z.2.1.2.2.1.2.1 z.2.1.2.2.1.2.2.1 z.2.1.2.2.1.2.2.2.1 z.2.1.2.2.1.2.2.2.2.1 z.2.1.2.2.1.2.2.2.2.2.1 z.2.1.2.2.1.2.2.2.2.2.2.1 z.2.1.2.2.1.2.2.2.2.2.2.2.1 z.2.1.2.2.1.2.2.2.2.2.2.2.2.1 z.2.1.2.2.1.2.2.2.2.2.2.2.2.2.1 z.2.1.2.2.1.2.2.2.2.2.2.2.2.2.2.1 z.2.1.2.2.1.2.2.2.2.2.2.2.2.2.2.2.1 z.2.1.2.2.1.2.2.2.2.2.2.2.2.2.2.2.2.1 z.2.1.2.2.2.1.1 z.2.1.2.2.2.2.1.1 z.2.2.1 z.2.2.2.1 z.2.2.2.2.1 z.2.2.2.2.2.1 z.2.2.2.2.2.2.1 z.2.2.2.2.2.2.2.1
abbrev Gt:Type:=(Unit×Unit×aR×aR×aR×aR×Int×Int×Unit)×LI×aQ×br×aQ×aQ×br×aQ×Unit
abbrev NC:Type:=(Unit×Unit×aR×aR×Unit)×LI×aQ×br×aQ×aQ×br×aQ×Unit
abbrev QY:Type:=Unit×Unit×Unit
noncomputable def HZ (v1 v2 v3 v4:aR)(v5 v6 v7 v8 v9 v10 v11 v12 v13 v14 v15 v16 v17:Int)(v18:Bool)(v19 v20 v21 v22 v23 v24 v25 v26 v27 v28 v29 v30:Int)(v31:Bool)(v32:Int)(v33:aQ)(v34:br)(v35 v36:aQ)(v37:br)(v38:aQ):Option (R3 Gt NC QY):=
 cond (decide (v6<v5)) (
  cond ((decide (0≤v6))&&(decide (v6<(v4.length:Int)))) (
   cond ((decide (0≤v6))&&(decide (v6<(v1.length:Int)))) (
    cond ((decide (((v37.length+1) * 40)≤140737488355328))&&(decide ((v37.length+1)≤9223372036854775807))) (
     some (R3.next (((),(),v1,v2,v3,v4,v5,(al .i64 (v6+1)),()),((v7,v8,v9,v10,v11,v12,v13,v14,v15,v16,v17,v18,v19,(),(),(),()),(v20,v21,v22,v23,v24,v25,v26,v27,v28,v29,v30,v31,v32,(),(),(),()),()),v33,v34,v35,v36,(v37++[((be (rd aW v4 (ae v6)) 32),(al .i64 (ba (aG .and .i64 (rd aW v4 (ae v6)) 31) 8)),(bi (aG .and .i64 (rd aW v4 (ae v6)) 31) 8),(rd aW v1 (ae v6)),v32)]),v38,()))) (
     none)) (
    none)) (
   none)) (
  some (R3.out (((),(),v2,v3,()),((v7,v8,v9,v10,v11,v12,v13,v14,v15,v16,v17,v18,v19,(),(),(),()),(v20,v21,v22,v23,v24,v25,v26,v27,v28,v29,v30,v31,v32,(),(),(),()),()),v33,v34,v35,v36,v37,v38,())))
noncomputable def sr (z:Gt):Option (R3 Gt NC QY):=HZ z.1.2.2.1 z.1.2.2.2.1 z.1.2.2.2.2.1 z.1.2.2.2.2.2.1 z.1.2.2.2.2.2.2.1 z.1.2.2.2.2.2.2.2.1 z.2.1.1.1 z.2.1.1.2.1 z.2.1.1.2.2.1 z.2.1.1.2.2.2.1 z.2.1.1.2.2.2.2.1 z.2.1.1.2.2.2.2.2.1 z.2.1.1.2.2.2.2.2.2.1 z.2.1.1.2.2.2.2.2.2.2.1 z.2.1.1.2.2.2.2.2.2.2.2.1 z.2.1.1.2.2.2.2.2.2.2.2.2.1 z.2.1.1.2.2.2.2.2.2.2.2.2.2.1 z.2.1.1.2.2.2.2.2.2.2.2.2.2.2.1 z.2.1.1.2.2.2.2.2.2.2.2.2.2.2.2.1 z.2.1.2.1.1 z.2.1.2.1.2.1 z.2.1.2.1.2.2.1 z.2.1.2.1.2.2.2.1 z.2.1.2.1.2.2.2.2.1 z.2.1.2.1.2.2.2.2.2.1 z.2.1.2.1.2.2.2.2.2.2.1 z.2.1.2.1.2.2.2.2.2.2.2.1 z.2.1.2.1.2.2.2.2.2.2.2.2.1 z.2.1.2.1.2.2.2.2.2.2.2.2.2.1 z.2.1.2.1.2.2.2.2.2.2.2.2.2.2.1 z.2.1.2.1.2.2.2.2.2.2.2.2.2.2.2.1 z.2.1.2.1.2.2.2.2.2.2.2.2.2.2.2.2.1 z.2.2.1 z.2.2.2.1 z.2.2.2.2.1 z.2.2.2.2.2.1 z.2.2.2.2.2.2.1 z.2.2.2.2.2.2.2.1
abbrev G0:Type:=(Unit×Unit×aR×aR×Int×Int×Unit)×LI×aQ×br×aQ×aQ×br×aQ×Unit
abbrev QV:Type:=l9×LI×aQ×br×aQ×aQ×br×aQ×Unit
abbrev Pf:Type:=Unit×Unit×Unit
noncomputable def FR (v1 v2:aR)(v3 v4 v5 v6 v7 v8 v9 v10 v11 v12 v13 v14 v15:Int)(v16:Bool)(v17 v18 v19 v20 v21 v22 v23 v24 v25 v26 v27 v28:Int)(v29:Bool)(v30:Int)(v31:aQ)(v32:br)(v33 v34:aQ)(v35:br)(v36:aQ):Option (R3 G0 QV Pf):=
 cond (decide (v4<v3)) (
  cond ((decide (0≤v4))&&(decide (v4<(v2.length:Int)))) (
   cond ((decide (0≤v4))&&(decide (v4<(v1.length:Int)))) (
    cond ((decide (((v36.length+1) * 24)≤140737488355328))&&(decide ((v36.length+1)≤9223372036854775807))) (
     some (R3.next (((),(),v1,v2,v3,(al .i64 (v4+1)),()),((v5,v6,v7,v8,v9,v10,v11,v12,v13,v14,v15,v16,v17,(),(),(),()),(v18,v19,v20,v21,v22,v23,v24,v25,v26,v27,v28,v29,v30,(),(),(),()),()),v31,v32,v33,v34,v35,(v36++[((al .i64 (ba (rd aW v2 (ae v4)) 8)),(bi (rd aW v2 (ae v4)) 8),(rd aW v1 (ae v4)))]),()))) (
     none)) (
    none)) (
   none)) (
  some (R3.out (((),(),()),((v5,v6,v7,v8,v9,v10,v11,v12,v13,v14,v15,v16,v17,(),(),(),()),(v18,v19,v20,v21,v22,v23,v24,v25,v26,v27,v28,v29,v30,(),(),(),()),()),v31,v32,v33,v34,v35,v36,())))
noncomputable def sY (z:G0):Option (R3 G0 QV Pf):=FR z.1.2.2.1 z.1.2.2.2.1 z.1.2.2.2.2.1 z.1.2.2.2.2.2.1 z.2.1.1.1 z.2.1.1.2.1 z.2.1.1.2.2.1 z.2.1.1.2.2.2.1 z.2.1.1.2.2.2.2.1 z.2.1.1.2.2.2.2.2.1 z.2.1.1.2.2.2.2.2.2.1 z.2.1.1.2.2.2.2.2.2.2.1 z.2.1.1.2.2.2.2.2.2.2.2.1 z.2.1.1.2.2.2.2.2.2.2.2.2.1 z.2.1.1.2.2.2.2.2.2.2.2.2.2.1 z.2.1.1.2.2.2.2.2.2.2.2.2.2.2.1 z.2.1.1.2.2.2.2.2.2.2.2.2.2.2.2.1 z.2.1.2.1.1 z.2.1.2.1.2.1 z.2.1.2.1.2.2.1 z.2.1.2.1.2.2.2.1 z.2.1.2.1.2.2.2.2.1 z.2.1.2.1.2.2.2.2.2.1 z.2.1.2.1.2.2.2.2.2.2.1 z.2.1.2.1.2.2.2.2.2.2.2.1 z.2.1.2.1.2.2.2.2.2.2.2.2.1 z.2.1.2.1.2.2.2.2.2.2.2.2.2.1 z.2.1.2.1.2.2.2.2.2.2.2.2.2.2.1 z.2.1.2.1.2.2.2.2.2.2.2.2.2.2.2.1 z.2.1.2.1.2.2.2.2.2.2.2.2.2.2.2.2.1 z.2.2.1 z.2.2.2.1 z.2.2.2.2.1 z.2.2.2.2.2.1 z.2.2.2.2.2.2.1 z.2.2.2.2.2.2.2.1
noncomputable def f71 (v1:aR):Option (yb×Bool×Unit):=
 ((f100 v1)).bind fun y2=>
 ((f101 y2.1.1)).bind fun y3=>
 cond (!y2.2.1) (
  some ((((0,0),(0,0),0,0,0,0),(0,0,0,false),0,[],[],[]),false,())) (
  cond (!y3.2.1) (
   some ((((0,0),(0,0),0,0,0,0),(0,0,0,false),0,[],[],[]),false,())) (
   cond (decide ((y3.1.length:Int)<15)) (
    some ((((0,0),(0,0),0,0,0,0),(0,0,0,false),0,[],[],[]),false,())) (
    cond (!(decide ((bi (al .i64 ((y3.1.length:Int)-15)) 3)=0))) (
     some ((((0,0),(0,0),0,0,0,0),(0,0,0,false),0,[],[],[]),false,())) (
     cond (decide (11<(y3.1.length:Int))) (
      cond (decide (1<(rd aW y3.1 11))) (
       some ((((0,0),(0,0),0,0,0,0),(0,0,0,false),0,[],[],[]),false,())) (
       cond (decide (0<(y3.1.length:Int))) (
        cond (decide (1<(y3.1.length:Int))) (
         cond (decide (2<(y3.1.length:Int))) (
          cond (decide (3<(y3.1.length:Int))) (
           cond (decide (4<(y3.1.length:Int))) (
            cond (decide (5<(y3.1.length:Int))) (
             cond (decide (6<(y3.1.length:Int))) (
              cond (decide (7<(y3.1.length:Int))) (
               cond (decide (8<(y3.1.length:Int))) (
                cond (decide (9<(y3.1.length:Int))) (
                 cond (decide (10<(y3.1.length:Int))) (
                  cond (decide (11<(y3.1.length:Int))) (
                   cond (decide (12<(y3.1.length:Int))) (
                    cond ((decide (15≤(y3.1.length:Int)))&&(decide ((y3.1.length:Int)≤(y3.1.length:Int)))) (
                     ((iter az dm (((),(),(),0,()),((0,0,0,0,0,0,0,0,0,0,0,false,0,(),(),(),()),(y2.1.1,y2.1.2.1,y2.1.2.2.1,y2.1.2.2.2.1,y2.1.2.2.2.2,()),((rd aW y3.1 0),(rd aW y3.1 1),(rd aW y3.1 2),(rd aW y3.1 3),(rd aW y3.1 4),(rd aW y3.1 5),(rd aW y3.1 6),(rd aW y3.1 7),(rd aW y3.1 8),(rd aW y3.1 9),(rd aW y3.1 10),(decide ((rd aW y3.1 11)=1)),(rd aW y3.1 12),(),(),(),()),((aw 15 (ap (ae (y3.1.length:Int)) y3.1)),()),(3,()),((),(),(),(),(),(),(),(),(),(),(),(),(),(),(),(),(),(),(),(),(),(),(),(),(),(),(),(),(),(),(),(),(),(),(),(),(),(),(),(),(),(),(),(),(),(),(),(),(),(),(),(),(),(),(),(),(),(),(),(),(),(),(),(),(),(),(),(),(),(),(),(),(),(),(),(),(),(),(),(),(),(),(),(),(),(),(),(),(),(),(),(),(),(),(),(),(),(),(),(),(),(),(),(),(),(),(),(),(),(),(),(),(),(),(),(),(),(),(),(),(),(),(),(),(),(),(),(),(),(),(),(),(),(),(),(),(),(),(),(),(),(),(),(),(),(),(),(),(),(),(),(),(),(),(),(),(),(),(),(),(),(),(),(),(),(),(),(),(),(),(),(),(),(),(),(),(),(),(),(),(),(),(),(),(),(),(),(),(),(),(),(),(),(),(),(),(),(),(),(),(),(),(),(),(),(),(),(),(),(),(),(),(),(),(),(),(),(),(),(),(),(),(),(),(),(),(),(),(),(),(),(),(),(),(),(),(),()),()),[],[],[],[],[],[],()))).bind fun r=>match r with
                     | .inl y4=>
                       cond (decide (13<(y3.1.length:Int))) (
                        ((f103 y4.2.1.2.1.2.1 (rd aW y3.1 13) 10)).bind fun y6=>
                        ((f104 y4.2.1.2.1.2.2.1)).bind fun y7=>
                        cond (decide (14<(y3.1.length:Int))) (
                         ((f103 y4.2.1.2.1.2.2.2.1 (rd aW y3.1 14) 5)).bind fun y8=>
                         ((f104 y4.2.1.2.1.2.2.2.2.1)).bind fun y9=>
                         cond (!y6.2.1) (
                          some ((((0,0),(0,0),0,0,0,0),(0,0,0,false),0,[],[],[]),false,())) (
                          cond (!y7.2.1) (
                           some ((((0,0),(0,0),0,0,0,0),(0,0,0,false),0,[],[],[]),false,())) (
                           cond (!y8.2.1) (
                            some ((((0,0),(0,0),0,0,0,0),(0,0,0,false),0,[],[],[]),false,())) (
                            cond (!y9.2.1) (
                             some ((((0,0),(0,0),0,0,0,0),(0,0,0,false),0,[],[],[]),false,())) (
                             cond (!(decide ((y7.1.length:Int)=(y6.1.length:Int)))) (
                              some ((((0,0),(0,0),0,0,0,0),(0,0,0,false),0,[],[],[]),false,())) (
                              cond (!(decide ((y9.1.length:Int)=(y8.1.length:Int)))) (
                               some ((((0,0),(0,0),0,0,0,0),(0,0,0,false),0,[],[],[]),false,())) (
                               ((iter az sr (((),(),y7.1,y8.1,y9.1,y6.1,(y6.1.length:Int),0,()),((y4.2.1.1.1,y4.2.1.1.2.1,y4.2.1.1.2.2.1,y4.2.1.1.2.2.2.1,y4.2.1.1.2.2.2.2.1,y4.2.1.1.2.2.2.2.2.1,y4.2.1.1.2.2.2.2.2.2.1,y4.2.1.1.2.2.2.2.2.2.2.1,y4.2.1.1.2.2.2.2.2.2.2.2.1,y4.2.1.1.2.2.2.2.2.2.2.2.2.1,y4.2.1.1.2.2.2.2.2.2.2.2.2.2.1,y4.2.1.1.2.2.2.2.2.2.2.2.2.2.2.1,y4.2.1.1.2.2.2.2.2.2.2.2.2.2.2.2.1,(),(),(),()),(y4.2.1.2.2.1.1,y4.2.1.2.2.1.2.1,y4.2.1.2.2.1.2.2.1,y4.2.1.2.2.1.2.2.2.1,y4.2.1.2.2.1.2.2.2.2.1,y4.2.1.2.2.1.2.2.2.2.2.1,y4.2.1.2.2.1.2.2.2.2.2.2.1,y4.2.1.2.2.1.2.2.2.2.2.2.2.1,y4.2.1.2.2.1.2.2.2.2.2.2.2.2.1,y4.2.1.2.2.1.2.2.2.2.2.2.2.2.2.1,y4.2.1.2.2.1.2.2.2.2.2.2.2.2.2.2.1,y4.2.1.2.2.1.2.2.2.2.2.2.2.2.2.2.2.1,y4.2.1.2.2.1.2.2.2.2.2.2.2.2.2.2.2.2.1,(),(),(),()),()),y4.2.2.1,y4.2.2.2.1,y4.2.2.2.2.1,y4.2.2.2.2.2.1,y4.2.2.2.2.2.2.1,y4.2.2.2.2.2.2.2.1,()))).bind fun r=>match r with
                               | .inl y10=>
                                 ((iter az sY (((),(),y10.1.2.2.2.1,y10.1.2.2.1,(y10.1.2.2.1.length:Int),0,()),((y10.2.1.1.1,y10.2.1.1.2.1,y10.2.1.1.2.2.1,y10.2.1.1.2.2.2.1,y10.2.1.1.2.2.2.2.1,y10.2.1.1.2.2.2.2.2.1,y10.2.1.1.2.2.2.2.2.2.1,y10.2.1.1.2.2.2.2.2.2.2.1,y10.2.1.1.2.2.2.2.2.2.2.2.1,y10.2.1.1.2.2.2.2.2.2.2.2.2.1,y10.2.1.1.2.2.2.2.2.2.2.2.2.2.1,y10.2.1.1.2.2.2.2.2.2.2.2.2.2.2.1,y10.2.1.1.2.2.2.2.2.2.2.2.2.2.2.2.1,(),(),(),()),(y10.2.1.2.1.1,y10.2.1.2.1.2.1,y10.2.1.2.1.2.2.1,y10.2.1.2.1.2.2.2.1,y10.2.1.2.1.2.2.2.2.1,y10.2.1.2.1.2.2.2.2.2.1,y10.2.1.2.1.2.2.2.2.2.2.1,y10.2.1.2.1.2.2.2.2.2.2.2.1,y10.2.1.2.1.2.2.2.2.2.2.2.2.1,y10.2.1.2.1.2.2.2.2.2.2.2.2.2.1,y10.2.1.2.1.2.2.2.2.2.2.2.2.2.2.1,y10.2.1.2.1.2.2.2.2.2.2.2.2.2.2.2.1,y10.2.1.2.1.2.2.2.2.2.2.2.2.2.2.2.2.1,(),(),(),()),()),y10.2.2.1,y10.2.2.2.1,y10.2.2.2.2.1,y10.2.2.2.2.2.1,y10.2.2.2.2.2.2.1,y10.2.2.2.2.2.2.2.1,()))).bind fun r=>match r with
                                 | .inl y12=>
                                   ((f78 y12.2.1.2.1.1 y12.2.1.2.1.2.1 y12.2.1.2.1.2.2.1 y12.2.1.2.1.2.2.2.1 y12.2.1.2.1.2.2.2.2.1 y12.2.1.2.1.2.2.2.2.2.1 y12.2.1.2.1.2.2.2.2.2.2.1 y12.2.1.2.1.2.2.2.2.2.2.2.1 y12.2.1.2.1.2.2.2.2.2.2.2.2.1 y12.2.1.2.1.2.2.2.2.2.2.2.2.2.1 y12.2.1.2.1.2.2.2.2.2.2.2.2.2.2.1 y12.2.1.2.1.2.2.2.2.2.2.2.2.2.2.2.1 y12.2.1.2.1.2.2.2.2.2.2.2.2.2.2.2.2.1 y12.2.2.2.2.2.1 y12.2.2.2.2.2.2.1 y12.2.2.2.2.2.2.2.1)).bind fun y14=>
                                   cond (!y14.1) (
                                    some ((((0,0),(0,0),0,0,0,0),(0,0,0,false),0,[],[],[]),false,())) (
                                    some ((((y12.2.1.2.1.1,y12.2.1.2.1.2.1),(y12.2.1.2.1.2.2.1,y12.2.1.2.1.2.2.2.1),y12.2.1.2.1.2.2.2.2.1,y12.2.1.2.1.2.2.2.2.2.1,y12.2.1.2.1.2.2.2.2.2.2.1,y12.2.1.2.1.2.2.2.2.2.2.2.1),(y12.2.1.2.1.2.2.2.2.2.2.2.2.1,y12.2.1.2.1.2.2.2.2.2.2.2.2.2.1,y12.2.1.2.1.2.2.2.2.2.2.2.2.2.2.1,y12.2.1.2.1.2.2.2.2.2.2.2.2.2.2.2.1),y12.2.1.2.1.2.2.2.2.2.2.2.2.2.2.2.2.1,y12.2.2.2.2.2.1,y12.2.2.2.2.2.2.1,y12.2.2.2.2.2.2.2.1),true,()))
                                 | .inr z13=>
                                   none
                               | .inr z11=>
                                 none))))))) (
                         none)) (
                        none)
                     | .inr z5=>
                       none) (
                     none)) (
                    none)) (
                   none)) (
                  none)) (
                 none)) (
                none)) (
               none)) (
              none)) (
             none)) (
            none)) (
           none)) (
          none)) (
         none)) (
        none))) (
      none)))))
noncomputable def f39 (v1:aR):Option (yb×Int×Bool×Unit):=
 ((f70 v1 0)).bind fun y2=>
 cond (!(decide (y2.2.2.1=0))) (
  some ((((0,0),(0,0),0,0,0,0),(0,0,0,false),0,[],[],[]),0,false,())) (
  cond (!(decide (y2.1.1=1))) (
   some ((((0,0),(0,0),0,0,0,0),(0,0,0,false),0,[],[],[]),0,false,())) (
   ((f71 y2.1.2)).bind fun y3=>
   cond (!y3.2.1) (
    some ((((0,0),(0,0),0,0,0,0),(0,0,0,false),0,[],[],[]),0,false,())) (
    some ((((y3.1.1.1.1,y3.1.1.1.2),(y3.1.1.2.1.1,y3.1.1.2.1.2),y3.1.1.2.2.1,y3.1.1.2.2.2.1,y3.1.1.2.2.2.2.1,y3.1.1.2.2.2.2.2),(y3.1.2.1.1,y3.1.2.1.2.1,y3.1.2.1.2.2.1,y3.1.2.1.2.2.2),y3.1.2.2.1,y3.1.2.2.2.1,y3.1.2.2.2.2.1,y3.1.2.2.2.2.2),y2.2.1,true,()))))
noncomputable def f75 (v1 v2 v3 v4 v5:Int):Option ((Int×Int×Int)×Unit):=
 some ((v1,v2,v3),())
noncomputable def f83 (v1 v2 v3:Int):Option ct:=
 cond (decide (v2≤v1)) (
  some ((decide (v1≤v3)),())) (
  some (false,()))
noncomputable def f84 (v1 v2 v3 v4 v5 v6 v7 v8:Int)(v9:Bool):Option ct:=
 ((f83 v2 0 1073741824)).bind fun y10=>
 cond (!y10.1) (
  some (false,())) (
  cond (!(decide (v1=6))) (
   cond (!((decide (v6=0))&&((decide (v7=0))&&((decide (v8=0))&&((v9 == false)&&true))))) (
    some (false,())) (
    cond (decide (v1=0)) (
     ((f83 v3 0 31)).bind fun y11=>
     cond y11.1 (
      ((f83 v4 0 3)).bind fun y12=>
      cond y12.1 (
       ((f83 v5 0 7)).bind fun y13=>
       some (y13.1,())) (
       some (false,()))) (
      some (false,()))) (
     cond (decide (v1=1)) (
      ((f83 v3 0 31)).bind fun y14=>
      cond y14.1 (
       ((f83 v4 0 3)).bind fun y15=>
       cond y15.1 (
        ((f83 v5 0 7)).bind fun y16=>
        some (y16.1,())) (
        some (false,()))) (
       some (false,()))) (
      cond (decide (v1=2)) (
       ((f83 v3 0 3)).bind fun y17=>
       cond y17.1 (
        ((f83 v4 1 4)).bind fun y18=>
        cond y18.1 (
         ((f83 v5 0 0)).bind fun y19=>
         some (y19.1,())) (
         some (false,()))) (
        some (false,()))) (
       cond (decide (v1=4)) (
        ((f83 v3 0 2)).bind fun y20=>
        cond y20.1 (
         ((f83 v4 1 4)).bind fun y21=>
         cond y21.1 (
          ((f83 v5 0 0)).bind fun y22=>
          some (y22.1,())) (
          some (false,()))) (
         some (false,()))) (
        cond (decide (v1=3)) (
         ((f83 v3 0 2)).bind fun y23=>
         cond y23.1 (
          ((f83 v4 0 0)).bind fun y24=>
          cond y24.1 (
           ((f83 v5 0 0)).bind fun y25=>
           some (y25.1,())) (
           some (false,()))) (
          some (false,()))) (
         cond (decide (v1=5)) (
          ((f83 v3 0 2)).bind fun y26=>
          cond y26.1 (
           ((f83 v4 0 0)).bind fun y27=>
           cond y27.1 (
            ((f83 v5 0 0)).bind fun y28=>
            some (y28.1,())) (
            some (false,()))) (
           some (false,()))) (
          cond (decide (v1=6)) (
           ((f106 v6 v7 v8 v9)).bind fun y29=>
           cond (!y29.1) (
            some (false,())) (
            ((f83 v3 0 0)).bind fun y30=>
            cond y30.1 (
             ((f83 v4 0 0)).bind fun y31=>
             cond y31.1 (
              ((f83 v5 0 0)).bind fun y32=>
              some (y32.1,())) (
              some (false,()))) (
             some (false,())))) (
           some (false,())))))))))) (
   cond (decide (v1=0)) (
    ((f83 v3 0 31)).bind fun y33=>
    cond y33.1 (
     ((f83 v4 0 3)).bind fun y34=>
     cond y34.1 (
      ((f83 v5 0 7)).bind fun y35=>
      some (y35.1,())) (
      some (false,()))) (
     some (false,()))) (
    cond (decide (v1=1)) (
     ((f83 v3 0 31)).bind fun y36=>
     cond y36.1 (
      ((f83 v4 0 3)).bind fun y37=>
      cond y37.1 (
       ((f83 v5 0 7)).bind fun y38=>
       some (y38.1,())) (
       some (false,()))) (
      some (false,()))) (
     cond (decide (v1=2)) (
      ((f83 v3 0 3)).bind fun y39=>
      cond y39.1 (
       ((f83 v4 1 4)).bind fun y40=>
       cond y40.1 (
        ((f83 v5 0 0)).bind fun y41=>
        some (y41.1,())) (
        some (false,()))) (
       some (false,()))) (
      cond (decide (v1=4)) (
       ((f83 v3 0 2)).bind fun y42=>
       cond y42.1 (
        ((f83 v4 1 4)).bind fun y43=>
        cond y43.1 (
         ((f83 v5 0 0)).bind fun y44=>
         some (y44.1,())) (
         some (false,()))) (
        some (false,()))) (
       cond (decide (v1=3)) (
        ((f83 v3 0 2)).bind fun y45=>
        cond y45.1 (
         ((f83 v4 0 0)).bind fun y46=>
         cond y46.1 (
          ((f83 v5 0 0)).bind fun y47=>
          some (y47.1,())) (
          some (false,()))) (
         some (false,()))) (
        cond (decide (v1=5)) (
         ((f83 v3 0 2)).bind fun y48=>
         cond y48.1 (
          ((f83 v4 0 0)).bind fun y49=>
          cond y49.1 (
           ((f83 v5 0 0)).bind fun y50=>
           some (y50.1,())) (
           some (false,()))) (
          some (false,()))) (
         cond (decide (v1=6)) (
          ((f106 v6 v7 v8 v9)).bind fun y51=>
          cond (!y51.1) (
           some (false,())) (
           ((f83 v3 0 0)).bind fun y52=>
           cond y52.1 (
            ((f83 v4 0 0)).bind fun y53=>
            cond y53.1 (
             ((f83 v5 0 0)).bind fun y54=>
             some (y54.1,())) (
             some (false,()))) (
            some (false,())))) (
          some (false,()))))))))))
abbrev Kn:Type:=l9×((Unit×Unit×Unit×Unit×Unit×Unit×Unit×Unit)×(Int×aR×Int×Int×Int×Int×Int×Int×Int×Int×Bool×Bool×Unit)×Unit)×BN×Unit
abbrev UW:Type:=(Unit)×(Unit)×BN×Unit
abbrev VW:Type:=ct×(Unit)×BN×Unit
noncomputable def Vp (v1:Int)(v2:aR)(v3 v4 v5 v6 v7 v8 v9 v10:Int)(v11 v12:Bool)(v13:BN):Option (R3 Kn UW VW):=
 cond (decide (0<(v2.length:Int))) (
  cond (decide ((v2.length:Int)=0)) (
   cond (decide ((v2.length:Int)=0)) (
    some (R3.ret ((false,()),(),[],()))) (
    cond (decide (0<(v2.length:Int))) (
     cond ((decide (1≤(v2.length:Int)))&&(decide ((v2.length:Int)≤(v2.length:Int)))) (
      some (R3.ret ((false,()),(),[],()))) (
      none)) (
     none))) (
   cond (decide (0<(v2.length:Int))) (
    cond ((decide (1≤(v2.length:Int)))&&(decide ((v2.length:Int)≤(v2.length:Int)))) (
     cond (decide (7≤(bi (rd aW v2 0) 16))) (
      some (R3.ret ((false,()),(),[],()))) (
      cond (decide ((bi (rd aW v2 0) 16)=0)) (
       cond (decide ((((aw 1 (ap (ae (v2.length:Int)) v2)).length:Nat):Int)=0)) (
        some (R3.ret ((false,()),(),[],()))) (
        cond (decide (0<(((aw 1 (ap (ae (v2.length:Int)) v2)).length:Nat):Int))) (
         cond ((decide (1≤(((aw 1 (ap (ae (v2.length:Int)) v2)).length:Nat):Int)))&&(decide ((((aw 1 (ap (ae (v2.length:Int)) v2)).length:Nat):Int)≤(((aw 1 (ap (ae (v2.length:Int)) v2)).length:Nat):Int)))) (
          cond v12 (
           some (R3.ret ((false,()),(),[],()))) (
           ((f84 (bi (rd aW v2 0) 16) (al .i64 (v1+(al .i64 (ba (rd aW v2 0) 16)))) (be (rd aW (aw 1 (ap (ae (v2.length:Int)) v2)) 0) 32) (aG .and .i64 (be (rd aW (aw 1 (ap (ae (v2.length:Int)) v2)) 0) 8) 3) (aG .and .i64 (rd aW (aw 1 (ap (ae (v2.length:Int)) v2)) 0) 7) 0 0 0 false)).bind fun y14=>
           cond (!y14.1) (
            some (R3.ret ((false,()),(),[],()))) (
            cond ((decide (((v13.length+1) * 72)≤140737488355328))&&(decide ((v13.length+1)≤9223372036854775807))) (
             some (R3.next (((),(),()),(((),(),(),(),(),(),(),()),((al .i64 (v1+(al .i64 (ba (rd aW v2 0) 16)))),(aw 1 (ap (ae (((aw 1 (ap (ae (v2.length:Int)) v2)).length:Nat):Int)) (aw 1 (ap (ae (v2.length:Int)) v2)))),(bi (rd aW v2 0) 16),(al .i64 (v1+(al .i64 (ba (rd aW v2 0) 16)))),(be (rd aW (aw 1 (ap (ae (v2.length:Int)) v2)) 0) 32),(aG .and .i64 (be (rd aW (aw 1 (ap (ae (v2.length:Int)) v2)) 0) 8) 3),(aG .and .i64 (rd aW (aw 1 (ap (ae (v2.length:Int)) v2)) 0) 7),0,0,0,false,v12,()),()),(v13++[((bi (rd aW v2 0) 16),(al .i64 (v1+(al .i64 (ba (rd aW v2 0) 16)))),(be (rd aW (aw 1 (ap (ae (v2.length:Int)) v2)) 0) 32),(aG .and .i64 (be (rd aW (aw 1 (ap (ae (v2.length:Int)) v2)) 0) 8) 3),(aG .and .i64 (rd aW (aw 1 (ap (ae (v2.length:Int)) v2)) 0) 7),0,0,0,false)]),()))) (
             none)))) (
          none)) (
         none))) (
       cond (decide ((bi (rd aW v2 0) 16)=1)) (
        cond (decide ((((aw 1 (ap (ae (v2.length:Int)) v2)).length:Nat):Int)=0)) (
         some (R3.ret ((false,()),(),[],()))) (
         cond (decide (0<(((aw 1 (ap (ae (v2.length:Int)) v2)).length:Nat):Int))) (
          cond ((decide (1≤(((aw 1 (ap (ae (v2.length:Int)) v2)).length:Nat):Int)))&&(decide ((((aw 1 (ap (ae (v2.length:Int)) v2)).length:Nat):Int)≤(((aw 1 (ap (ae (v2.length:Int)) v2)).length:Nat):Int)))) (
           cond v12 (
            some (R3.ret ((false,()),(),[],()))) (
            ((f84 (bi (rd aW v2 0) 16) (al .i64 (v1+(al .i64 (ba (rd aW v2 0) 16)))) (be (rd aW (aw 1 (ap (ae (v2.length:Int)) v2)) 0) 32) (aG .and .i64 (be (rd aW (aw 1 (ap (ae (v2.length:Int)) v2)) 0) 8) 3) (aG .and .i64 (rd aW (aw 1 (ap (ae (v2.length:Int)) v2)) 0) 7) 0 0 0 false)).bind fun y15=>
            cond (!y15.1) (
             some (R3.ret ((false,()),(),[],()))) (
             cond ((decide (((v13.length+1) * 72)≤140737488355328))&&(decide ((v13.length+1)≤9223372036854775807))) (
              some (R3.next (((),(),()),(((),(),(),(),(),(),(),()),((al .i64 (v1+(al .i64 (ba (rd aW v2 0) 16)))),(aw 1 (ap (ae (((aw 1 (ap (ae (v2.length:Int)) v2)).length:Nat):Int)) (aw 1 (ap (ae (v2.length:Int)) v2)))),(bi (rd aW v2 0) 16),(al .i64 (v1+(al .i64 (ba (rd aW v2 0) 16)))),(be (rd aW (aw 1 (ap (ae (v2.length:Int)) v2)) 0) 32),(aG .and .i64 (be (rd aW (aw 1 (ap (ae (v2.length:Int)) v2)) 0) 8) 3),(aG .and .i64 (rd aW (aw 1 (ap (ae (v2.length:Int)) v2)) 0) 7),0,0,0,false,v12,()),()),(v13++[((bi (rd aW v2 0) 16),(al .i64 (v1+(al .i64 (ba (rd aW v2 0) 16)))),(be (rd aW (aw 1 (ap (ae (v2.length:Int)) v2)) 0) 32),(aG .and .i64 (be (rd aW (aw 1 (ap (ae (v2.length:Int)) v2)) 0) 8) 3),(aG .and .i64 (rd aW (aw 1 (ap (ae (v2.length:Int)) v2)) 0) 7),0,0,0,false)]),()))) (
              none)))) (
           none)) (
          none))) (
        cond (decide ((bi (rd aW v2 0) 16)=2)) (
         cond (decide ((((aw 1 (ap (ae (v2.length:Int)) v2)).length:Nat):Int)=0)) (
          some (R3.ret ((false,()),(),[],()))) (
          cond (decide (0<(((aw 1 (ap (ae (v2.length:Int)) v2)).length:Nat):Int))) (
           cond ((decide (1≤(((aw 1 (ap (ae (v2.length:Int)) v2)).length:Nat):Int)))&&(decide ((((aw 1 (ap (ae (v2.length:Int)) v2)).length:Nat):Int)≤(((aw 1 (ap (ae (v2.length:Int)) v2)).length:Nat):Int)))) (
            cond v12 (
             some (R3.ret ((false,()),(),[],()))) (
             ((f84 (bi (rd aW v2 0) 16) (al .i64 (v1+(al .i64 (ba (rd aW v2 0) 16)))) (be (rd aW (aw 1 (ap (ae (v2.length:Int)) v2)) 0) 8) (aG .and .i64 (rd aW (aw 1 (ap (ae (v2.length:Int)) v2)) 0) 7) 0 0 0 0 false)).bind fun y16=>
             cond (!y16.1) (
              some (R3.ret ((false,()),(),[],()))) (
              cond ((decide (((v13.length+1) * 72)≤140737488355328))&&(decide ((v13.length+1)≤9223372036854775807))) (
               some (R3.next (((),(),()),(((),(),(),(),(),(),(),()),((al .i64 (v1+(al .i64 (ba (rd aW v2 0) 16)))),(aw 1 (ap (ae (((aw 1 (ap (ae (v2.length:Int)) v2)).length:Nat):Int)) (aw 1 (ap (ae (v2.length:Int)) v2)))),(bi (rd aW v2 0) 16),(al .i64 (v1+(al .i64 (ba (rd aW v2 0) 16)))),(be (rd aW (aw 1 (ap (ae (v2.length:Int)) v2)) 0) 8),(aG .and .i64 (rd aW (aw 1 (ap (ae (v2.length:Int)) v2)) 0) 7),0,0,0,0,false,v12,()),()),(v13++[((bi (rd aW v2 0) 16),(al .i64 (v1+(al .i64 (ba (rd aW v2 0) 16)))),(be (rd aW (aw 1 (ap (ae (v2.length:Int)) v2)) 0) 8),(aG .and .i64 (rd aW (aw 1 (ap (ae (v2.length:Int)) v2)) 0) 7),0,0,0,0,false)]),()))) (
               none)))) (
            none)) (
           none))) (
         cond (decide ((bi (rd aW v2 0) 16)=3)) (
          cond (decide ((((aw 1 (ap (ae (v2.length:Int)) v2)).length:Nat):Int)=0)) (
           some (R3.ret ((false,()),(),[],()))) (
           cond (decide (0<(((aw 1 (ap (ae (v2.length:Int)) v2)).length:Nat):Int))) (
            cond ((decide (1≤(((aw 1 (ap (ae (v2.length:Int)) v2)).length:Nat):Int)))&&(decide ((((aw 1 (ap (ae (v2.length:Int)) v2)).length:Nat):Int)≤(((aw 1 (ap (ae (v2.length:Int)) v2)).length:Nat):Int)))) (
             cond v12 (
              some (R3.ret ((false,()),(),[],()))) (
              ((f84 (bi (rd aW v2 0) 16) (al .i64 (v1+(al .i64 (ba (rd aW v2 0) 16)))) (rd aW (aw 1 (ap (ae (v2.length:Int)) v2)) 0) 0 0 0 0 0 false)).bind fun y17=>
              cond (!y17.1) (
               some (R3.ret ((false,()),(),[],()))) (
               cond ((decide (((v13.length+1) * 72)≤140737488355328))&&(decide ((v13.length+1)≤9223372036854775807))) (
                some (R3.next (((),(),()),(((),(),(),(),(),(),(),()),((al .i64 (v1+(al .i64 (ba (rd aW v2 0) 16)))),(aw 1 (ap (ae (((aw 1 (ap (ae (v2.length:Int)) v2)).length:Nat):Int)) (aw 1 (ap (ae (v2.length:Int)) v2)))),(bi (rd aW v2 0) 16),(al .i64 (v1+(al .i64 (ba (rd aW v2 0) 16)))),(rd aW (aw 1 (ap (ae (v2.length:Int)) v2)) 0),0,0,0,0,0,false,v12,()),()),(v13++[((bi (rd aW v2 0) 16),(al .i64 (v1+(al .i64 (ba (rd aW v2 0) 16)))),(rd aW (aw 1 (ap (ae (v2.length:Int)) v2)) 0),0,0,0,0,0,false)]),()))) (
                none)))) (
             none)) (
            none))) (
          cond (decide ((bi (rd aW v2 0) 16)=4)) (
           cond (decide ((((aw 1 (ap (ae (v2.length:Int)) v2)).length:Nat):Int)=0)) (
            some (R3.ret ((false,()),(),[],()))) (
            cond (decide (0<(((aw 1 (ap (ae (v2.length:Int)) v2)).length:Nat):Int))) (
             cond ((decide (1≤(((aw 1 (ap (ae (v2.length:Int)) v2)).length:Nat):Int)))&&(decide ((((aw 1 (ap (ae (v2.length:Int)) v2)).length:Nat):Int)≤(((aw 1 (ap (ae (v2.length:Int)) v2)).length:Nat):Int)))) (
              cond v12 (
               some (R3.ret ((false,()),(),[],()))) (
               ((f84 (bi (rd aW v2 0) 16) (al .i64 (v1+(al .i64 (ba (rd aW v2 0) 16)))) (be (rd aW (aw 1 (ap (ae (v2.length:Int)) v2)) 0) 8) (aG .and .i64 (rd aW (aw 1 (ap (ae (v2.length:Int)) v2)) 0) 7) 0 0 0 0 false)).bind fun y18=>
               cond (!y18.1) (
                some (R3.ret ((false,()),(),[],()))) (
                cond ((decide (((v13.length+1) * 72)≤140737488355328))&&(decide ((v13.length+1)≤9223372036854775807))) (
                 some (R3.next (((),(),()),(((),(),(),(),(),(),(),()),((al .i64 (v1+(al .i64 (ba (rd aW v2 0) 16)))),(aw 1 (ap (ae (((aw 1 (ap (ae (v2.length:Int)) v2)).length:Nat):Int)) (aw 1 (ap (ae (v2.length:Int)) v2)))),(bi (rd aW v2 0) 16),(al .i64 (v1+(al .i64 (ba (rd aW v2 0) 16)))),(be (rd aW (aw 1 (ap (ae (v2.length:Int)) v2)) 0) 8),(aG .and .i64 (rd aW (aw 1 (ap (ae (v2.length:Int)) v2)) 0) 7),0,0,0,0,false,v12,()),()),(v13++[((bi (rd aW v2 0) 16),(al .i64 (v1+(al .i64 (ba (rd aW v2 0) 16)))),(be (rd aW (aw 1 (ap (ae (v2.length:Int)) v2)) 0) 8),(aG .and .i64 (rd aW (aw 1 (ap (ae (v2.length:Int)) v2)) 0) 7),0,0,0,0,false)]),()))) (
                 none)))) (
              none)) (
             none))) (
           cond (decide ((bi (rd aW v2 0) 16)=5)) (
            cond (decide ((((aw 1 (ap (ae (v2.length:Int)) v2)).length:Nat):Int)=0)) (
             some (R3.ret ((false,()),(),[],()))) (
             cond (decide (0<(((aw 1 (ap (ae (v2.length:Int)) v2)).length:Nat):Int))) (
              cond ((decide (1≤(((aw 1 (ap (ae (v2.length:Int)) v2)).length:Nat):Int)))&&(decide ((((aw 1 (ap (ae (v2.length:Int)) v2)).length:Nat):Int)≤(((aw 1 (ap (ae (v2.length:Int)) v2)).length:Nat):Int)))) (
               cond v12 (
                some (R3.ret ((false,()),(),[],()))) (
                ((f84 (bi (rd aW v2 0) 16) (al .i64 (v1+(al .i64 (ba (rd aW v2 0) 16)))) (rd aW (aw 1 (ap (ae (v2.length:Int)) v2)) 0) 0 0 0 0 0 false)).bind fun y19=>
                cond (!y19.1) (
                 some (R3.ret ((false,()),(),[],()))) (
                 cond ((decide (((v13.length+1) * 72)≤140737488355328))&&(decide ((v13.length+1)≤9223372036854775807))) (
                  some (R3.next (((),(),()),(((),(),(),(),(),(),(),()),((al .i64 (v1+(al .i64 (ba (rd aW v2 0) 16)))),(aw 1 (ap (ae (((aw 1 (ap (ae (v2.length:Int)) v2)).length:Nat):Int)) (aw 1 (ap (ae (v2.length:Int)) v2)))),(bi (rd aW v2 0) 16),(al .i64 (v1+(al .i64 (ba (rd aW v2 0) 16)))),(rd aW (aw 1 (ap (ae (v2.length:Int)) v2)) 0),0,0,0,0,0,false,v12,()),()),(v13++[((bi (rd aW v2 0) 16),(al .i64 (v1+(al .i64 (ba (rd aW v2 0) 16)))),(rd aW (aw 1 (ap (ae (v2.length:Int)) v2)) 0),0,0,0,0,0,false)]),()))) (
                  none)))) (
               none)) (
              none))) (
            cond (decide ((bi (rd aW v2 0) 16)=6)) (
             cond (decide ((((aw 1 (ap (ae (v2.length:Int)) v2)).length:Nat):Int)=0)) (
              cond (decide ((((aw 1 (ap (ae (v2.length:Int)) v2)).length:Nat):Int)=0)) (
               cond (decide ((((aw 1 (ap (ae (v2.length:Int)) v2)).length:Nat):Int)=0)) (
                cond (decide ((((aw 1 (ap (ae (v2.length:Int)) v2)).length:Nat):Int)=0)) (
                 some (R3.ret ((false,()),(),[],()))) (
                 cond (decide (0<(((aw 1 (ap (ae (v2.length:Int)) v2)).length:Nat):Int))) (
                  cond ((decide (1≤(((aw 1 (ap (ae (v2.length:Int)) v2)).length:Nat):Int)))&&(decide ((((aw 1 (ap (ae (v2.length:Int)) v2)).length:Nat):Int)≤(((aw 1 (ap (ae (v2.length:Int)) v2)).length:Nat):Int)))) (
                   some (R3.ret ((false,()),(),[],()))) (
                   none)) (
                  none))) (
                cond (decide (0<(((aw 1 (ap (ae (v2.length:Int)) v2)).length:Nat):Int))) (
                 cond ((decide (1≤(((aw 1 (ap (ae (v2.length:Int)) v2)).length:Nat):Int)))&&(decide ((((aw 1 (ap (ae (v2.length:Int)) v2)).length:Nat):Int)≤(((aw 1 (ap (ae (v2.length:Int)) v2)).length:Nat):Int)))) (
                  cond (decide ((((aw 1 (ap (ae (((aw 1 (ap (ae (v2.length:Int)) v2)).length:Nat):Int)) (aw 1 (ap (ae (v2.length:Int)) v2)))).length:Nat):Int)=0)) (
                   some (R3.ret ((false,()),(),[],()))) (
                   cond (decide (0<(((aw 1 (ap (ae (((aw 1 (ap (ae (v2.length:Int)) v2)).length:Nat):Int)) (aw 1 (ap (ae (v2.length:Int)) v2)))).length:Nat):Int))) (
                    cond ((decide (1≤(((aw 1 (ap (ae (((aw 1 (ap (ae (v2.length:Int)) v2)).length:Nat):Int)) (aw 1 (ap (ae (v2.length:Int)) v2)))).length:Nat):Int)))&&(decide ((((aw 1 (ap (ae (((aw 1 (ap (ae (v2.length:Int)) v2)).length:Nat):Int)) (aw 1 (ap (ae (v2.length:Int)) v2)))).length:Nat):Int)≤(((aw 1 (ap (ae (((aw 1 (ap (ae (v2.length:Int)) v2)).length:Nat):Int)) (aw 1 (ap (ae (v2.length:Int)) v2)))).length:Nat):Int)))) (
                     some (R3.ret ((false,()),(),[],()))) (
                     none)) (
                    none))) (
                  none)) (
                 none))) (
               cond (decide (0<(((aw 1 (ap (ae (v2.length:Int)) v2)).length:Nat):Int))) (
                cond ((decide (1≤(((aw 1 (ap (ae (v2.length:Int)) v2)).length:Nat):Int)))&&(decide ((((aw 1 (ap (ae (v2.length:Int)) v2)).length:Nat):Int)≤(((aw 1 (ap (ae (v2.length:Int)) v2)).length:Nat):Int)))) (
                 cond (decide ((((aw 1 (ap (ae (((aw 1 (ap (ae (v2.length:Int)) v2)).length:Nat):Int)) (aw 1 (ap (ae (v2.length:Int)) v2)))).length:Nat):Int)=0)) (
                  cond (decide ((((aw 1 (ap (ae (((aw 1 (ap (ae (v2.length:Int)) v2)).length:Nat):Int)) (aw 1 (ap (ae (v2.length:Int)) v2)))).length:Nat):Int)=0)) (
                   some (R3.ret ((false,()),(),[],()))) (
                   cond (decide (0<(((aw 1 (ap (ae (((aw 1 (ap (ae (v2.length:Int)) v2)).length:Nat):Int)) (aw 1 (ap (ae (v2.length:Int)) v2)))).length:Nat):Int))) (
                    cond ((decide (1≤(((aw 1 (ap (ae (((aw 1 (ap (ae (v2.length:Int)) v2)).length:Nat):Int)) (aw 1 (ap (ae (v2.length:Int)) v2)))).length:Nat):Int)))&&(decide ((((aw 1 (ap (ae (((aw 1 (ap (ae (v2.length:Int)) v2)).length:Nat):Int)) (aw 1 (ap (ae (v2.length:Int)) v2)))).length:Nat):Int)≤(((aw 1 (ap (ae (((aw 1 (ap (ae (v2.length:Int)) v2)).length:Nat):Int)) (aw 1 (ap (ae (v2.length:Int)) v2)))).length:Nat):Int)))) (
                     some (R3.ret ((false,()),(),[],()))) (
                     none)) (
                    none))) (
                  cond (decide (0<(((aw 1 (ap (ae (((aw 1 (ap (ae (v2.length:Int)) v2)).length:Nat):Int)) (aw 1 (ap (ae (v2.length:Int)) v2)))).length:Nat):Int))) (
                   cond ((decide (1≤(((aw 1 (ap (ae (((aw 1 (ap (ae (v2.length:Int)) v2)).length:Nat):Int)) (aw 1 (ap (ae (v2.length:Int)) v2)))).length:Nat):Int)))&&(decide ((((aw 1 (ap (ae (((aw 1 (ap (ae (v2.length:Int)) v2)).length:Nat):Int)) (aw 1 (ap (ae (v2.length:Int)) v2)))).length:Nat):Int)≤(((aw 1 (ap (ae (((aw 1 (ap (ae (v2.length:Int)) v2)).length:Nat):Int)) (aw 1 (ap (ae (v2.length:Int)) v2)))).length:Nat):Int)))) (
                    cond (decide ((((aw 1 (ap (ae (((aw 1 (ap (ae (((aw 1 (ap (ae (v2.length:Int)) v2)).length:Nat):Int)) (aw 1 (ap (ae (v2.length:Int)) v2)))).length:Nat):Int)) (aw 1 (ap (ae (((aw 1 (ap (ae (v2.length:Int)) v2)).length:Nat):Int)) (aw 1 (ap (ae (v2.length:Int)) v2)))))).length:Nat):Int)=0)) (
                     some (R3.ret ((false,()),(),[],()))) (
                     cond (decide (0<(((aw 1 (ap (ae (((aw 1 (ap (ae (((aw 1 (ap (ae (v2.length:Int)) v2)).length:Nat):Int)) (aw 1 (ap (ae (v2.length:Int)) v2)))).length:Nat):Int)) (aw 1 (ap (ae (((aw 1 (ap (ae (v2.length:Int)) v2)).length:Nat):Int)) (aw 1 (ap (ae (v2.length:Int)) v2)))))).length:Nat):Int))) (
                      cond ((decide (1≤(((aw 1 (ap (ae (((aw 1 (ap (ae (((aw 1 (ap (ae (v2.length:Int)) v2)).length:Nat):Int)) (aw 1 (ap (ae (v2.length:Int)) v2)))).length:Nat):Int)) (aw 1 (ap (ae (((aw 1 (ap (ae (v2.length:Int)) v2)).length:Nat):Int)) (aw 1 (ap (ae (v2.length:Int)) v2)))))).length:Nat):Int)))&&(decide ((((aw 1 (ap (ae (((aw 1 (ap (ae (((aw 1 (ap (ae (v2.length:Int)) v2)).length:Nat):Int)) (aw 1 (ap (ae (v2.length:Int)) v2)))).length:Nat):Int)) (aw 1 (ap (ae (((aw 1 (ap (ae (v2.length:Int)) v2)).length:Nat):Int)) (aw 1 (ap (ae (v2.length:Int)) v2)))))).length:Nat):Int)≤(((aw 1 (ap (ae (((aw 1 (ap (ae (((aw 1 (ap (ae (v2.length:Int)) v2)).length:Nat):Int)) (aw 1 (ap (ae (v2.length:Int)) v2)))).length:Nat):Int)) (aw 1 (ap (ae (((aw 1 (ap (ae (v2.length:Int)) v2)).length:Nat):Int)) (aw 1 (ap (ae (v2.length:Int)) v2)))))).length:Nat):Int)))) (
                       some (R3.ret ((false,()),(),[],()))) (
                       none)) (
                      none))) (
                    none)) (
                   none))) (
                 none)) (
                none))) (
              cond (decide (0<(((aw 1 (ap (ae (v2.length:Int)) v2)).length:Nat):Int))) (
               cond ((decide (1≤(((aw 1 (ap (ae (v2.length:Int)) v2)).length:Nat):Int)))&&(decide ((((aw 1 (ap (ae (v2.length:Int)) v2)).length:Nat):Int)≤(((aw 1 (ap (ae (v2.length:Int)) v2)).length:Nat):Int)))) (
                cond (decide ((((aw 1 (ap (ae (((aw 1 (ap (ae (v2.length:Int)) v2)).length:Nat):Int)) (aw 1 (ap (ae (v2.length:Int)) v2)))).length:Nat):Int)=0)) (
                 cond (decide ((((aw 1 (ap (ae (((aw 1 (ap (ae (v2.length:Int)) v2)).length:Nat):Int)) (aw 1 (ap (ae (v2.length:Int)) v2)))).length:Nat):Int)=0)) (
                  cond (decide ((((aw 1 (ap (ae (((aw 1 (ap (ae (v2.length:Int)) v2)).length:Nat):Int)) (aw 1 (ap (ae (v2.length:Int)) v2)))).length:Nat):Int)=0)) (
                   some (R3.ret ((false,()),(),[],()))) (
                   cond (decide (0<(((aw 1 (ap (ae (((aw 1 (ap (ae (v2.length:Int)) v2)).length:Nat):Int)) (aw 1 (ap (ae (v2.length:Int)) v2)))).length:Nat):Int))) (
                    cond ((decide (1≤(((aw 1 (ap (ae (((aw 1 (ap (ae (v2.length:Int)) v2)).length:Nat):Int)) (aw 1 (ap (ae (v2.length:Int)) v2)))).length:Nat):Int)))&&(decide ((((aw 1 (ap (ae (((aw 1 (ap (ae (v2.length:Int)) v2)).length:Nat):Int)) (aw 1 (ap (ae (v2.length:Int)) v2)))).length:Nat):Int)≤(((aw 1 (ap (ae (((aw 1 (ap (ae (v2.length:Int)) v2)).length:Nat):Int)) (aw 1 (ap (ae (v2.length:Int)) v2)))).length:Nat):Int)))) (
                     some (R3.ret ((false,()),(),[],()))) (
                     none)) (
                    none))) (
                  cond (decide (0<(((aw 1 (ap (ae (((aw 1 (ap (ae (v2.length:Int)) v2)).length:Nat):Int)) (aw 1 (ap (ae (v2.length:Int)) v2)))).length:Nat):Int))) (
                   cond ((decide (1≤(((aw 1 (ap (ae (((aw 1 (ap (ae (v2.length:Int)) v2)).length:Nat):Int)) (aw 1 (ap (ae (v2.length:Int)) v2)))).length:Nat):Int)))&&(decide ((((aw 1 (ap (ae (((aw 1 (ap (ae (v2.length:Int)) v2)).length:Nat):Int)) (aw 1 (ap (ae (v2.length:Int)) v2)))).length:Nat):Int)≤(((aw 1 (ap (ae (((aw 1 (ap (ae (v2.length:Int)) v2)).length:Nat):Int)) (aw 1 (ap (ae (v2.length:Int)) v2)))).length:Nat):Int)))) (
                    cond (decide ((((aw 1 (ap (ae (((aw 1 (ap (ae (((aw 1 (ap (ae (v2.length:Int)) v2)).length:Nat):Int)) (aw 1 (ap (ae (v2.length:Int)) v2)))).length:Nat):Int)) (aw 1 (ap (ae (((aw 1 (ap (ae (v2.length:Int)) v2)).length:Nat):Int)) (aw 1 (ap (ae (v2.length:Int)) v2)))))).length:Nat):Int)=0)) (
                     some (R3.ret ((false,()),(),[],()))) (
                     cond (decide (0<(((aw 1 (ap (ae (((aw 1 (ap (ae (((aw 1 (ap (ae (v2.length:Int)) v2)).length:Nat):Int)) (aw 1 (ap (ae (v2.length:Int)) v2)))).length:Nat):Int)) (aw 1 (ap (ae (((aw 1 (ap (ae (v2.length:Int)) v2)).length:Nat):Int)) (aw 1 (ap (ae (v2.length:Int)) v2)))))).length:Nat):Int))) (
                      cond ((decide (1≤(((aw 1 (ap (ae (((aw 1 (ap (ae (((aw 1 (ap (ae (v2.length:Int)) v2)).length:Nat):Int)) (aw 1 (ap (ae (v2.length:Int)) v2)))).length:Nat):Int)) (aw 1 (ap (ae (((aw 1 (ap (ae (v2.length:Int)) v2)).length:Nat):Int)) (aw 1 (ap (ae (v2.length:Int)) v2)))))).length:Nat):Int)))&&(decide ((((aw 1 (ap (ae (((aw 1 (ap (ae (((aw 1 (ap (ae (v2.length:Int)) v2)).length:Nat):Int)) (aw 1 (ap (ae (v2.length:Int)) v2)))).length:Nat):Int)) (aw 1 (ap (ae (((aw 1 (ap (ae (v2.length:Int)) v2)).length:Nat):Int)) (aw 1 (ap (ae (v2.length:Int)) v2)))))).length:Nat):Int)≤(((aw 1 (ap (ae (((aw 1 (ap (ae (((aw 1 (ap (ae (v2.length:Int)) v2)).length:Nat):Int)) (aw 1 (ap (ae (v2.length:Int)) v2)))).length:Nat):Int)) (aw 1 (ap (ae (((aw 1 (ap (ae (v2.length:Int)) v2)).length:Nat):Int)) (aw 1 (ap (ae (v2.length:Int)) v2)))))).length:Nat):Int)))) (
                       some (R3.ret ((false,()),(),[],()))) (
                       none)) (
                      none))) (
                    none)) (
                   none))) (
                 cond (decide (0<(((aw 1 (ap (ae (((aw 1 (ap (ae (v2.length:Int)) v2)).length:Nat):Int)) (aw 1 (ap (ae (v2.length:Int)) v2)))).length:Nat):Int))) (
                  cond ((decide (1≤(((aw 1 (ap (ae (((aw 1 (ap (ae (v2.length:Int)) v2)).length:Nat):Int)) (aw 1 (ap (ae (v2.length:Int)) v2)))).length:Nat):Int)))&&(decide ((((aw 1 (ap (ae (((aw 1 (ap (ae (v2.length:Int)) v2)).length:Nat):Int)) (aw 1 (ap (ae (v2.length:Int)) v2)))).length:Nat):Int)≤(((aw 1 (ap (ae (((aw 1 (ap (ae (v2.length:Int)) v2)).length:Nat):Int)) (aw 1 (ap (ae (v2.length:Int)) v2)))).length:Nat):Int)))) (
                   cond (decide ((((aw 1 (ap (ae (((aw 1 (ap (ae (((aw 1 (ap (ae (v2.length:Int)) v2)).length:Nat):Int)) (aw 1 (ap (ae (v2.length:Int)) v2)))).length:Nat):Int)) (aw 1 (ap (ae (((aw 1 (ap (ae (v2.length:Int)) v2)).length:Nat):Int)) (aw 1 (ap (ae (v2.length:Int)) v2)))))).length:Nat):Int)=0)) (
                    cond (decide ((((aw 1 (ap (ae (((aw 1 (ap (ae (((aw 1 (ap (ae (v2.length:Int)) v2)).length:Nat):Int)) (aw 1 (ap (ae (v2.length:Int)) v2)))).length:Nat):Int)) (aw 1 (ap (ae (((aw 1 (ap (ae (v2.length:Int)) v2)).length:Nat):Int)) (aw 1 (ap (ae (v2.length:Int)) v2)))))).length:Nat):Int)=0)) (
                     some (R3.ret ((false,()),(),[],()))) (
                     cond (decide (0<(((aw 1 (ap (ae (((aw 1 (ap (ae (((aw 1 (ap (ae (v2.length:Int)) v2)).length:Nat):Int)) (aw 1 (ap (ae (v2.length:Int)) v2)))).length:Nat):Int)) (aw 1 (ap (ae (((aw 1 (ap (ae (v2.length:Int)) v2)).length:Nat):Int)) (aw 1 (ap (ae (v2.length:Int)) v2)))))).length:Nat):Int))) (
                      cond ((decide (1≤(((aw 1 (ap (ae (((aw 1 (ap (ae (((aw 1 (ap (ae (v2.length:Int)) v2)).length:Nat):Int)) (aw 1 (ap (ae (v2.length:Int)) v2)))).length:Nat):Int)) (aw 1 (ap (ae (((aw 1 (ap (ae (v2.length:Int)) v2)).length:Nat):Int)) (aw 1 (ap (ae (v2.length:Int)) v2)))))).length:Nat):Int)))&&(decide ((((aw 1 (ap (ae (((aw 1 (ap (ae (((aw 1 (ap (ae (v2.length:Int)) v2)).length:Nat):Int)) (aw 1 (ap (ae (v2.length:Int)) v2)))).length:Nat):Int)) (aw 1 (ap (ae (((aw 1 (ap (ae (v2.length:Int)) v2)).length:Nat):Int)) (aw 1 (ap (ae (v2.length:Int)) v2)))))).length:Nat):Int)≤(((aw 1 (ap (ae (((aw 1 (ap (ae (((aw 1 (ap (ae (v2.length:Int)) v2)).length:Nat):Int)) (aw 1 (ap (ae (v2.length:Int)) v2)))).length:Nat):Int)) (aw 1 (ap (ae (((aw 1 (ap (ae (v2.length:Int)) v2)).length:Nat):Int)) (aw 1 (ap (ae (v2.length:Int)) v2)))))).length:Nat):Int)))) (
                       some (R3.ret ((false,()),(),[],()))) (
                       none)) (
                      none))) (
                    cond (decide (0<(((aw 1 (ap (ae (((aw 1 (ap (ae (((aw 1 (ap (ae (v2.length:Int)) v2)).length:Nat):Int)) (aw 1 (ap (ae (v2.length:Int)) v2)))).length:Nat):Int)) (aw 1 (ap (ae (((aw 1 (ap (ae (v2.length:Int)) v2)).length:Nat):Int)) (aw 1 (ap (ae (v2.length:Int)) v2)))))).length:Nat):Int))) (
                     cond ((decide (1≤(((aw 1 (ap (ae (((aw 1 (ap (ae (((aw 1 (ap (ae (v2.length:Int)) v2)).length:Nat):Int)) (aw 1 (ap (ae (v2.length:Int)) v2)))).length:Nat):Int)) (aw 1 (ap (ae (((aw 1 (ap (ae (v2.length:Int)) v2)).length:Nat):Int)) (aw 1 (ap (ae (v2.length:Int)) v2)))))).length:Nat):Int)))&&(decide ((((aw 1 (ap (ae (((aw 1 (ap (ae (((aw 1 (ap (ae (v2.length:Int)) v2)).length:Nat):Int)) (aw 1 (ap (ae (v2.length:Int)) v2)))).length:Nat):Int)) (aw 1 (ap (ae (((aw 1 (ap (ae (v2.length:Int)) v2)).length:Nat):Int)) (aw 1 (ap (ae (v2.length:Int)) v2)))))).length:Nat):Int)≤(((aw 1 (ap (ae (((aw 1 (ap (ae (((aw 1 (ap (ae (v2.length:Int)) v2)).length:Nat):Int)) (aw 1 (ap (ae (v2.length:Int)) v2)))).length:Nat):Int)) (aw 1 (ap (ae (((aw 1 (ap (ae (v2.length:Int)) v2)).length:Nat):Int)) (aw 1 (ap (ae (v2.length:Int)) v2)))))).length:Nat):Int)))) (
                      cond (decide ((((aw 1 (ap (ae (((aw 1 (ap (ae (((aw 1 (ap (ae (((aw 1 (ap (ae (v2.length:Int)) v2)).length:Nat):Int)) (aw 1 (ap (ae (v2.length:Int)) v2)))).length:Nat):Int)) (aw 1 (ap (ae (((aw 1 (ap (ae (v2.length:Int)) v2)).length:Nat):Int)) (aw 1 (ap (ae (v2.length:Int)) v2)))))).length:Nat):Int)) (aw 1 (ap (ae (((aw 1 (ap (ae (((aw 1 (ap (ae (v2.length:Int)) v2)).length:Nat):Int)) (aw 1 (ap (ae (v2.length:Int)) v2)))).length:Nat):Int)) (aw 1 (ap (ae (((aw 1 (ap (ae (v2.length:Int)) v2)).length:Nat):Int)) (aw 1 (ap (ae (v2.length:Int)) v2)))))))).length:Nat):Int)=0)) (
                       some (R3.ret ((false,()),(),[],()))) (
                       cond (decide (0<(((aw 1 (ap (ae (((aw 1 (ap (ae (((aw 1 (ap (ae (((aw 1 (ap (ae (v2.length:Int)) v2)).length:Nat):Int)) (aw 1 (ap (ae (v2.length:Int)) v2)))).length:Nat):Int)) (aw 1 (ap (ae (((aw 1 (ap (ae (v2.length:Int)) v2)).length:Nat):Int)) (aw 1 (ap (ae (v2.length:Int)) v2)))))).length:Nat):Int)) (aw 1 (ap (ae (((aw 1 (ap (ae (((aw 1 (ap (ae (v2.length:Int)) v2)).length:Nat):Int)) (aw 1 (ap (ae (v2.length:Int)) v2)))).length:Nat):Int)) (aw 1 (ap (ae (((aw 1 (ap (ae (v2.length:Int)) v2)).length:Nat):Int)) (aw 1 (ap (ae (v2.length:Int)) v2)))))))).length:Nat):Int))) (
                        cond ((decide (1≤(((aw 1 (ap (ae (((aw 1 (ap (ae (((aw 1 (ap (ae (((aw 1 (ap (ae (v2.length:Int)) v2)).length:Nat):Int)) (aw 1 (ap (ae (v2.length:Int)) v2)))).length:Nat):Int)) (aw 1 (ap (ae (((aw 1 (ap (ae (v2.length:Int)) v2)).length:Nat):Int)) (aw 1 (ap (ae (v2.length:Int)) v2)))))).length:Nat):Int)) (aw 1 (ap (ae (((aw 1 (ap (ae (((aw 1 (ap (ae (v2.length:Int)) v2)).length:Nat):Int)) (aw 1 (ap (ae (v2.length:Int)) v2)))).length:Nat):Int)) (aw 1 (ap (ae (((aw 1 (ap (ae (v2.length:Int)) v2)).length:Nat):Int)) (aw 1 (ap (ae (v2.length:Int)) v2)))))))).length:Nat):Int)))&&(decide ((((aw 1 (ap (ae (((aw 1 (ap (ae (((aw 1 (ap (ae (((aw 1 (ap (ae (v2.length:Int)) v2)).length:Nat):Int)) (aw 1 (ap (ae (v2.length:Int)) v2)))).length:Nat):Int)) (aw 1 (ap (ae (((aw 1 (ap (ae (v2.length:Int)) v2)).length:Nat):Int)) (aw 1 (ap (ae (v2.length:Int)) v2)))))).length:Nat):Int)) (aw 1 (ap (ae (((aw 1 (ap (ae (((aw 1 (ap (ae (v2.length:Int)) v2)).length:Nat):Int)) (aw 1 (ap (ae (v2.length:Int)) v2)))).length:Nat):Int)) (aw 1 (ap (ae (((aw 1 (ap (ae (v2.length:Int)) v2)).length:Nat):Int)) (aw 1 (ap (ae (v2.length:Int)) v2)))))))).length:Nat):Int)≤(((aw 1 (ap (ae (((aw 1 (ap (ae (((aw 1 (ap (ae (((aw 1 (ap (ae (v2.length:Int)) v2)).length:Nat):Int)) (aw 1 (ap (ae (v2.length:Int)) v2)))).length:Nat):Int)) (aw 1 (ap (ae (((aw 1 (ap (ae (v2.length:Int)) v2)).length:Nat):Int)) (aw 1 (ap (ae (v2.length:Int)) v2)))))).length:Nat):Int)) (aw 1 (ap (ae (((aw 1 (ap (ae (((aw 1 (ap (ae (v2.length:Int)) v2)).length:Nat):Int)) (aw 1 (ap (ae (v2.length:Int)) v2)))).length:Nat):Int)) (aw 1 (ap (ae (((aw 1 (ap (ae (v2.length:Int)) v2)).length:Nat):Int)) (aw 1 (ap (ae (v2.length:Int)) v2)))))))).length:Nat):Int)))) (
                         cond v12 (
                          some (R3.ret ((false,()),(),[],()))) (
                          cond (decide (1<(rd aW (aw 1 (ap (ae (((aw 1 (ap (ae (((aw 1 (ap (ae (((aw 1 (ap (ae (v2.length:Int)) v2)).length:Nat):Int)) (aw 1 (ap (ae (v2.length:Int)) v2)))).length:Nat):Int)) (aw 1 (ap (ae (((aw 1 (ap (ae (v2.length:Int)) v2)).length:Nat):Int)) (aw 1 (ap (ae (v2.length:Int)) v2)))))).length:Nat):Int)) (aw 1 (ap (ae (((aw 1 (ap (ae (((aw 1 (ap (ae (v2.length:Int)) v2)).length:Nat):Int)) (aw 1 (ap (ae (v2.length:Int)) v2)))).length:Nat):Int)) (aw 1 (ap (ae (((aw 1 (ap (ae (v2.length:Int)) v2)).length:Nat):Int)) (aw 1 (ap (ae (v2.length:Int)) v2)))))))) 0))) (
                           some (R3.ret ((false,()),(),[],()))) (
                           ((f84 (bi (rd aW v2 0) 16) (al .i64 (v1+(al .i64 (ba (rd aW v2 0) 16)))) 0 0 0 (rd aW (aw 1 (ap (ae (v2.length:Int)) v2)) 0) (rd aW (aw 1 (ap (ae (((aw 1 (ap (ae (v2.length:Int)) v2)).length:Nat):Int)) (aw 1 (ap (ae (v2.length:Int)) v2)))) 0) (rd aW (aw 1 (ap (ae (((aw 1 (ap (ae (((aw 1 (ap (ae (v2.length:Int)) v2)).length:Nat):Int)) (aw 1 (ap (ae (v2.length:Int)) v2)))).length:Nat):Int)) (aw 1 (ap (ae (((aw 1 (ap (ae (v2.length:Int)) v2)).length:Nat):Int)) (aw 1 (ap (ae (v2.length:Int)) v2)))))) 0) (decide ((rd aW (aw 1 (ap (ae (((aw 1 (ap (ae (((aw 1 (ap (ae (((aw 1 (ap (ae (v2.length:Int)) v2)).length:Nat):Int)) (aw 1 (ap (ae (v2.length:Int)) v2)))).length:Nat):Int)) (aw 1 (ap (ae (((aw 1 (ap (ae (v2.length:Int)) v2)).length:Nat):Int)) (aw 1 (ap (ae (v2.length:Int)) v2)))))).length:Nat):Int)) (aw 1 (ap (ae (((aw 1 (ap (ae (((aw 1 (ap (ae (v2.length:Int)) v2)).length:Nat):Int)) (aw 1 (ap (ae (v2.length:Int)) v2)))).length:Nat):Int)) (aw 1 (ap (ae (((aw 1 (ap (ae (v2.length:Int)) v2)).length:Nat):Int)) (aw 1 (ap (ae (v2.length:Int)) v2)))))))) 0)=1)))).bind fun y20=>
                           cond (!y20.1) (
                            some (R3.ret ((false,()),(),[],()))) (
                            cond ((decide (((v13.length+1) * 72)≤140737488355328))&&(decide ((v13.length+1)≤9223372036854775807))) (
                             some (R3.next (((),(),()),(((),(),(),(),(),(),(),()),((al .i64 (v1+(al .i64 (ba (rd aW v2 0) 16)))),(aw 1 (ap (ae (((aw 1 (ap (ae (((aw 1 (ap (ae (((aw 1 (ap (ae (((aw 1 (ap (ae (v2.length:Int)) v2)).length:Nat):Int)) (aw 1 (ap (ae (v2.length:Int)) v2)))).length:Nat):Int)) (aw 1 (ap (ae (((aw 1 (ap (ae (v2.length:Int)) v2)).length:Nat):Int)) (aw 1 (ap (ae (v2.length:Int)) v2)))))).length:Nat):Int)) (aw 1 (ap (ae (((aw 1 (ap (ae (((aw 1 (ap (ae (v2.length:Int)) v2)).length:Nat):Int)) (aw 1 (ap (ae (v2.length:Int)) v2)))).length:Nat):Int)) (aw 1 (ap (ae (((aw 1 (ap (ae (v2.length:Int)) v2)).length:Nat):Int)) (aw 1 (ap (ae (v2.length:Int)) v2)))))))).length:Nat):Int)) (aw 1 (ap (ae (((aw 1 (ap (ae (((aw 1 (ap (ae (((aw 1 (ap (ae (v2.length:Int)) v2)).length:Nat):Int)) (aw 1 (ap (ae (v2.length:Int)) v2)))).length:Nat):Int)) (aw 1 (ap (ae (((aw 1 (ap (ae (v2.length:Int)) v2)).length:Nat):Int)) (aw 1 (ap (ae (v2.length:Int)) v2)))))).length:Nat):Int)) (aw 1 (ap (ae (((aw 1 (ap (ae (((aw 1 (ap (ae (v2.length:Int)) v2)).length:Nat):Int)) (aw 1 (ap (ae (v2.length:Int)) v2)))).length:Nat):Int)) (aw 1 (ap (ae (((aw 1 (ap (ae (v2.length:Int)) v2)).length:Nat):Int)) (aw 1 (ap (ae (v2.length:Int)) v2)))))))))),(bi (rd aW v2 0) 16),(al .i64 (v1+(al .i64 (ba (rd aW v2 0) 16)))),0,0,0,(rd aW (aw 1 (ap (ae (v2.length:Int)) v2)) 0),(rd aW (aw 1 (ap (ae (((aw 1 (ap (ae (v2.length:Int)) v2)).length:Nat):Int)) (aw 1 (ap (ae (v2.length:Int)) v2)))) 0),(rd aW (aw 1 (ap (ae (((aw 1 (ap (ae (((aw 1 (ap (ae (v2.length:Int)) v2)).length:Nat):Int)) (aw 1 (ap (ae (v2.length:Int)) v2)))).length:Nat):Int)) (aw 1 (ap (ae (((aw 1 (ap (ae (v2.length:Int)) v2)).length:Nat):Int)) (aw 1 (ap (ae (v2.length:Int)) v2)))))) 0),(decide ((rd aW (aw 1 (ap (ae (((aw 1 (ap (ae (((aw 1 (ap (ae (((aw 1 (ap (ae (v2.length:Int)) v2)).length:Nat):Int)) (aw 1 (ap (ae (v2.length:Int)) v2)))).length:Nat):Int)) (aw 1 (ap (ae (((aw 1 (ap (ae (v2.length:Int)) v2)).length:Nat):Int)) (aw 1 (ap (ae (v2.length:Int)) v2)))))).length:Nat):Int)) (aw 1 (ap (ae (((aw 1 (ap (ae (((aw 1 (ap (ae (v2.length:Int)) v2)).length:Nat):Int)) (aw 1 (ap (ae (v2.length:Int)) v2)))).length:Nat):Int)) (aw 1 (ap (ae (((aw 1 (ap (ae (v2.length:Int)) v2)).length:Nat):Int)) (aw 1 (ap (ae (v2.length:Int)) v2)))))))) 0)=1)),(decide (1<(rd aW (aw 1 (ap (ae (((aw 1 (ap (ae (((aw 1 (ap (ae (((aw 1 (ap (ae (v2.length:Int)) v2)).length:Nat):Int)) (aw 1 (ap (ae (v2.length:Int)) v2)))).length:Nat):Int)) (aw 1 (ap (ae (((aw 1 (ap (ae (v2.length:Int)) v2)).length:Nat):Int)) (aw 1 (ap (ae (v2.length:Int)) v2)))))).length:Nat):Int)) (aw 1 (ap (ae (((aw 1 (ap (ae (((aw 1 (ap (ae (v2.length:Int)) v2)).length:Nat):Int)) (aw 1 (ap (ae (v2.length:Int)) v2)))).length:Nat):Int)) (aw 1 (ap (ae (((aw 1 (ap (ae (v2.length:Int)) v2)).length:Nat):Int)) (aw 1 (ap (ae (v2.length:Int)) v2)))))))) 0))),()),()),(v13++[((bi (rd aW v2 0) 16),(al .i64 (v1+(al .i64 (ba (rd aW v2 0) 16)))),0,0,0,(rd aW (aw 1 (ap (ae (v2.length:Int)) v2)) 0),(rd aW (aw 1 (ap (ae (((aw 1 (ap (ae (v2.length:Int)) v2)).length:Nat):Int)) (aw 1 (ap (ae (v2.length:Int)) v2)))) 0),(rd aW (aw 1 (ap (ae (((aw 1 (ap (ae (((aw 1 (ap (ae (v2.length:Int)) v2)).length:Nat):Int)) (aw 1 (ap (ae (v2.length:Int)) v2)))).length:Nat):Int)) (aw 1 (ap (ae (((aw 1 (ap (ae (v2.length:Int)) v2)).length:Nat):Int)) (aw 1 (ap (ae (v2.length:Int)) v2)))))) 0),(decide ((rd aW (aw 1 (ap (ae (((aw 1 (ap (ae (((aw 1 (ap (ae (((aw 1 (ap (ae (v2.length:Int)) v2)).length:Nat):Int)) (aw 1 (ap (ae (v2.length:Int)) v2)))).length:Nat):Int)) (aw 1 (ap (ae (((aw 1 (ap (ae (v2.length:Int)) v2)).length:Nat):Int)) (aw 1 (ap (ae (v2.length:Int)) v2)))))).length:Nat):Int)) (aw 1 (ap (ae (((aw 1 (ap (ae (((aw 1 (ap (ae (v2.length:Int)) v2)).length:Nat):Int)) (aw 1 (ap (ae (v2.length:Int)) v2)))).length:Nat):Int)) (aw 1 (ap (ae (((aw 1 (ap (ae (v2.length:Int)) v2)).length:Nat):Int)) (aw 1 (ap (ae (v2.length:Int)) v2)))))))) 0)=1)))]),()))) (
                             none))))) (
                         none)) (
                        none))) (
                      none)) (
                     none))) (
                   none)) (
                  none))) (
                none)) (
               none))) (
             none))))))))) (
     none)) (
    none))) (
  some (R3.out ((),(),v13,())))
noncomputable def zM (z:Kn):Option (R3 Kn UW VW):=Vp z.2.1.2.1.1 z.2.1.2.1.2.1 z.2.1.2.1.2.2.1 z.2.1.2.1.2.2.2.1 z.2.1.2.1.2.2.2.2.1 z.2.1.2.1.2.2.2.2.2.1 z.2.1.2.1.2.2.2.2.2.2.1 z.2.1.2.1.2.2.2.2.2.2.2.1 z.2.1.2.1.2.2.2.2.2.2.2.2.1 z.2.1.2.1.2.2.2.2.2.2.2.2.2.1 z.2.1.2.1.2.2.2.2.2.2.2.2.2.2.1 z.2.1.2.1.2.2.2.2.2.2.2.2.2.2.2.1 z.2.2.1
noncomputable def f93 (v1:Int)(v2:aR):Option (BN×Bool×Unit):=
 ((f101 v2)).bind fun y3=>
 cond (!y3.2.1) (
  some ([],false,())) (
  ((f83 v1 0 1073741824)).bind fun y4=>
  cond (!y4.1) (
   some ([],false,())) (
   ((iter az zM (((),(),()),(((),(),(),(),(),(),(),()),(v1,y3.1,0,0,0,0,0,0,0,0,false,false,()),()),[],()))).bind fun r=>match r with
   | .inl y5=>
     some (y5.2.2.1,true,())
   | .inr z6=>
     some (z6.2.2.1,z6.1.1,())))
noncomputable def f128 (v1 v2 v3 v4 v5 v6 v7 v8 v9 v10 v11:Int)(v12:Bool)(v13:Int)(v14:aQ)(v15:br)(v16:aQ):Option (yb×Unit):=
 ((fR v14)).bind fun y17=>
 ((dh v15)).bind fun y18=>
 ((en v16)).bind fun y19=>
 some ((((v1,v2),(v3,v4),v5,v6,v7,v8),(v9,v10,v11,v12),v13,y17.1,y18.1,y19.1),())
abbrev kN:Type:=Lr×N4×(Unit)
abbrev rC:Type:=(Unit)×N4×(Unit)
abbrev qD:Type:=bl×N4×(Unit)
noncomputable def kg (v1 v2 v3:Int)(v4:aQ):Option (R3 kN rC qD):=
 cond (decide (v2<v1)) (
  cond ((decide (0≤v2))&&(decide (v2<(v4.length:Int)))) (
   cond (decide ((ae v2)<v4.length)) (
    cond (decide ((rd cR v4 (ae v2)).2.2≤v3)) (
     some (R3.ret ((v2,()),((v3,()),v4,()),()))) (
     some (R3.next (((),(),v1,(al .i64 (v2+1)),()),((v3,()),v4,()),())))) (
    none)) (
   none)) (
  some (R3.out ((),((v3,()),v4,()),())))
noncomputable def fu (z:kN):Option (R3 kN rC qD):=kg z.1.2.2.1 z.1.2.2.2.1 z.2.1.1.1 z.2.1.2.1
abbrev jR:Type:=Lr×N4×(Unit)
abbrev rI:Type:=(Unit×Int×Unit)×N4×(Unit)
abbrev qv:Type:=Unit×l9×Unit
noncomputable def kI (v1 v2 v3:Int)(v4:aQ):Option (R3 jR rI qv):=
 cond (decide (v2<(v4.length:Int))) (
  cond ((decide (0≤v2))&&(decide (v2<(v4.length:Int)))) (
   cond (decide ((ae v2)<v4.length)) (
    cond (!(decide ((rd cR v4 (ae v2)).2.2≤v3))) (
     cond ((decide (0≤v1))&&(decide (v1<(v4.length:Int)))) (
      cond (decide ((ae v1)<v4.length)) (
       some (R3.next (((),(),(al .i64 (v1+1)),(al .i64 (v2+1)),()),((v3,()),(v4.set (ae v1) ((rd cR v4 (ae v2)).1,(rd cR v4 (ae v2)).2.1,(rd cR v4 (ae v2)).2.2)),()),()))) (
       none)) (
      none)) (
     some (R3.next (((),(),v1,(al .i64 (v2+1)),()),((v3,()),v4,()),())))) (
    none)) (
   none)) (
  some (R3.out (((),v1,()),((v3,()),v4,()),())))
noncomputable def ff (z:jR):Option (R3 jR rI qv):=kI z.1.2.2.1 z.1.2.2.2.1 z.2.1.1.1 z.2.1.2.1
noncomputable def f182 (v1:aQ)(v2:Int):Option (aQ×Unit):=
 ((en v1)).bind fun y3=>
 ((iter az fu (((),(),(y3.1.length:Int),0,()),((v2,()),y3.1,()),()))).bind fun r=>match r with
 | .inl y4=>
   some (y4.2.1.2.1,())
 | .inr z5=>
   cond (decide (z5.1.1=(-1))) (
    some (z5.2.1.2.1,())) (
    ((iter az ff (((),(),z5.1.1,(al .i64 (z5.1.1+1)),()),((z5.2.1.1.1,()),z5.2.1.2.1,()),()))).bind fun r=>match r with
    | .inl y6=>
      cond (((decide (0≤y6.1.2.1))&&(decide (y6.1.2.1≤(((y6.2.1.2.1.length-0):Nat):Int))))&&(decide ((0+(((y6.2.1.2.1.length-0):Nat):Int))≤(y6.2.1.2.1.length:Int)))) (
       cond ((decide (0≤y6.1.2.1))&&(decide ((0+y6.1.2.1)≤(((((ap (0+(ae y6.1.2.1)) y6.2.1.2.1)++(bj ((0+(ae (((y6.2.1.2.1.length-0):Nat):Int)))-(0+(ae y6.1.2.1))) (0,0,0)))++(aw ((0+(ae y6.1.2.1))+((0+(ae (((y6.2.1.2.1.length-0):Nat):Int)))-(0+(ae y6.1.2.1)))) y6.2.1.2.1)).length:Nat):Int)))) (
        some ((ap (0+(ae y6.1.2.1)) (((ap (0+(ae y6.1.2.1)) y6.2.1.2.1)++(bj ((0+(ae (((y6.2.1.2.1.length-0):Nat):Int)))-(0+(ae y6.1.2.1))) (0,0,0)))++(aw ((0+(ae y6.1.2.1))+((0+(ae (((y6.2.1.2.1.length-0):Nat):Int)))-(0+(ae y6.1.2.1)))) y6.2.1.2.1))),())) (
        none)) (
       none)
    | .inr z7=>
      none)
abbrev IM:Type:=(Int×Unit×Unit×Int×Int×Unit)×LI×aQ×br×aQ×aQ×br×aQ×Unit
abbrev Qm:Type:=(Int×Unit×Unit×Unit)×LI×aQ×br×aQ×aQ×br×aQ×Unit
abbrev Pb:Type:=Unit×Unit×Unit
noncomputable def GY (v1 v2 v3 v4 v5 v6 v7 v8 v9 v10 v11 v12 v13 v14:Int)(v15:Bool)(v16 v17 v18 v19 v20 v21 v22 v23 v24 v25 v26 v27:Int)(v28:Bool)(v29:Int)(v30:aQ)(v31:br)(v32 v33:aQ)(v34:br)(v35:aQ):Option (R3 IM Qm Pb):=
 cond (decide (v3<v2)) (
  cond ((decide (0≤v3))&&(decide (v3<(v34.length:Int)))) (
   cond (decide ((ae v3)<v34.length)) (
    some (R3.next ((v1,(),(),v2,(al .i64 (v3+1)),()),((v4,v5,v6,v7,v8,v9,v10,v11,v12,v13,v14,v15,v16,(),(),(),()),(v17,v18,v19,v20,v21,v22,v23,v24,v25,v26,v27,v28,v29,(),(),(),()),()),v30,v31,v32,v33,(v34.set (ae v3) ((rd aZ v34 (ae v3)).1,(rd aZ v34 (ae v3)).2.1,(rd aZ v34 (ae v3)).2.2.1,(rd aZ v34 (ae v3)).2.2.2.1,v1)),v35,()))) (
    none)) (
   none)) (
  some (R3.out ((v1,(),(),()),((v4,v5,v6,v7,v8,v9,v10,v11,v12,v13,v14,v15,v16,(),(),(),()),(v17,v18,v19,v20,v21,v22,v23,v24,v25,v26,v27,v28,v29,(),(),(),()),()),v30,v31,v32,v33,v34,v35,())))
noncomputable def sj (z:IM):Option (R3 IM Qm Pb):=GY z.1.1 z.1.2.2.2.1 z.1.2.2.2.2.1 z.2.1.1.1 z.2.1.1.2.1 z.2.1.1.2.2.1 z.2.1.1.2.2.2.1 z.2.1.1.2.2.2.2.1 z.2.1.1.2.2.2.2.2.1 z.2.1.1.2.2.2.2.2.2.1 z.2.1.1.2.2.2.2.2.2.2.1 z.2.1.1.2.2.2.2.2.2.2.2.1 z.2.1.1.2.2.2.2.2.2.2.2.2.1 z.2.1.1.2.2.2.2.2.2.2.2.2.2.1 z.2.1.1.2.2.2.2.2.2.2.2.2.2.2.1 z.2.1.1.2.2.2.2.2.2.2.2.2.2.2.2.1 z.2.1.2.1.1 z.2.1.2.1.2.1 z.2.1.2.1.2.2.1 z.2.1.2.1.2.2.2.1 z.2.1.2.1.2.2.2.2.1 z.2.1.2.1.2.2.2.2.2.1 z.2.1.2.1.2.2.2.2.2.2.1 z.2.1.2.1.2.2.2.2.2.2.2.1 z.2.1.2.1.2.2.2.2.2.2.2.2.1 z.2.1.2.1.2.2.2.2.2.2.2.2.2.1 z.2.1.2.1.2.2.2.2.2.2.2.2.2.2.1 z.2.1.2.1.2.2.2.2.2.2.2.2.2.2.2.1 z.2.1.2.1.2.2.2.2.2.2.2.2.2.2.2.2.1 z.2.2.1 z.2.2.2.1 z.2.2.2.2.1 z.2.2.2.2.2.1 z.2.2.2.2.2.2.1 z.2.2.2.2.2.2.2.1
noncomputable def f169 (v1 v2 v3 v4 v5 v6 v7 v8 v9 v10 v11:Int)(v12:Bool)(v13:Int)(v14:aQ)(v15:br)(v16:aQ)(v17:Int):Option (yb×Bool×Unit):=
 ((fR v14)).bind fun y18=>
 ((dh v15)).bind fun y19=>
 ((en v16)).bind fun y20=>
 ((f78 v1 v2 v3 v4 v5 v6 v7 v8 v9 v10 v11 v12 v13 v14 v15 v16)).bind fun y21=>
 cond (!y21.1) (
  some ((((v1,v2),(v3,v4),v5,v6,v7,v8),(v9,v10,v11,v12),v13,y18.1,y19.1,y20.1),false,())) (
  cond (decide (v17<v13)) (
   some ((((v1,v2),(v3,v4),v5,v6,v7,v8),(v9,v10,v11,v12),v13,y18.1,y19.1,y20.1),false,())) (
   cond (decide (1073741824<v17)) (
    some ((((v1,v2),(v3,v4),v5,v6,v7,v8),(v9,v10,v11,v12),v13,y18.1,y19.1,y20.1),false,())) (
    ((iter az sj ((v17,(),(),(y19.1.length:Int),0,()),((0,0,0,0,0,0,0,0,0,0,0,false,0,(),(),(),()),(v1,v2,v3,v4,v5,v6,v7,v8,v9,v10,v11,v12,v17,(),(),(),()),()),[],[],[],y18.1,y19.1,y20.1,()))).bind fun r=>match r with
    | .inl y22=>
      ((f182 y22.2.2.2.2.2.2.2.1 y22.1.1)).bind fun y24=>
      some ((((y22.2.1.2.1.1,y22.2.1.2.1.2.1),(y22.2.1.2.1.2.2.1,y22.2.1.2.1.2.2.2.1),y22.2.1.2.1.2.2.2.2.1,y22.2.1.2.1.2.2.2.2.2.1,y22.2.1.2.1.2.2.2.2.2.2.1,y22.2.1.2.1.2.2.2.2.2.2.2.1),(y22.2.1.2.1.2.2.2.2.2.2.2.2.1,y22.2.1.2.1.2.2.2.2.2.2.2.2.2.1,y22.2.1.2.1.2.2.2.2.2.2.2.2.2.2.1,y22.2.1.2.1.2.2.2.2.2.2.2.2.2.2.2.1),y22.2.1.2.1.2.2.2.2.2.2.2.2.2.2.2.2.1,y22.2.2.2.2.2.1,y22.2.2.2.2.2.2.1,y24.1),true,())
    | .inr z23=>
      none)))
abbrev GZ:Type:=(Int×aR×Int×Int×Unit)×(Unit)×(Unit)
abbrev NA:Type:=bl×(Unit)×(Unit)
abbrev QK:Type:=bl×(Unit)×(Unit)
noncomputable def CK (v1:Int)(v2:aR)(v3 v4:Int):Option (R3 GZ NA QK):=
 cond (decide (v4<v3)) (
  cond ((decide (0≤v4))&&(decide (v4<(v2.length:Int)))) (
   cond (!(decide ((rd aW v2 (ae v4))=v1))) (
    some (R3.ret (((rd aW v2 (ae v4)),()),(),()))) (
    some (R3.next ((v1,v2,v3,(al .i64 (v4+1)),()),(),())))) (
   none)) (
  some (R3.out ((v1,()),(),())))
noncomputable def mZ (z:GZ):Option (R3 GZ NA QK):=CK z.1.1 z.1.2.1 z.1.2.2.1 z.1.2.2.2.1
noncomputable def f225 (v1:aR):Option bl:=
 ((iter az mZ ((0,v1,(v1.length:Int),0,()),(),()))).bind fun r=>match r with
 | .inl y2=>
   some (y2.1.1,())
 | .inr z3=>
   some (z3.1.1,())
noncomputable def f243 (v1:Int):Option ct:=
 some ((!(decide (v1=v1))),())
noncomputable def f226 (v1 v2:Int):Option bl:=
 ((f243 v1)).bind fun y3=>
 ((f243 v2)).bind fun y4=>
 cond y3.1 (
  cond y4.1 (
   some (0,())) (
   some ((-1),()))) (
  cond y4.1 (
   some (1,())) (
   cond (decide (v1<v2)) (
    some ((-1),())) (
    cond (decide (v2<v1)) (
     some (1,())) (
     some (0,())))))
noncomputable def f215 (v1 v2 v3 v4:Int):Option bl:=
 ((f226 v1 v3)).bind fun y5=>
 ((f226 v2 v4)).bind fun y6=>
 ((f225 [y5.1,y6.1])).bind fun y7=>
 some (y7.1,())
abbrev kK:Type:=Th×zO×(Unit)
abbrev rJ:Type:=(Unit)×zO×(Unit)
abbrev qT:Type:=bl×zO×(Unit)
noncomputable def kM (v1:br)(v2 v3 v4 v5:Int):Option (R3 kK rJ qT):=
 cond (decide (v3<v2)) (
  cond ((decide (0≤v3))&&(decide (v3<(v1.length:Int)))) (
   ((f179 (rd aZ v1 (ae v3)).1 (rd aZ v1 (ae v3)).2.1 (rd aZ v1 (ae v3)).2.2.1 (rd aZ v1 (ae v3)).2.2.2.1 (rd aZ v1 (ae v3)).2.2.2.2)).bind fun y6=>
   ((f215 y6.1.1 y6.1.2 v4 v5)).bind fun y7=>
   cond (decide (0<y7.1)) (
    some (R3.ret ((v3,()),((v4,v5,()),((),()),()),()))) (
    some (R3.next ((v1,(),v2,(al .i64 (v3+1)),()),((v4,v5,()),((),()),()),())))) (
   none)) (
  some (R3.out ((),((v4,v5,()),((),()),()),())))
noncomputable def fz (z:kK):Option (R3 kK rJ qT):=kM z.1.1 z.1.2.2.1 z.1.2.2.2.1 z.2.1.1.1 z.2.1.1.2.1
noncomputable def f203 (v1:br)(v2 v3:Int):Option bl:=
 ((iter az fz ((v1,(),(v1.length:Int),0,()),((v2,v3,()),((),()),()),()))).bind fun r=>match r with
 | .inl y4=>
   some ((v1.length:Int),())
 | .inr z5=>
   cond (decide (z5.1.1=(-1))) (
    some ((v1.length:Int),())) (
    some (z5.1.1,()))
noncomputable def f193 (v1:br)(v2 v3 v4 v5 v6:Int):Option (br×Bool×Unit):=
 ((dh v1)).bind fun y7=>
 ((f151 v1 v3 v4)).bind fun y8=>
 cond (!(decide (y8.1=(-1)))) (
  some (y7.1,false,())) (
  cond (decide (32≤(v1.length:Int))) (
   some (y7.1,false,())) (
   ((f179 v2 v3 v4 v5 v6)).bind fun y9=>
   ((f203 v1 y9.1.1 y9.1.2)).bind fun y10=>
   ((jJ y7.1 y10.1 [(v2,v3,v4,v5,v6)])).bind fun y11=>
   some (y11,true,())))
noncomputable def f194 (v1:br)(v2 v3:Int):Option (br×Bool×Unit):=
 ((dh v1)).bind fun y4=>
 ((f151 v1 v2 v3)).bind fun y5=>
 cond (decide (y5.1=(-1))) (
  some (y4.1,false,())) (
  cond ((((decide (0≤y5.1))&&(decide (y5.1≤(al .i64 (y5.1+1)))))&&(decide ((al .i64 (y5.1+1))≤(y4.1.length:Int))))&&(decide ((0+(y4.1.length:Int))≤(y4.1.length:Int)))) (
   cond (decide (y5.1=(al .i64 (y5.1+1)))) (
    some (y4.1,true,())) (
    cond ((decide (0≤y5.1))&&(decide ((0+y5.1)≤(y4.1.length:Int)))) (
     cond (((decide (0≤(al .i64 (y5.1+1))))&&(decide ((al .i64 (y5.1+1))≤(((y4.1.length-0):Nat):Int))))&&(decide ((0+(((y4.1.length-0):Nat):Int))≤(y4.1.length:Int)))) (
      cond (decide (((0+(ae y5.1))+(aw (0+(ae (al .i64 (y5.1+1)))) (ap (0+(ae (((y4.1.length-0):Nat):Int))) y4.1)).length)≤y4.1.length)) (
       cond (((decide (0≤(((((0+(ae y5.1))+(aw (0+(ae (al .i64 (y5.1+1)))) (ap (0+(ae (((y4.1.length-0):Nat):Int))) y4.1)).length)-0):Nat):Int)))&&(decide ((((((0+(ae y5.1))+(aw (0+(ae (al .i64 (y5.1+1)))) (ap (0+(ae (((y4.1.length-0):Nat):Int))) y4.1)).length)-0):Nat):Int)≤(y4.1.length:Int))))&&(decide ((0+(y4.1.length:Int))≤(((((ap (0+(ae y5.1)) y4.1)++(aw (0+(ae (al .i64 (y5.1+1)))) (ap (0+(ae (((y4.1.length-0):Nat):Int))) y4.1)))++(aw ((0+(ae y5.1))+(aw (0+(ae (al .i64 (y5.1+1)))) (ap (0+(ae (((y4.1.length-0):Nat):Int))) y4.1)).length) y4.1)).length:Nat):Int)))) (
        some ((aw 0 (ap ((0+(ae y5.1))+(aw (0+(ae (al .i64 (y5.1+1)))) (ap (0+(ae (((y4.1.length-0):Nat):Int))) y4.1)).length) (((ap (0+(ae (((((0+(ae y5.1))+(aw (0+(ae (al .i64 (y5.1+1)))) (ap (0+(ae (((y4.1.length-0):Nat):Int))) y4.1)).length)-0):Nat):Int))) (((ap (0+(ae y5.1)) y4.1)++(aw (0+(ae (al .i64 (y5.1+1)))) (ap (0+(ae (((y4.1.length-0):Nat):Int))) y4.1)))++(aw ((0+(ae y5.1))+(aw (0+(ae (al .i64 (y5.1+1)))) (ap (0+(ae (((y4.1.length-0):Nat):Int))) y4.1)).length) y4.1)))++(bj ((0+(ae (y4.1.length:Int)))-(0+(ae (((((0+(ae y5.1))+(aw (0+(ae (al .i64 (y5.1+1)))) (ap (0+(ae (((y4.1.length-0):Nat):Int))) y4.1)).length)-0):Nat):Int)))) (0,0,0,0,0)))++(aw ((0+(ae (((((0+(ae y5.1))+(aw (0+(ae (al .i64 (y5.1+1)))) (ap (0+(ae (((y4.1.length-0):Nat):Int))) y4.1)).length)-0):Nat):Int)))+((0+(ae (y4.1.length:Int)))-(0+(ae (((((0+(ae y5.1))+(aw (0+(ae (al .i64 (y5.1+1)))) (ap (0+(ae (((y4.1.length-0):Nat):Int))) y4.1)).length)-0):Nat):Int))))) (((ap (0+(ae y5.1)) y4.1)++(aw (0+(ae (al .i64 (y5.1+1)))) (ap (0+(ae (((y4.1.length-0):Nat):Int))) y4.1)))++(aw ((0+(ae y5.1))+(aw (0+(ae (al .i64 (y5.1+1)))) (ap (0+(ae (((y4.1.length-0):Nat):Int))) y4.1)).length) y4.1)))))),true,())) (
        none)) (
       none)) (
      none)) (
     none))) (
   none))
noncomputable def f216 (v1 v2 v3:Int):Option ((uu×Int×Int×Int)×Unit):=
 some (((v1,v2),v1,v2,v3),())
noncomputable def f206 (v1 v2 v3:Int):Option (uu×Unit):=
 ((f216 v1 v2 v3)).bind fun y4=>
 some ((y4.1.1.1,y4.1.1.2),())
abbrev jW:Type:=(aQ×Unit×Int×Int×Unit)×zO×(Unit)
abbrev rD:Type:=(Unit)×zO×(Unit)
abbrev qS:Type:=bl×zO×(Unit)
noncomputable def kU (v1:aQ)(v2 v3 v4 v5:Int):Option (R3 jW rD qS):=
 cond (decide (v3<v2)) (
  cond ((decide (0≤v3))&&(decide (v3<(v1.length:Int)))) (
   ((f206 (rd cR v1 (ae v3)).1 (rd cR v1 (ae v3)).2.1 (rd cR v1 (ae v3)).2.2)).bind fun y6=>
   ((f215 y6.1.1 y6.1.2 v4 v5)).bind fun y7=>
   cond (decide (0<y7.1)) (
    some (R3.ret ((v3,()),((v4,v5,()),((),()),()),()))) (
    some (R3.next ((v1,(),v2,(al .i64 (v3+1)),()),((v4,v5,()),((),()),()),())))) (
   none)) (
  some (R3.out ((),((v4,v5,()),((),()),()),())))
noncomputable def eR (z:jW):Option (R3 jW rD qS):=kU z.1.1 z.1.2.2.1 z.1.2.2.2.1 z.2.1.1.1 z.2.1.1.2.1
noncomputable def f208 (v1:aQ)(v2 v3:Int):Option bl:=
 ((iter az eR ((v1,(),(v1.length:Int),0,()),((v2,v3,()),((),()),()),()))).bind fun r=>match r with
 | .inl y4=>
   some ((v1.length:Int),())
 | .inr z5=>
   cond (decide (z5.1.1=(-1))) (
    some ((v1.length:Int),())) (
    some (z5.1.1,()))
abbrev ke:Type:=Lr×ML×(Unit)
abbrev pU:Type:=(Unit)×ML×(Unit)
abbrev rG:Type:=bl×ML×(Unit)
noncomputable def lB (v1 v2 v3 v4 v5:Int)(v6:aQ):Option (R3 ke pU rG):=
 cond (decide (v2<v1)) (
  cond ((decide (0≤v2))&&(decide (v2<(v6.length:Int)))) (
   cond (decide ((ae v2)<v6.length)) (
    ((f206 (rd cR v6 (ae v2)).1 (rd cR v6 (ae v2)).2.1 (rd cR v6 (ae v2)).2.2)).bind fun y7=>
    ((f206 v3 v4 v5)).bind fun y8=>
    cond ((decide (y7.1.1=y8.1.1))&&((decide (y7.1.2=y8.1.2))&&true)) (
     some (R3.ret ((v2,()),((v3,v4,v5,()),v6,()),()))) (
     some (R3.next (((),(),v1,(al .i64 (v2+1)),()),((v3,v4,v5,()),v6,()),())))) (
    none)) (
   none)) (
  some (R3.out ((),((v3,v4,v5,()),v6,()),())))
noncomputable def fm (z:ke):Option (R3 ke pU rG):=lB z.1.2.2.1 z.1.2.2.2.1 z.2.1.1.1 z.2.1.1.2.1 z.2.1.1.2.2.1 z.2.1.2.1
abbrev jU:Type:=Lr×ML×(Unit)
abbrev pV:Type:=(Unit×Int×Unit)×ML×(Unit)
abbrev rj:Type:=Unit×l9×Unit
noncomputable def lH (v1 v2 v3 v4 v5:Int)(v6:aQ):Option (R3 jU pV rj):=
 cond (decide (v2<(v6.length:Int))) (
  cond ((decide (0≤v2))&&(decide (v2<(v6.length:Int)))) (
   cond (decide ((ae v2)<v6.length)) (
    ((f206 (rd cR v6 (ae v2)).1 (rd cR v6 (ae v2)).2.1 (rd cR v6 (ae v2)).2.2)).bind fun y7=>
    ((f206 v3 v4 v5)).bind fun y8=>
    cond (!((decide (y7.1.1=y8.1.1))&&((decide (y7.1.2=y8.1.2))&&true))) (
     cond ((decide (0≤v1))&&(decide (v1<(v6.length:Int)))) (
      cond (decide ((ae v1)<v6.length)) (
       some (R3.next (((),(),(al .i64 (v1+1)),(al .i64 (v2+1)),()),((v3,v4,v5,()),(v6.set (ae v1) ((rd cR v6 (ae v2)).1,(rd cR v6 (ae v2)).2.1,(rd cR v6 (ae v2)).2.2)),()),()))) (
       none)) (
      none)) (
     some (R3.next (((),(),v1,(al .i64 (v2+1)),()),((v3,v4,v5,()),v6,()),())))) (
    none)) (
   none)) (
  some (R3.out (((),v1,()),((v3,v4,v5,()),v6,()),())))
noncomputable def fp (z:jU):Option (R3 jU pV rj):=lH z.1.2.2.1 z.1.2.2.2.1 z.2.1.1.1 z.2.1.1.2.1 z.2.1.1.2.2.1 z.2.1.2.1
noncomputable def f195 (v1:aQ)(v2 v3 v4:Int):Option (aQ×Unit):=
 ((en v1)).bind fun y5=>
 ((iter az fm (((),(),(y5.1.length:Int),0,()),((v2,v3,v4,()),y5.1,()),()))).bind fun r=>match r with
 | .inl y6=>
   ((f206 y6.2.1.1.1 y6.2.1.1.2.1 y6.2.1.1.2.2.1)).bind fun y8=>
   ((f208 y6.2.1.2.1 y8.1.1 y8.1.2)).bind fun y9=>
   ((gV y6.2.1.2.1 y9.1 [(y6.2.1.1.1,y6.2.1.1.2.1,y6.2.1.1.2.2.1)])).bind fun y10=>
   some (y10,())
 | .inr z7=>
   cond (decide (z7.1.1=(-1))) (
    ((f206 z7.2.1.1.1 z7.2.1.1.2.1 z7.2.1.1.2.2.1)).bind fun y11=>
    ((f208 z7.2.1.2.1 y11.1.1 y11.1.2)).bind fun y12=>
    ((gV z7.2.1.2.1 y12.1 [(z7.2.1.1.1,z7.2.1.1.2.1,z7.2.1.1.2.2.1)])).bind fun y13=>
    some (y13,())) (
    ((iter az fp (((),(),z7.1.1,(al .i64 (z7.1.1+1)),()),((z7.2.1.1.1,z7.2.1.1.2.1,z7.2.1.1.2.2.1,()),z7.2.1.2.1,()),()))).bind fun r=>match r with
    | .inl y14=>
      cond (((decide (0≤y14.1.2.1))&&(decide (y14.1.2.1≤(((y14.2.1.2.1.length-0):Nat):Int))))&&(decide ((0+(((y14.2.1.2.1.length-0):Nat):Int))≤(y14.2.1.2.1.length:Int)))) (
       cond ((decide (0≤y14.1.2.1))&&(decide ((0+y14.1.2.1)≤(((((ap (0+(ae y14.1.2.1)) y14.2.1.2.1)++(bj ((0+(ae (((y14.2.1.2.1.length-0):Nat):Int)))-(0+(ae y14.1.2.1))) (0,0,0)))++(aw ((0+(ae y14.1.2.1))+((0+(ae (((y14.2.1.2.1.length-0):Nat):Int)))-(0+(ae y14.1.2.1)))) y14.2.1.2.1)).length:Nat):Int)))) (
        ((f206 y14.2.1.1.1 y14.2.1.1.2.1 y14.2.1.1.2.2.1)).bind fun y16=>
        ((f208 (aw 0 (ap (0+(ae y14.1.2.1)) (((ap (0+(ae y14.1.2.1)) y14.2.1.2.1)++(bj ((0+(ae (((y14.2.1.2.1.length-0):Nat):Int)))-(0+(ae y14.1.2.1))) (0,0,0)))++(aw ((0+(ae y14.1.2.1))+((0+(ae (((y14.2.1.2.1.length-0):Nat):Int)))-(0+(ae y14.1.2.1)))) y14.2.1.2.1)))) y16.1.1 y16.1.2)).bind fun y17=>
        ((gV (ap (0+(ae y14.1.2.1)) (((ap (0+(ae y14.1.2.1)) y14.2.1.2.1)++(bj ((0+(ae (((y14.2.1.2.1.length-0):Nat):Int)))-(0+(ae y14.1.2.1))) (0,0,0)))++(aw ((0+(ae y14.1.2.1))+((0+(ae (((y14.2.1.2.1.length-0):Nat):Int)))-(0+(ae y14.1.2.1)))) y14.2.1.2.1))) y17.1 [(y14.2.1.1.1,y14.2.1.1.2.1,y14.2.1.1.2.2.1)])).bind fun y18=>
        some (y18,())) (
        none)) (
       none)
    | .inr z15=>
      none)
abbrev GR:Type:=(br×Int×Int×Unit)×(Unit)×aR×Unit
abbrev Nj:Type:=(Unit)×(Unit)×aR×Unit
abbrev Nq:Type:=Unit×Unit×Unit
noncomputable def HC (v1:br)(v2 v3:Int)(v4:aR):Option (R3 GR Nj Nq):=
 cond (decide (v3<v2)) (
  cond ((decide (0≤v3))&&(decide (v3<(v1.length:Int)))) (
   ((f189 (rd aZ v1 (ae v3)).1 (rd aZ v1 (ae v3)).2.1 (rd aZ v1 (ae v3)).2.2.1 (rd aZ v1 (ae v3)).2.2.2.1 (rd aZ v1 (ae v3)).2.2.2.2)).bind fun y5=>
   cond ((decide (((v4.length+1) * 8)≤140737488355328))&&(decide ((v4.length+1)≤9223372036854775807))) (
    some (R3.next ((v1,v2,(al .i64 (v3+1)),()),(),(v4++[y5.1.1.1]),()))) (
    none)) (
   none)) (
  some (R3.out ((),(),v4,())))
noncomputable def wV (z:GR):Option (R3 GR Nj Nq):=HC z.1.1 z.1.2.1 z.1.2.2.1 z.2.2.1
noncomputable def f196 (v1:br):Option ug:=
 ((iter az wV ((v1,(v1.length:Int),0,()),(),[],()))).bind fun r=>match r with
 | .inl y2=>
   ((Dn y2.2.2.1)).bind fun y4=>
   cond ((Nat.beq y4.length y2.2.2.1.length)&&true) (
    ((mV y4)).bind fun y5=>
    some (y5,())) (
    none)
 | .inr z3=>
   none
abbrev GP:Type:=(aQ×Int×Unit×aQ×Int×Int×Unit)×(D0×Unit)×(Unit)
abbrev PI:Type:=KP×(Unit)×(Unit)
abbrev Qo:Type:=bl×(Unit)×(Unit)
noncomputable def IA (v1:aQ)(v2:Int)(v3:aQ)(v4 v5 v6 v7 v8:Int):Option (R3 GP PI Qo):=
 cond (decide (v5<v4)) (
  cond ((decide (0≤v5))&&(decide (v5<(v3.length:Int)))) (
   cond (decide (v5=v2)) (
    some (R3.next ((v1,v2,(),v3,v4,(al .i64 (v5+1)),()),((v6,v7,v8,()),()),()))) (
    ((f145 v6 v7 v8 (rd cR v3 (ae v5)).1 (rd cR v3 (ae v5)).2.1 (rd cR v3 (ae v5)).2.2)).bind fun y9=>
    cond y9.1 (
     some (R3.ret ((11,()),(),()))) (
     some (R3.next ((v1,v2,(),v3,v4,(al .i64 (v5+1)),()),((v6,v7,v8,()),()),()))))) (
   none)) (
  some (R3.out ((v1,v2,()),(),())))
noncomputable def sC (z:GP):Option (R3 GP PI Qo):=IA z.1.1 z.1.2.1 z.1.2.2.2.1 z.1.2.2.2.2.1 z.1.2.2.2.2.2.1 z.2.1.1.1 z.2.1.1.2.1 z.2.1.1.2.2.1
noncomputable def f241 (v1 v2 v3 v4 v5 v6:Int)(v7:aR)(v8:aQ)(v9 v10 v11 v12:Int):Option bl:=
 ((f146 v10 v11 v12 v2)).bind fun y13=>
 cond (!y13.1) (
  some (1,())) (
  ((iter az sC ((v8,v9,(),v8,(v8.length:Int),0,()),((v10,v11,v12,()),()),()))).bind fun r=>match r with
  | .inl y14=>
    cond (decide (y14.1.2.1=(-1))) (
     cond (decide ((y14.1.1.length:Int)=3)) (
      some (9,())) (
      some (0,()))) (
     some (0,()))
  | .inr z15=>
    some (z15.1.1,()))
abbrev jV:Type:=Pc×Zw×(Unit)
abbrev rq:Type:=(Unit)×Zw×(Unit)
abbrev rF:Type:=bl×Zw×(Unit)
noncomputable def kY (v1:aR)(v2 v3 v4 v5 v6 v7 v8 v9:Int)(v10:aR)(v11:aQ)(v12 v13 v14 v15 v16 v17:Int):Option (R3 jV rq rF):=
 cond (decide (v3<v2)) (
  cond ((decide (0≤v3))&&(decide (v3<(v1.length:Int)))) (
   cond ((decide (0≤v6))&&(decide (v6<(v11.length:Int)))) (
    ((f177 (rd cR v11 (ae v6)).1 (rd cR v11 (ae v6)).2.1 (rd cR v11 (ae v6)).2.2 (rd aW v1 (ae v3)))).bind fun y18=>
    cond y18.1 (
     ((f177 v15 v16 v17 (rd aW v1 (ae v3)))).bind fun y19=>
     cond (!y19.1) (
      some (R3.ret ((v3,()),((v4,v5,v6,v7,v8,v9,v10,()),(v11,()),(v12,v13,v14,()),(v15,v16,v17,()),()),()))) (
      some (R3.next ((v1,(),v2,(al .i64 (v3+1)),()),((v4,v5,v6,v7,v8,v9,v10,()),(v11,()),(v12,v13,v14,()),(v15,v16,v17,()),()),())))) (
     some (R3.next ((v1,(),v2,(al .i64 (v3+1)),()),((v4,v5,v6,v7,v8,v9,v10,()),(v11,()),(v12,v13,v14,()),(v15,v16,v17,()),()),())))) (
    none)) (
   none)) (
  some (R3.out ((),((v4,v5,v6,v7,v8,v9,v10,()),(v11,()),(v12,v13,v14,()),(v15,v16,v17,()),()),())))
noncomputable def dJ (z:jV):Option (R3 jV rq rF):=kY z.1.1 z.1.2.2.1 z.1.2.2.2.1 z.2.1.1.1 z.2.1.1.2.1 z.2.1.1.2.2.1 z.2.1.1.2.2.2.1 z.2.1.1.2.2.2.2.1 z.2.1.1.2.2.2.2.2.1 z.2.1.1.2.2.2.2.2.2.1 z.2.1.2.1.1 z.2.1.2.2.1.1 z.2.1.2.2.1.2.1 z.2.1.2.2.1.2.2.1 z.2.1.2.2.2.1.1 z.2.1.2.2.2.1.2.1 z.2.1.2.2.2.1.2.2.1
abbrev kD:Type:=Pc×Wc×(Unit)
abbrev qk:Type:=(Unit)×Wc×(Unit)
abbrev qb:Type:=bl×Wc×(Unit)
noncomputable def kR (v1:aR)(v2 v3 v4 v5 v6 v7 v8 v9:Int)(v10:aR)(v11:aQ)(v12 v13 v14:Int):Option (R3 kD qk qb):=
 cond (decide (v3<v2)) (
  cond ((decide (0≤v3))&&(decide (v3<(v1.length:Int)))) (
   cond ((decide (0≤v6))&&(decide (v6<(v11.length:Int)))) (
    ((f177 (rd cR v11 (ae v6)).1 (rd cR v11 (ae v6)).2.1 (rd cR v11 (ae v6)).2.2 (rd aW v1 (ae v3)))).bind fun y15=>
    cond y15.1 (
     ((f177 v12 v13 v14 (rd aW v1 (ae v3)))).bind fun y16=>
     cond (!y16.1) (
      some (R3.ret ((v3,()),((v4,v5,v6,v7,v8,v9,v10,()),(v11,()),(v12,v13,v14,()),()),()))) (
      some (R3.next ((v1,(),v2,(al .i64 (v3+1)),()),((v4,v5,v6,v7,v8,v9,v10,()),(v11,()),(v12,v13,v14,()),()),())))) (
     some (R3.next ((v1,(),v2,(al .i64 (v3+1)),()),((v4,v5,v6,v7,v8,v9,v10,()),(v11,()),(v12,v13,v14,()),()),())))) (
    none)) (
   none)) (
  some (R3.out ((),((v4,v5,v6,v7,v8,v9,v10,()),(v11,()),(v12,v13,v14,()),()),())))
noncomputable def dF (z:kD):Option (R3 kD qk qb):=kR z.1.1 z.1.2.2.1 z.1.2.2.2.1 z.2.1.1.1 z.2.1.1.2.1 z.2.1.1.2.2.1 z.2.1.1.2.2.2.1 z.2.1.1.2.2.2.2.1 z.2.1.1.2.2.2.2.2.1 z.2.1.1.2.2.2.2.2.2.1 z.2.1.2.1.1 z.2.1.2.2.1.1 z.2.1.2.2.1.2.1 z.2.1.2.2.1.2.2.1
noncomputable def f222 (v1 v2 v3 v4 v5 v6:Int)(v7:aR)(v8:aQ):Option bl:=
 ((f108 v8 v2)).bind fun y9=>
 cond (!y9.1) (
  some (1,())) (
  cond (!(decide (v1=0))) (
   cond (decide (v3<0)) (
    some (5,())) (
    cond (decide ((v8.length:Int)≤v3)) (
     some (5,())) (
     cond (decide (v1=0)) (
      ((f241 v1 v2 v3 v4 v5 v6 v7 v8 (-1) v4 v5 v6)).bind fun y10=>
      some (y10.1,())) (
      cond (decide (v1=1)) (
       cond ((decide (0≤v3))&&(decide (v3<(v8.length:Int)))) (
        cond (decide ((rd cR v8 (ae v3)).2.2=1)) (
         some (11,())) (
         some (0,()))) (
        none)) (
       cond (decide (v1=2)) (
        cond ((decide (0≤v3))&&(decide (v3<(v8.length:Int)))) (
         ((f241 v1 v2 v3 v4 v5 v6 v7 v8 v3 (rd cR v8 (ae v3)).1 v5 (rd cR v8 (ae v3)).2.2)).bind fun y11=>
         cond (!(decide (y11.1=0))) (
          some (y11.1,())) (
          ((iter az dJ ((v7,(),(v7.length:Int),0,()),((v1,v2,v3,v4,v5,v6,v7,()),(v8,()),((rd cR v8 (ae v3)).1,v5,(rd cR v8 (ae v3)).2.2,()),((rd cR v8 (ae v3)).1,v5,(rd cR v8 (ae v3)).2.2,()),()),()))).bind fun r=>match r with
          | .inl y12=>
            some (0,())
          | .inr z13=>
            cond (decide (0≤z13.1.1)) (
             some (12,())) (
             some (0,())))) (
         none)) (
        cond (decide (v1=3)) (
         cond ((decide (0≤v3))&&(decide (v3<(v8.length:Int)))) (
          cond (decide ((rd cR v8 (ae v3)).2.2=0)) (
           some (12,())) (
           ((iter az dF ((v7,(),(v7.length:Int),0,()),((v1,v2,v3,v4,v5,v6,v7,()),(v8,()),(0,0,0,()),()),()))).bind fun r=>match r with
           | .inl y14=>
             some (0,())
           | .inr z15=>
             cond (decide (0≤z15.1.1)) (
              some (12,())) (
              some (0,())))) (
          none)) (
         some (0,())))))))) (
   cond (decide (v1=0)) (
    ((f241 v1 v2 v3 v4 v5 v6 v7 v8 (-1) v4 v5 v6)).bind fun y16=>
    some (y16.1,())) (
    cond (decide (v1=1)) (
     cond ((decide (0≤v3))&&(decide (v3<(v8.length:Int)))) (
      cond (decide ((rd cR v8 (ae v3)).2.2=1)) (
       some (11,())) (
       some (0,()))) (
      none)) (
     cond (decide (v1=2)) (
      cond ((decide (0≤v3))&&(decide (v3<(v8.length:Int)))) (
       ((f241 v1 v2 v3 v4 v5 v6 v7 v8 v3 (rd cR v8 (ae v3)).1 v5 (rd cR v8 (ae v3)).2.2)).bind fun y17=>
       cond (!(decide (y17.1=0))) (
        some (y17.1,())) (
        ((iter az dJ ((v7,(),(v7.length:Int),0,()),((v1,v2,v3,v4,v5,v6,v7,()),(v8,()),((rd cR v8 (ae v3)).1,v5,(rd cR v8 (ae v3)).2.2,()),((rd cR v8 (ae v3)).1,v5,(rd cR v8 (ae v3)).2.2,()),()),()))).bind fun r=>match r with
        | .inl y18=>
          some (0,())
        | .inr z19=>
          cond (decide (0≤z19.1.1)) (
           some (12,())) (
           some (0,())))) (
       none)) (
      cond (decide (v1=3)) (
       cond ((decide (0≤v3))&&(decide (v3<(v8.length:Int)))) (
        cond (decide ((rd cR v8 (ae v3)).2.2=0)) (
         some (12,())) (
         ((iter az dF ((v7,(),(v7.length:Int),0,()),((v1,v2,v3,v4,v5,v6,v7,()),(v8,()),(0,0,0,()),()),()))).bind fun r=>match r with
         | .inl y20=>
           some (0,())
         | .inr z21=>
           cond (decide (0≤z21.1.1)) (
            some (12,())) (
            some (0,())))) (
        none)) (
       some (0,())))))))
noncomputable def f211 (v1 v2 v3 v4 v5 v6:Int)(v7:aR)(v8:aQ):Option KP:=
 ((fR v8)).bind fun y9=>
 ((f222 v1 v2 v3 v4 v5 v6 v7 v8)).bind fun y10=>
 cond (!(decide (y10.1=0))) (
  some (y9.1,y10.1,())) (
  cond (decide (v1=0)) (
   cond ((decide (((y9.1.length+1) * 24)≤140737488355328))&&(decide ((y9.1.length+1)≤9223372036854775807))) (
    some ((y9.1++[(v4,v5,v6)]),0,())) (
    none)) (
   cond (decide (v1=1)) (
    cond ((decide (0≤v3))&&(decide (v3<(y9.1.length:Int)))) (
     cond (decide ((ae v3)<y9.1.length)) (
      some ((y9.1.set (ae v3) ((rd cR y9.1 (ae v3)).1,(rd cR y9.1 (ae v3)).2.1,1)),0,())) (
      none)) (
     none)) (
    cond (decide (v1=2)) (
     cond ((decide (0≤v3))&&(decide (v3<(y9.1.length:Int)))) (
      cond (decide ((ae v3)<y9.1.length)) (
       some ((y9.1.set (ae v3) ((rd cR y9.1 (ae v3)).1,v5,(rd cR y9.1 (ae v3)).2.2)),0,())) (
       none)) (
      none)) (
     cond ((((decide (0≤v3))&&(decide (v3≤(al .i64 (v3+1)))))&&(decide ((al .i64 (v3+1))≤(y9.1.length:Int))))&&(decide ((0+(y9.1.length:Int))≤(y9.1.length:Int)))) (
      cond (decide (v3=(al .i64 (v3+1)))) (
       some (y9.1,0,())) (
       cond ((decide (0≤v3))&&(decide ((0+v3)≤(y9.1.length:Int)))) (
        cond (((decide (0≤(al .i64 (v3+1))))&&(decide ((al .i64 (v3+1))≤(((y9.1.length-0):Nat):Int))))&&(decide ((0+(((y9.1.length-0):Nat):Int))≤(y9.1.length:Int)))) (
         cond (decide (((0+(ae v3))+(aw (0+(ae (al .i64 (v3+1)))) (ap (0+(ae (((y9.1.length-0):Nat):Int))) y9.1)).length)≤y9.1.length)) (
          cond (((decide (0≤(((((0+(ae v3))+(aw (0+(ae (al .i64 (v3+1)))) (ap (0+(ae (((y9.1.length-0):Nat):Int))) y9.1)).length)-0):Nat):Int)))&&(decide ((((((0+(ae v3))+(aw (0+(ae (al .i64 (v3+1)))) (ap (0+(ae (((y9.1.length-0):Nat):Int))) y9.1)).length)-0):Nat):Int)≤(y9.1.length:Int))))&&(decide ((0+(y9.1.length:Int))≤(((((ap (0+(ae v3)) y9.1)++(aw (0+(ae (al .i64 (v3+1)))) (ap (0+(ae (((y9.1.length-0):Nat):Int))) y9.1)))++(aw ((0+(ae v3))+(aw (0+(ae (al .i64 (v3+1)))) (ap (0+(ae (((y9.1.length-0):Nat):Int))) y9.1)).length) y9.1)).length:Nat):Int)))) (
           some ((aw 0 (ap ((0+(ae v3))+(aw (0+(ae (al .i64 (v3+1)))) (ap (0+(ae (((y9.1.length-0):Nat):Int))) y9.1)).length) (((ap (0+(ae (((((0+(ae v3))+(aw (0+(ae (al .i64 (v3+1)))) (ap (0+(ae (((y9.1.length-0):Nat):Int))) y9.1)).length)-0):Nat):Int))) (((ap (0+(ae v3)) y9.1)++(aw (0+(ae (al .i64 (v3+1)))) (ap (0+(ae (((y9.1.length-0):Nat):Int))) y9.1)))++(aw ((0+(ae v3))+(aw (0+(ae (al .i64 (v3+1)))) (ap (0+(ae (((y9.1.length-0):Nat):Int))) y9.1)).length) y9.1)))++(bj ((0+(ae (y9.1.length:Int)))-(0+(ae (((((0+(ae v3))+(aw (0+(ae (al .i64 (v3+1)))) (ap (0+(ae (((y9.1.length-0):Nat):Int))) y9.1)).length)-0):Nat):Int)))) (0,0,0)))++(aw ((0+(ae (((((0+(ae v3))+(aw (0+(ae (al .i64 (v3+1)))) (ap (0+(ae (((y9.1.length-0):Nat):Int))) y9.1)).length)-0):Nat):Int)))+((0+(ae (y9.1.length:Int)))-(0+(ae (((((0+(ae v3))+(aw (0+(ae (al .i64 (v3+1)))) (ap (0+(ae (((y9.1.length-0):Nat):Int))) y9.1)).length)-0):Nat):Int))))) (((ap (0+(ae v3)) y9.1)++(aw (0+(ae (al .i64 (v3+1)))) (ap (0+(ae (((y9.1.length-0):Nat):Int))) y9.1)))++(aw ((0+(ae v3))+(aw (0+(ae (al .i64 (v3+1)))) (ap (0+(ae (((y9.1.length-0):Nat):Int))) y9.1)).length) y9.1)))))),0,())) (
           none)) (
          none)) (
         none)) (
        none))) (
      none)))))
noncomputable def f197 (v1:aQ)(v2 v3 v4:Int):Option KP:=
 ((f211 0 v2 0 v3 v4 0 [] v1)).bind fun y5=>
 some (y5.1,y5.2.1,())
noncomputable def f198 (v1:aQ)(v2 v3:Int):Option KP:=
 ((f211 1 v2 v3 0 0 0 [] v1)).bind fun y4=>
 some (y4.1,y4.2.1,())
noncomputable def f199 (v1:aQ)(v2 v3 v4:Int)(v5:aR):Option KP:=
 ((f211 2 v2 v3 0 v4 0 v5 v1)).bind fun y6=>
 some (y6.1,y6.2.1,())
noncomputable def f200 (v1:aQ)(v2 v3:Int)(v4:aR):Option KP:=
 ((f211 3 v2 v3 0 0 0 v4 v1)).bind fun y5=>
 some (y5.1,y5.2.1,())
noncomputable def f129 (v1 v2 v3 v4 v5 v6 v7 v8 v9 v10 v11:Int)(v12:Bool)(v13:Int)(v14:aQ)(v15:br)(v16:aQ)(v17 v18 v19 v20 v21 v22 v23 v24:Int)(v25:Bool):Option (yb×Int×Unit):=
 ((f78 v1 v2 v3 v4 v5 v6 v7 v8 v9 v10 v11 v12 v13 v14 v15 v16)).bind fun y26=>
 cond (!y26.1) (
  ((f128 v1 v2 v3 v4 v5 v6 v7 v8 v9 v10 v11 v12 v13 v14 v15 v16)).bind fun y27=>
  some ((((y27.1.1.1.1,y27.1.1.1.2),(y27.1.1.2.1.1,y27.1.1.2.1.2),y27.1.1.2.2.1,y27.1.1.2.2.2.1,y27.1.1.2.2.2.2.1,y27.1.1.2.2.2.2.2),(y27.1.2.1.1,y27.1.2.1.2.1,y27.1.2.1.2.2.1,y27.1.2.1.2.2.2),y27.1.2.2.1,y27.1.2.2.2.1,y27.1.2.2.2.2.1,y27.1.2.2.2.2.2),1,())) (
  ((f84 v17 v18 v19 v20 v21 v22 v23 v24 v25)).bind fun y28=>
  cond (!y28.1) (
   ((f128 v1 v2 v3 v4 v5 v6 v7 v8 v9 v10 v11 v12 v13 v14 v15 v16)).bind fun y29=>
   some ((((y29.1.1.1.1,y29.1.1.1.2),(y29.1.1.2.1.1,y29.1.1.2.1.2),y29.1.1.2.2.1,y29.1.1.2.2.2.1,y29.1.1.2.2.2.2.1,y29.1.1.2.2.2.2.2),(y29.1.2.1.1,y29.1.2.1.2.1,y29.1.2.1.2.2.1,y29.1.2.1.2.2.2),y29.1.2.2.1,y29.1.2.2.2.1,y29.1.2.2.2.2.1,y29.1.2.2.2.2.2),1,())) (
   ((f169 v1 v2 v3 v4 v5 v6 v7 v8 v9 v10 v11 v12 v13 v14 v15 v16 v18)).bind fun y30=>
   cond (!y30.2.1) (
    ((f128 v1 v2 v3 v4 v5 v6 v7 v8 v9 v10 v11 v12 v13 v14 v15 v16)).bind fun y31=>
    some ((((y31.1.1.1.1,y31.1.1.1.2),(y31.1.1.2.1.1,y31.1.1.2.1.2),y31.1.1.2.2.1,y31.1.1.2.2.2.1,y31.1.1.2.2.2.2.1,y31.1.1.2.2.2.2.2),(y31.1.2.1.1,y31.1.2.1.2.1,y31.1.2.1.2.2.1,y31.1.2.1.2.2.2),y31.1.2.2.1,y31.1.2.2.2.1,y31.1.2.2.2.2.1,y31.1.2.2.2.2.2),10,())) (
    cond (decide (v17=0)) (
     ((f193 y30.1.2.2.2.2.1 v19 v20 v21 v18 v18)).bind fun y32=>
     cond (!y32.2.1) (
      ((f128 v1 v2 v3 v4 v5 v6 v7 v8 v9 v10 v11 v12 v13 v14 v15 v16)).bind fun y33=>
      some ((((y33.1.1.1.1,y33.1.1.1.2),(y33.1.1.2.1.1,y33.1.1.2.1.2),y33.1.1.2.2.1,y33.1.1.2.2.2.1,y33.1.1.2.2.2.2.1,y33.1.1.2.2.2.2.2),(y33.1.2.1.1,y33.1.2.1.2.1,y33.1.2.1.2.2.1,y33.1.2.1.2.2.2),y33.1.2.2.1,y33.1.2.2.2.1,y33.1.2.2.2.2.1,y33.1.2.2.2.2.2),2,())) (
      ((f78 y30.1.1.1.1 y30.1.1.1.2 y30.1.1.2.1.1 y30.1.1.2.1.2 y30.1.1.2.2.1 y30.1.1.2.2.2.1 y30.1.1.2.2.2.2.1 y30.1.1.2.2.2.2.2 y30.1.2.1.1 y30.1.2.1.2.1 y30.1.2.1.2.2.1 y30.1.2.1.2.2.2 y30.1.2.2.1 y30.1.2.2.2.1 y32.1 y30.1.2.2.2.2.2)).bind fun y34=>
      cond (!y34.1) (
       ((f128 v1 v2 v3 v4 v5 v6 v7 v8 v9 v10 v11 v12 v13 v14 v15 v16)).bind fun y35=>
       some ((((y35.1.1.1.1,y35.1.1.1.2),(y35.1.1.2.1.1,y35.1.1.2.1.2),y35.1.1.2.2.1,y35.1.1.2.2.2.1,y35.1.1.2.2.2.2.1,y35.1.1.2.2.2.2.2),(y35.1.2.1.1,y35.1.2.1.2.1,y35.1.2.1.2.2.1,y35.1.2.1.2.2.2),y35.1.2.2.1,y35.1.2.2.2.1,y35.1.2.2.2.2.1,y35.1.2.2.2.2.2),2,())) (
       some ((((y30.1.1.1.1,y30.1.1.1.2),(y30.1.1.2.1.1,y30.1.1.2.1.2),y30.1.1.2.2.1,y30.1.1.2.2.2.1,y30.1.1.2.2.2.2.1,y30.1.1.2.2.2.2.2),(y30.1.2.1.1,y30.1.2.1.2.1,y30.1.2.1.2.2.1,y30.1.2.1.2.2.2),y30.1.2.2.1,y30.1.2.2.2.1,y32.1,y30.1.2.2.2.2.2),0,())))) (
     cond (decide (v17=1)) (
      ((f151 y30.1.2.2.2.2.1 v20 v21)).bind fun y36=>
      cond (decide (y36.1=(-1))) (
       ((f128 v1 v2 v3 v4 v5 v6 v7 v8 v9 v10 v11 v12 v13 v14 v15 v16)).bind fun y37=>
       some ((((y37.1.1.1.1,y37.1.1.1.2),(y37.1.1.2.1.1,y37.1.1.2.1.2),y37.1.1.2.2.1,y37.1.1.2.2.2.1,y37.1.1.2.2.2.2.1,y37.1.1.2.2.2.2.2),(y37.1.2.1.1,y37.1.2.1.2.1,y37.1.2.1.2.2.1,y37.1.2.1.2.2.2),y37.1.2.2.1,y37.1.2.2.2.1,y37.1.2.2.2.2.1,y37.1.2.2.2.2.2),2,())) (
       cond ((decide (0≤y36.1))&&(decide (y36.1<(y30.1.2.2.2.2.1.length:Int)))) (
        cond (!(decide ((rd aZ y30.1.2.2.2.2.1 (ae y36.1)).1=v19))) (
         ((f128 v1 v2 v3 v4 v5 v6 v7 v8 v9 v10 v11 v12 v13 v14 v15 v16)).bind fun y38=>
         some ((((y38.1.1.1.1,y38.1.1.1.2),(y38.1.1.2.1.1,y38.1.1.2.1.2),y38.1.1.2.2.1,y38.1.1.2.2.2.1,y38.1.1.2.2.2.2.1,y38.1.1.2.2.2.2.2),(y38.1.2.1.1,y38.1.2.1.2.1,y38.1.2.1.2.2.1,y38.1.2.1.2.2.2),y38.1.2.2.1,y38.1.2.2.2.1,y38.1.2.2.2.2.1,y38.1.2.2.2.2.2),2,())) (
         ((f194 y30.1.2.2.2.2.1 v20 v21)).bind fun y39=>
         cond (decide (0<y30.1.2.1.2.2.1)) (
          ((f195 y30.1.2.2.2.2.2 v20 v21 (al .i64 (v18+y30.1.2.1.2.2.1)))).bind fun y40=>
          ((f78 y30.1.1.1.1 y30.1.1.1.2 y30.1.1.2.1.1 y30.1.1.2.1.2 y30.1.1.2.2.1 y30.1.1.2.2.2.1 y30.1.1.2.2.2.2.1 y30.1.1.2.2.2.2.2 y30.1.2.1.1 y30.1.2.1.2.1 y30.1.2.1.2.2.1 y30.1.2.1.2.2.2 y30.1.2.2.1 y30.1.2.2.2.1 y39.1 y40.1)).bind fun y41=>
          cond (!y41.1) (
           ((f128 v1 v2 v3 v4 v5 v6 v7 v8 v9 v10 v11 v12 v13 v14 v15 v16)).bind fun y42=>
           some ((((y42.1.1.1.1,y42.1.1.1.2),(y42.1.1.2.1.1,y42.1.1.2.1.2),y42.1.1.2.2.1,y42.1.1.2.2.2.1,y42.1.1.2.2.2.2.1,y42.1.1.2.2.2.2.2),(y42.1.2.1.1,y42.1.2.1.2.1,y42.1.2.1.2.2.1,y42.1.2.1.2.2.2),y42.1.2.2.1,y42.1.2.2.2.1,y42.1.2.2.2.2.1,y42.1.2.2.2.2.2),2,())) (
           some ((((y30.1.1.1.1,y30.1.1.1.2),(y30.1.1.2.1.1,y30.1.1.2.1.2),y30.1.1.2.2.1,y30.1.1.2.2.2.1,y30.1.1.2.2.2.2.1,y30.1.1.2.2.2.2.2),(y30.1.2.1.1,y30.1.2.1.2.1,y30.1.2.1.2.2.1,y30.1.2.1.2.2.2),y30.1.2.2.1,y30.1.2.2.2.1,y39.1,y40.1),0,()))) (
          ((f78 y30.1.1.1.1 y30.1.1.1.2 y30.1.1.2.1.1 y30.1.1.2.1.2 y30.1.1.2.2.1 y30.1.1.2.2.2.1 y30.1.1.2.2.2.2.1 y30.1.1.2.2.2.2.2 y30.1.2.1.1 y30.1.2.1.2.1 y30.1.2.1.2.2.1 y30.1.2.1.2.2.2 y30.1.2.2.1 y30.1.2.2.2.1 y39.1 y30.1.2.2.2.2.2)).bind fun y43=>
          cond (!y43.1) (
           ((f128 v1 v2 v3 v4 v5 v6 v7 v8 v9 v10 v11 v12 v13 v14 v15 v16)).bind fun y44=>
           some ((((y44.1.1.1.1,y44.1.1.1.2),(y44.1.1.2.1.1,y44.1.1.2.1.2),y44.1.1.2.2.1,y44.1.1.2.2.2.1,y44.1.1.2.2.2.2.1,y44.1.1.2.2.2.2.2),(y44.1.2.1.1,y44.1.2.1.2.1,y44.1.2.1.2.2.1,y44.1.2.1.2.2.2),y44.1.2.2.1,y44.1.2.2.2.1,y44.1.2.2.2.2.1,y44.1.2.2.2.2.2),2,())) (
           some ((((y30.1.1.1.1,y30.1.1.1.2),(y30.1.1.2.1.1,y30.1.1.2.1.2),y30.1.1.2.2.1,y30.1.1.2.2.2.1,y30.1.1.2.2.2.2.1,y30.1.1.2.2.2.2.2),(y30.1.2.1.1,y30.1.2.1.2.1,y30.1.2.1.2.2.1,y30.1.2.1.2.2.2),y30.1.2.2.1,y30.1.2.2.2.1,y39.1,y30.1.2.2.2.2.2),0,()))))) (
        none))) (
      cond (decide (v17=6)) (
       ((f78 y30.1.1.1.1 y30.1.1.1.2 y30.1.1.2.1.1 y30.1.1.2.1.2 y30.1.1.2.2.1 y30.1.1.2.2.2.1 y30.1.1.2.2.2.2.1 y30.1.1.2.2.2.2.2 v22 v23 v24 v25 y30.1.2.2.1 y30.1.2.2.2.1 y30.1.2.2.2.2.1 y30.1.2.2.2.2.2)).bind fun y45=>
       cond (!y45.1) (
        ((f128 v1 v2 v3 v4 v5 v6 v7 v8 v9 v10 v11 v12 v13 v14 v15 v16)).bind fun y46=>
        some ((((y46.1.1.1.1,y46.1.1.1.2),(y46.1.1.2.1.1,y46.1.1.2.1.2),y46.1.1.2.2.1,y46.1.1.2.2.2.1,y46.1.1.2.2.2.2.1,y46.1.1.2.2.2.2.2),(y46.1.2.1.1,y46.1.2.1.2.1,y46.1.2.1.2.2.1,y46.1.2.1.2.2.2),y46.1.2.2.1,y46.1.2.2.2.1,y46.1.2.2.2.2.1,y46.1.2.2.2.2.2),2,())) (
        some ((((y30.1.1.1.1,y30.1.1.1.2),(y30.1.1.2.1.1,y30.1.1.2.1.2),y30.1.1.2.2.1,y30.1.1.2.2.2.1,y30.1.1.2.2.2.2.1,y30.1.1.2.2.2.2.2),(v22,v23,v24,v25),y30.1.2.2.1,y30.1.2.2.2.1,y30.1.2.2.2.2.1,y30.1.2.2.2.2.2),0,()))) (
       ((f29 y30.1.1.2.1.1 y30.1.1.2.1.2)).bind fun y47=>
       ((f196 y30.1.2.2.2.2.1)).bind fun y48=>
       cond (decide (v17=2)) (
        ((f197 y30.1.2.2.2.1 y47.1 v19 v20)).bind fun y49=>
        cond (!(decide (y49.2.1=0))) (
         ((f128 v1 v2 v3 v4 v5 v6 v7 v8 v9 v10 v11 v12 v13 v14 v15 v16)).bind fun y50=>
         some ((((y50.1.1.1.1,y50.1.1.1.2),(y50.1.1.2.1.1,y50.1.1.2.1.2),y50.1.1.2.2.1,y50.1.1.2.2.2.1,y50.1.1.2.2.2.2.1,y50.1.1.2.2.2.2.2),(y50.1.2.1.1,y50.1.2.1.2.1,y50.1.2.1.2.2.1,y50.1.2.1.2.2.2),y50.1.2.2.1,y50.1.2.2.2.1,y50.1.2.2.2.2.1,y50.1.2.2.2.2.2),2,())) (
         ((f78 y30.1.1.1.1 y30.1.1.1.2 y30.1.1.2.1.1 y30.1.1.2.1.2 y30.1.1.2.2.1 y30.1.1.2.2.2.1 y30.1.1.2.2.2.2.1 y30.1.1.2.2.2.2.2 y30.1.2.1.1 y30.1.2.1.2.1 y30.1.2.1.2.2.1 y30.1.2.1.2.2.2 y30.1.2.2.1 y49.1 y30.1.2.2.2.2.1 y30.1.2.2.2.2.2)).bind fun y51=>
         cond (!y51.1) (
          ((f128 v1 v2 v3 v4 v5 v6 v7 v8 v9 v10 v11 v12 v13 v14 v15 v16)).bind fun y52=>
          some ((((y52.1.1.1.1,y52.1.1.1.2),(y52.1.1.2.1.1,y52.1.1.2.1.2),y52.1.1.2.2.1,y52.1.1.2.2.2.1,y52.1.1.2.2.2.2.1,y52.1.1.2.2.2.2.2),(y52.1.2.1.1,y52.1.2.1.2.1,y52.1.2.1.2.2.1,y52.1.2.1.2.2.2),y52.1.2.2.1,y52.1.2.2.2.1,y52.1.2.2.2.2.1,y52.1.2.2.2.2.2),2,())) (
          some ((((y30.1.1.1.1,y30.1.1.1.2),(y30.1.1.2.1.1,y30.1.1.2.1.2),y30.1.1.2.2.1,y30.1.1.2.2.2.1,y30.1.1.2.2.2.2.1,y30.1.1.2.2.2.2.2),(y30.1.2.1.1,y30.1.2.1.2.1,y30.1.2.1.2.2.1,y30.1.2.1.2.2.2),y30.1.2.2.1,y49.1,y30.1.2.2.2.2.1,y30.1.2.2.2.2.2),0,())))) (
        cond (decide (v17=3)) (
         ((f198 y30.1.2.2.2.1 y47.1 v19)).bind fun y53=>
         cond (!(decide (y53.2.1=0))) (
          ((f128 v1 v2 v3 v4 v5 v6 v7 v8 v9 v10 v11 v12 v13 v14 v15 v16)).bind fun y54=>
          some ((((y54.1.1.1.1,y54.1.1.1.2),(y54.1.1.2.1.1,y54.1.1.2.1.2),y54.1.1.2.2.1,y54.1.1.2.2.2.1,y54.1.1.2.2.2.2.1,y54.1.1.2.2.2.2.2),(y54.1.2.1.1,y54.1.2.1.2.1,y54.1.2.1.2.2.1,y54.1.2.1.2.2.2),y54.1.2.2.1,y54.1.2.2.2.1,y54.1.2.2.2.2.1,y54.1.2.2.2.2.2),2,())) (
          ((f78 y30.1.1.1.1 y30.1.1.1.2 y30.1.1.2.1.1 y30.1.1.2.1.2 y30.1.1.2.2.1 y30.1.1.2.2.2.1 y30.1.1.2.2.2.2.1 y30.1.1.2.2.2.2.2 y30.1.2.1.1 y30.1.2.1.2.1 y30.1.2.1.2.2.1 y30.1.2.1.2.2.2 y30.1.2.2.1 y53.1 y30.1.2.2.2.2.1 y30.1.2.2.2.2.2)).bind fun y55=>
          cond (!y55.1) (
           ((f128 v1 v2 v3 v4 v5 v6 v7 v8 v9 v10 v11 v12 v13 v14 v15 v16)).bind fun y56=>
           some ((((y56.1.1.1.1,y56.1.1.1.2),(y56.1.1.2.1.1,y56.1.1.2.1.2),y56.1.1.2.2.1,y56.1.1.2.2.2.1,y56.1.1.2.2.2.2.1,y56.1.1.2.2.2.2.2),(y56.1.2.1.1,y56.1.2.1.2.1,y56.1.2.1.2.2.1,y56.1.2.1.2.2.2),y56.1.2.2.1,y56.1.2.2.2.1,y56.1.2.2.2.2.1,y56.1.2.2.2.2.2),2,())) (
           some ((((y30.1.1.1.1,y30.1.1.1.2),(y30.1.1.2.1.1,y30.1.1.2.1.2),y30.1.1.2.2.1,y30.1.1.2.2.2.1,y30.1.1.2.2.2.2.1,y30.1.1.2.2.2.2.2),(y30.1.2.1.1,y30.1.2.1.2.1,y30.1.2.1.2.2.1,y30.1.2.1.2.2.2),y30.1.2.2.1,y53.1,y30.1.2.2.2.2.1,y30.1.2.2.2.2.2),0,())))) (
         cond (decide (v17=4)) (
          ((f199 y30.1.2.2.2.1 y47.1 v19 v20 y48.1)).bind fun y57=>
          cond (!(decide (y57.2.1=0))) (
           ((f128 v1 v2 v3 v4 v5 v6 v7 v8 v9 v10 v11 v12 v13 v14 v15 v16)).bind fun y58=>
           some ((((y58.1.1.1.1,y58.1.1.1.2),(y58.1.1.2.1.1,y58.1.1.2.1.2),y58.1.1.2.2.1,y58.1.1.2.2.2.1,y58.1.1.2.2.2.2.1,y58.1.1.2.2.2.2.2),(y58.1.2.1.1,y58.1.2.1.2.1,y58.1.2.1.2.2.1,y58.1.2.1.2.2.2),y58.1.2.2.1,y58.1.2.2.2.1,y58.1.2.2.2.2.1,y58.1.2.2.2.2.2),2,())) (
           ((f78 y30.1.1.1.1 y30.1.1.1.2 y30.1.1.2.1.1 y30.1.1.2.1.2 y30.1.1.2.2.1 y30.1.1.2.2.2.1 y30.1.1.2.2.2.2.1 y30.1.1.2.2.2.2.2 y30.1.2.1.1 y30.1.2.1.2.1 y30.1.2.1.2.2.1 y30.1.2.1.2.2.2 y30.1.2.2.1 y57.1 y30.1.2.2.2.2.1 y30.1.2.2.2.2.2)).bind fun y59=>
           cond (!y59.1) (
            ((f128 v1 v2 v3 v4 v5 v6 v7 v8 v9 v10 v11 v12 v13 v14 v15 v16)).bind fun y60=>
            some ((((y60.1.1.1.1,y60.1.1.1.2),(y60.1.1.2.1.1,y60.1.1.2.1.2),y60.1.1.2.2.1,y60.1.1.2.2.2.1,y60.1.1.2.2.2.2.1,y60.1.1.2.2.2.2.2),(y60.1.2.1.1,y60.1.2.1.2.1,y60.1.2.1.2.2.1,y60.1.2.1.2.2.2),y60.1.2.2.1,y60.1.2.2.2.1,y60.1.2.2.2.2.1,y60.1.2.2.2.2.2),2,())) (
            some ((((y30.1.1.1.1,y30.1.1.1.2),(y30.1.1.2.1.1,y30.1.1.2.1.2),y30.1.1.2.2.1,y30.1.1.2.2.2.1,y30.1.1.2.2.2.2.1,y30.1.1.2.2.2.2.2),(y30.1.2.1.1,y30.1.2.1.2.1,y30.1.2.1.2.2.1,y30.1.2.1.2.2.2),y30.1.2.2.1,y57.1,y30.1.2.2.2.2.1,y30.1.2.2.2.2.2),0,())))) (
          ((f200 y30.1.2.2.2.1 y47.1 v19 y48.1)).bind fun y61=>
          cond (!(decide (y61.2.1=0))) (
           ((f128 v1 v2 v3 v4 v5 v6 v7 v8 v9 v10 v11 v12 v13 v14 v15 v16)).bind fun y62=>
           some ((((y62.1.1.1.1,y62.1.1.1.2),(y62.1.1.2.1.1,y62.1.1.2.1.2),y62.1.1.2.2.1,y62.1.1.2.2.2.1,y62.1.1.2.2.2.2.1,y62.1.1.2.2.2.2.2),(y62.1.2.1.1,y62.1.2.1.2.1,y62.1.2.1.2.2.1,y62.1.2.1.2.2.2),y62.1.2.2.1,y62.1.2.2.2.1,y62.1.2.2.2.2.1,y62.1.2.2.2.2.2),2,())) (
           ((f78 y30.1.1.1.1 y30.1.1.1.2 y30.1.1.2.1.1 y30.1.1.2.1.2 y30.1.1.2.2.1 y30.1.1.2.2.2.1 y30.1.1.2.2.2.2.1 y30.1.1.2.2.2.2.2 y30.1.2.1.1 y30.1.2.1.2.1 y30.1.2.1.2.2.1 y30.1.2.1.2.2.2 y30.1.2.2.1 y61.1 y30.1.2.2.2.2.1 y30.1.2.2.2.2.2)).bind fun y63=>
           cond (!y63.1) (
            ((f128 v1 v2 v3 v4 v5 v6 v7 v8 v9 v10 v11 v12 v13 v14 v15 v16)).bind fun y64=>
            some ((((y64.1.1.1.1,y64.1.1.1.2),(y64.1.1.2.1.1,y64.1.1.2.1.2),y64.1.1.2.2.1,y64.1.1.2.2.2.1,y64.1.1.2.2.2.2.1,y64.1.1.2.2.2.2.2),(y64.1.2.1.1,y64.1.2.1.2.1,y64.1.2.1.2.2.1,y64.1.2.1.2.2.2),y64.1.2.2.1,y64.1.2.2.2.1,y64.1.2.2.2.2.1,y64.1.2.2.2.2.2),2,())) (
            some ((((y30.1.1.1.1,y30.1.1.1.2),(y30.1.1.2.1.1,y30.1.1.2.1.2),y30.1.1.2.2.1,y30.1.1.2.2.2.1,y30.1.1.2.2.2.2.1,y30.1.1.2.2.2.2.2),(y30.1.2.1.1,y30.1.2.1.2.1,y30.1.2.1.2.2.1,y30.1.2.1.2.2.2),y30.1.2.2.1,y61.1,y30.1.2.2.2.2.1,y30.1.2.2.2.2.2),0,()))))))))))))
abbrev NV:Type:=(Unit×Unit×Unit×Int×BN×Int×Int×Unit)×(JK×RC×JK×Unit)×aQ×br×aQ×Unit
abbrev UK:Type:=(Unit×Unit×Unit×Int×Unit)×(JK×RC×JK×Unit)×aQ×br×aQ×Unit
abbrev U2:Type:=Unit×Unit×Unit
noncomputable def JD (v1:Int)(v2:BN)(v3 v4 v5 v6 v7 v8 v9 v10 v11 v12 v13 v14 v15:Int)(v16:Bool)(v17:Int)(v18:aQ)(v19:br)(v20:aQ)(v21 v22 v23 v24 v25 v26 v27 v28 v29 v30 v31:Int)(v32:Bool)(v33 v34 v35 v36 v37 v38 v39 v40 v41 v42 v43 v44:Int)(v45:Bool)(v46:Int)(v47:aQ)(v48:br)(v49 v50:aQ)(v51:br)(v52:aQ):Option (R3 NV UK U2):=
 cond (decide (v4<v3)) (
  cond ((decide (0≤v4))&&(decide (v4<(v2.length:Int)))) (
   ((f129 v34 v35 v36 v37 v38 v39 v40 v41 v42 v43 v44 v45 v46 v47 v48 v49 (rd cG v2 (ae v4)).1 (rd cG v2 (ae v4)).2.1 (rd cG v2 (ae v4)).2.2.1 (rd cG v2 (ae v4)).2.2.2.1 (rd cG v2 (ae v4)).2.2.2.2.1 (rd cG v2 (ae v4)).2.2.2.2.2.1 (rd cG v2 (ae v4)).2.2.2.2.2.2.1 (rd cG v2 (ae v4)).2.2.2.2.2.2.2.1 (rd cG v2 (ae v4)).2.2.2.2.2.2.2.2)).bind fun y53=>
   cond (!(decide (y53.2.1=0))) (
    some (R3.out (((),(),(),y53.2.1,()),((v5,v6,v7,v8,v9,v10,v11,v12,v13,v14,v15,v16,v17,v18,v19,v20,()),(v21,v22,v23,v24,v25,v26,v27,v28,v29,v30,v31,v32,v33,(),(),(),()),(y53.1.1.1.1,y53.1.1.1.2,y53.1.1.2.1.1,y53.1.1.2.1.2,y53.1.1.2.2.1,y53.1.1.2.2.2.1,y53.1.1.2.2.2.2.1,y53.1.1.2.2.2.2.2,y53.1.2.1.1,y53.1.2.1.2.1,y53.1.2.1.2.2.1,y53.1.2.1.2.2.2,y53.1.2.2.1,y53.1.2.2.2.1,y53.1.2.2.2.2.1,y53.1.2.2.2.2.2,()),()),v50,v51,v52,()))) (
    some (R3.next (((),(),(),y53.2.1,v2,v3,(al .i64 (v4+1)),()),((v5,v6,v7,v8,v9,v10,v11,v12,v13,v14,v15,v16,v17,v18,v19,v20,()),(v21,v22,v23,v24,v25,v26,v27,v28,v29,v30,v31,v32,v33,(),(),(),()),(y53.1.1.1.1,y53.1.1.1.2,y53.1.1.2.1.1,y53.1.1.2.1.2,y53.1.1.2.2.1,y53.1.1.2.2.2.1,y53.1.1.2.2.2.2.1,y53.1.1.2.2.2.2.2,y53.1.2.1.1,y53.1.2.1.2.1,y53.1.2.1.2.2.1,y53.1.2.1.2.2.2,y53.1.2.2.1,y53.1.2.2.2.1,y53.1.2.2.2.2.1,y53.1.2.2.2.2.2,()),()),v50,v51,v52,())))) (
   none)) (
  some (R3.out (((),(),(),v1,()),((v5,v6,v7,v8,v9,v10,v11,v12,v13,v14,v15,v16,v17,v18,v19,v20,()),(v21,v22,v23,v24,v25,v26,v27,v28,v29,v30,v31,v32,v33,(),(),(),()),(v34,v35,v36,v37,v38,v39,v40,v41,v42,v43,v44,v45,v46,v47,v48,v49,()),()),v50,v51,v52,())))
noncomputable def tF (z:NV):Option (R3 NV UK U2):=JD z.1.2.2.2.1 z.1.2.2.2.2.1 z.1.2.2.2.2.2.1 z.1.2.2.2.2.2.2.1 z.2.1.1.1 z.2.1.1.2.1 z.2.1.1.2.2.1 z.2.1.1.2.2.2.1 z.2.1.1.2.2.2.2.1 z.2.1.1.2.2.2.2.2.1 z.2.1.1.2.2.2.2.2.2.1 z.2.1.1.2.2.2.2.2.2.2.1 z.2.1.1.2.2.2.2.2.2.2.2.1 z.2.1.1.2.2.2.2.2.2.2.2.2.1 z.2.1.1.2.2.2.2.2.2.2.2.2.2.1 z.2.1.1.2.2.2.2.2.2.2.2.2.2.2.1 z.2.1.1.2.2.2.2.2.2.2.2.2.2.2.2.1 z.2.1.1.2.2.2.2.2.2.2.2.2.2.2.2.2.1 z.2.1.1.2.2.2.2.2.2.2.2.2.2.2.2.2.2.1 z.2.1.1.2.2.2.2.2.2.2.2.2.2.2.2.2.2.2.1 z.2.1.2.1.1 z.2.1.2.1.2.1 z.2.1.2.1.2.2.1 z.2.1.2.1.2.2.2.1 z.2.1.2.1.2.2.2.2.1 z.2.1.2.1.2.2.2.2.2.1 z.2.1.2.1.2.2.2.2.2.2.1 z.2.1.2.1.2.2.2.2.2.2.2.1 z.2.1.2.1.2.2.2.2.2.2.2.2.1 z.2.1.2.1.2.2.2.2.2.2.2.2.2.1 z.2.1.2.1.2.2.2.2.2.2.2.2.2.2.1 z.2.1.2.1.2.2.2.2.2.2.2.2.2.2.2.1 z.2.1.2.1.2.2.2.2.2.2.2.2.2.2.2.2.1 z.2.1.2.2.1.1 z.2.1.2.2.1.2.1 z.2.1.2.2.1.2.2.1 z.2.1.2.2.1.2.2.2.1 z.2.1.2.2.1.2.2.2.2.1 z.2.1.2.2.1.2.2.2.2.2.1 z.2.1.2.2.1.2.2.2.2.2.2.1 z.2.1.2.2.1.2.2.2.2.2.2.2.1 z.2.1.2.2.1.2.2.2.2.2.2.2.2.1 z.2.1.2.2.1.2.2.2.2.2.2.2.2.2.1 z.2.1.2.2.1.2.2.2.2.2.2.2.2.2.2.1 z.2.1.2.2.1.2.2.2.2.2.2.2.2.2.2.2.1 z.2.1.2.2.1.2.2.2.2.2.2.2.2.2.2.2.2.1 z.2.1.2.2.1.2.2.2.2.2.2.2.2.2.2.2.2.2.1 z.2.1.2.2.1.2.2.2.2.2.2.2.2.2.2.2.2.2.2.1 z.2.1.2.2.1.2.2.2.2.2.2.2.2.2.2.2.2.2.2.2.1 z.2.2.1 z.2.2.2.1 z.2.2.2.2.1
noncomputable def f94 (v1 v2 v3 v4 v5 v6 v7 v8 v9 v10 v11:Int)(v12:Bool)(v13:Int)(v14:aQ)(v15:br)(v16:aQ)(v17:BN):Option (yb×Int×Unit):=
 ((f128 v1 v2 v3 v4 v5 v6 v7 v8 v9 v10 v11 v12 v13 v14 v15 v16)).bind fun y18=>
 ((iter az tF (((),(),(),0,v17,(v17.length:Int),0,()),((v1,v2,v3,v4,v5,v6,v7,v8,v9,v10,v11,v12,v13,v14,v15,v16,()),(0,0,0,0,0,0,0,0,0,0,0,false,0,(),(),(),()),(y18.1.1.1.1,y18.1.1.1.2,y18.1.1.2.1.1,y18.1.1.2.1.2,y18.1.1.2.2.1,y18.1.1.2.2.2.1,y18.1.1.2.2.2.2.1,y18.1.1.2.2.2.2.2,y18.1.2.1.1,y18.1.2.1.2.1,y18.1.2.1.2.2.1,y18.1.2.1.2.2.2,y18.1.2.2.1,y18.1.2.2.2.1,y18.1.2.2.2.2.1,y18.1.2.2.2.2.2,()),()),[],[],[],()))).bind fun r=>match r with
 | .inl y19=>
   cond (!(decide (y19.1.2.2.2.1=0))) (
    ((f128 y19.2.1.1.1 y19.2.1.1.2.1 y19.2.1.1.2.2.1 y19.2.1.1.2.2.2.1 y19.2.1.1.2.2.2.2.1 y19.2.1.1.2.2.2.2.2.1 y19.2.1.1.2.2.2.2.2.2.1 y19.2.1.1.2.2.2.2.2.2.2.1 y19.2.1.1.2.2.2.2.2.2.2.2.1 y19.2.1.1.2.2.2.2.2.2.2.2.2.1 y19.2.1.1.2.2.2.2.2.2.2.2.2.2.1 y19.2.1.1.2.2.2.2.2.2.2.2.2.2.2.1 y19.2.1.1.2.2.2.2.2.2.2.2.2.2.2.2.1 y19.2.1.1.2.2.2.2.2.2.2.2.2.2.2.2.2.1 y19.2.1.1.2.2.2.2.2.2.2.2.2.2.2.2.2.2.1 y19.2.1.1.2.2.2.2.2.2.2.2.2.2.2.2.2.2.2.1)).bind fun y21=>
    some ((((y21.1.1.1.1,y21.1.1.1.2),(y21.1.1.2.1.1,y21.1.1.2.1.2),y21.1.1.2.2.1,y21.1.1.2.2.2.1,y21.1.1.2.2.2.2.1,y21.1.1.2.2.2.2.2),(y21.1.2.1.1,y21.1.2.1.2.1,y21.1.2.1.2.2.1,y21.1.2.1.2.2.2),y21.1.2.2.1,y21.1.2.2.2.1,y21.1.2.2.2.2.1,y21.1.2.2.2.2.2),y19.1.2.2.2.1,())) (
    some ((((y19.2.1.2.2.1.1,y19.2.1.2.2.1.2.1),(y19.2.1.2.2.1.2.2.1,y19.2.1.2.2.1.2.2.2.1),y19.2.1.2.2.1.2.2.2.2.1,y19.2.1.2.2.1.2.2.2.2.2.1,y19.2.1.2.2.1.2.2.2.2.2.2.1,y19.2.1.2.2.1.2.2.2.2.2.2.2.1),(y19.2.1.2.2.1.2.2.2.2.2.2.2.2.1,y19.2.1.2.2.1.2.2.2.2.2.2.2.2.2.1,y19.2.1.2.2.1.2.2.2.2.2.2.2.2.2.2.1,y19.2.1.2.2.1.2.2.2.2.2.2.2.2.2.2.2.1),y19.2.1.2.2.1.2.2.2.2.2.2.2.2.2.2.2.2.1,y19.2.1.2.2.1.2.2.2.2.2.2.2.2.2.2.2.2.2.1,y19.2.1.2.2.1.2.2.2.2.2.2.2.2.2.2.2.2.2.2.1,y19.2.1.2.2.1.2.2.2.2.2.2.2.2.2.2.2.2.2.2.2.1),0,()))
 | .inr z20=>
   none
abbrev eg:Type:=(Unit×Unit×Unit×Unit)×(Y1×JK×E8×pq×ug×E8×abY×E8×Unit)×aQ×br×aQ×BN×Unit
abbrev wj:Type:=Unit×(Unit×Unit×Unit×Unit×Unit×Unit×Unit×Unit)×Unit
abbrev j7:Type:=(Unit)×(Y1×JK×E8×pq×ug×E8×abY×Unit)×aQ×br×aQ×BN×Unit
noncomputable def xA (v1 v2 v3 v4 v5 v6 v7 v8 v9 v10 v11:Int)(v12:Bool)(v13 v14 v15 v16 v17 v18 v19 v20 v21 v22 v23 v24 v25 v26:Int)(v27:Bool)(v28:Int)(v29:aQ)(v30:br)(v31:aQ)(v32 v33 v34 v35 v36 v37 v38 v39 v40 v41 v42:Int)(v43:Bool)(v44:Int)(v45:aQ)(v46:br)(v47:aQ)(v48 v49:Int)(v50:aR)(v51 v52 v53 v54 v55 v56 v57 v58 v59 v60 v61:Int)(v62:Bool)(v63:Int)(v64:aQ)(v65:br)(v66:aQ)(v67 v68 v69 v70 v71 v72 v73 v74 v75 v76 v77 v78 v79:Int)(v80:Bool)(v81:Int)(v82:aQ)(v83:br)(v84:aQ)(v85 v86:Int)(v87:aQ)(v88:br)(v89:aQ)(v90:BN):Option (R3 eg wj j7):=
 ((f70 v50 v86)).bind fun y91=>
 cond (!(decide (y91.2.2.1=0))) (
  some (R3.ret ((),((v1,v2,v3,v4,v5,v6,v7,v8,v9,v10,v11,v12,v13,(),(),(),v14,v15,()),(v16,v17,v18,v19,v20,v21,v22,v23,v24,v25,v26,v27,v28,v29,v30,v31,()),(v32,v33,v34,v35,v36,v37,v38,v39,v40,v41,v42,v43,v44,v45,v46,v47,v48,v49,()),((),()),(v50,()),(v51,v52,v53,v54,v55,v56,v57,v58,v59,v60,v61,v62,v63,v64,v65,v66,v67,v68,()),((),(),(),(),(),(),(),(),(),(),(),(),(),(),(),(),(),(),(),(),(),(),(),(),(),(),(),(),(),(),(),(),(),(),(),(),(),()),()),v87,v88,v89,v90,()))) (
  cond (!(decide (y91.1.1=2))) (
   some (R3.ret ((),((v1,v2,v3,v4,v5,v6,v7,v8,v9,v10,v11,v12,v13,(),(),(),v14,v15,()),(v16,v17,v18,v19,v20,v21,v22,v23,v24,v25,v26,v27,v28,v29,v30,v31,()),(v32,v33,v34,v35,v36,v37,v38,v39,v40,v41,v42,v43,v44,v45,v46,v47,v48,v49,()),((),()),(v50,()),(v51,v52,v53,v54,v55,v56,v57,v58,v59,v60,v61,v62,v63,v64,v65,v66,v67,v68,()),((),(),(),(),(),(),(),(),(),(),(),(),(),(),(),(),(),(),(),(),(),(),(),(),(),(),(),(),(),(),(),(),(),(),(),(),(),()),()),v87,v88,v89,v90,()))) (
   ((f93 v85 y91.1.2)).bind fun y92=>
   ((f94 v69 v70 v71 v72 v73 v74 v75 v76 v77 v78 v79 v80 v81 v82 v83 v84 y92.1)).bind fun y93=>
   cond (!y92.2.1) (
    some (R3.ret ((),((v1,v2,v3,v4,v5,v6,v7,v8,v9,v10,v11,v12,v13,(),(),(),v14,v15,()),(v16,v17,v18,v19,v20,v21,v22,v23,v24,v25,v26,v27,v28,v29,v30,v31,()),(v32,v33,v34,v35,v36,v37,v38,v39,v40,v41,v42,v43,v44,v45,v46,v47,v48,v49,()),((),()),(v50,()),(v51,v52,v53,v54,v55,v56,v57,v58,v59,v60,v61,v62,v63,v64,v65,v66,v67,v68,()),((),(),(),(),(),(),(),(),(),(),(),(),(),(),(),(),(),(),(),(),(),(),(),(),(),(),(),(),(),(),(),(),(),(),(),(),(),()),()),v87,v88,v89,v90,()))) (
    cond (!(decide (y93.2.1=0))) (
     some (R3.ret ((),((v1,v2,v3,v4,v5,v6,v7,v8,v9,v10,v11,v12,v13,(),(),(),v14,v15,()),(v16,v17,v18,v19,v20,v21,v22,v23,v24,v25,v26,v27,v28,v29,v30,v31,()),(v32,v33,v34,v35,v36,v37,v38,v39,v40,v41,v42,v43,v44,v45,v46,v47,v48,v49,()),((),()),(v50,()),(v51,v52,v53,v54,v55,v56,v57,v58,v59,v60,v61,v62,v63,v64,v65,v66,v67,v68,()),((),(),(),(),(),(),(),(),(),(),(),(),(),(),(),(),(),(),(),(),(),(),(),(),(),(),(),(),(),(),(),(),(),(),(),(),(),()),()),v87,v88,v89,v90,()))) (
     cond (decide (0<(y92.1.length:Int))) (
      cond ((decide (0≤(al .i64 ((y92.1.length:Int)-1))))&&(decide ((al .i64 ((y92.1.length:Int)-1))<(y92.1.length:Int)))) (
       cond ((decide (((v90.length+y92.1.length) * 72)≤140737488355328))&&(decide ((v90.length+y92.1.length)≤9223372036854775807))) (
        some (R3.next (((),(),(),()),((v1,v2,v3,v4,v5,v6,v7,v8,v9,v10,v11,v12,v13,(),(),(),v14,v15,()),(v16,v17,v18,v19,v20,v21,v22,v23,v24,v25,v26,v27,v28,v29,v30,v31,()),(y93.1.1.1.1,y93.1.1.1.2,y93.1.1.2.1.1,y93.1.1.2.1.2,y93.1.1.2.2.1,y93.1.1.2.2.2.1,y93.1.1.2.2.2.2.1,y93.1.1.2.2.2.2.2,y93.1.2.1.1,y93.1.2.1.2.1,y93.1.2.1.2.2.1,y93.1.2.1.2.2.2,y93.1.2.2.1,y93.1.2.2.2.1,y93.1.2.2.2.2.1,y93.1.2.2.2.2.2,(rd cG y92.1 (ae (al .i64 ((y92.1.length:Int)-1)))).2.1,y91.2.1,()),((),()),(v50,()),(v51,v52,v53,v54,v55,v56,v57,v58,v59,v60,v61,v62,v63,v64,v65,v66,v67,v68,()),((),(),(),(),(),(),(),(),(),(),(),(),(),(),(),(),(),(),(),(),(),(),(),(),(),(),(),(),(),(),(),(),(),(),(),(),(),()),(y93.1.1.1.1,y93.1.1.1.2,y93.1.1.2.1.1,y93.1.1.2.1.2,y93.1.1.2.2.1,y93.1.1.2.2.2.1,y93.1.1.2.2.2.2.1,y93.1.1.2.2.2.2.2,y93.1.2.1.1,y93.1.2.1.2.1,y93.1.2.1.2.2.1,y93.1.2.1.2.2.2,y93.1.2.2.1,y93.1.2.2.2.1,y93.1.2.2.2.2.1,y93.1.2.2.2.2.2,(rd cG y92.1 (ae (al .i64 ((y92.1.length:Int)-1)))).2.1,y91.2.1,()),()),v87,v88,v89,(v90++y92.1),()))) (
        none)) (
       none)) (
      cond ((decide (((v90.length+y92.1.length) * 72)≤140737488355328))&&(decide ((v90.length+y92.1.length)≤9223372036854775807))) (
       some (R3.next (((),(),(),()),((v1,v2,v3,v4,v5,v6,v7,v8,v9,v10,v11,v12,v13,(),(),(),v14,v15,()),(v16,v17,v18,v19,v20,v21,v22,v23,v24,v25,v26,v27,v28,v29,v30,v31,()),(y93.1.1.1.1,y93.1.1.1.2,y93.1.1.2.1.1,y93.1.1.2.1.2,y93.1.1.2.2.1,y93.1.1.2.2.2.1,y93.1.1.2.2.2.2.1,y93.1.1.2.2.2.2.2,y93.1.2.1.1,y93.1.2.1.2.1,y93.1.2.1.2.2.1,y93.1.2.1.2.2.2,y93.1.2.2.1,y93.1.2.2.2.1,y93.1.2.2.2.2.1,y93.1.2.2.2.2.2,v85,y91.2.1,()),((),()),(v50,()),(v51,v52,v53,v54,v55,v56,v57,v58,v59,v60,v61,v62,v63,v64,v65,v66,v67,v68,()),((),(),(),(),(),(),(),(),(),(),(),(),(),(),(),(),(),(),(),(),(),(),(),(),(),(),(),(),(),(),(),(),(),(),(),(),(),()),(y93.1.1.1.1,y93.1.1.1.2,y93.1.1.2.1.1,y93.1.1.2.1.2,y93.1.1.2.2.1,y93.1.1.2.2.2.1,y93.1.1.2.2.2.2.1,y93.1.1.2.2.2.2.2,y93.1.2.1.1,y93.1.2.1.2.1,y93.1.2.1.2.2.1,y93.1.2.1.2.2.2,y93.1.2.2.1,y93.1.2.2.2.1,y93.1.2.2.2.2.1,y93.1.2.2.2.2.2,v85,y91.2.1,()),()),v87,v88,v89,(v90++y92.1),()))) (
       none))))))
noncomputable def dz (z:eg):Option (R3 eg wj j7):=xA z.2.1.1.1 z.2.1.1.2.1 z.2.1.1.2.2.1 z.2.1.1.2.2.2.1 z.2.1.1.2.2.2.2.1 z.2.1.1.2.2.2.2.2.1 z.2.1.1.2.2.2.2.2.2.1 z.2.1.1.2.2.2.2.2.2.2.1 z.2.1.1.2.2.2.2.2.2.2.2.1 z.2.1.1.2.2.2.2.2.2.2.2.2.1 z.2.1.1.2.2.2.2.2.2.2.2.2.2.1 z.2.1.1.2.2.2.2.2.2.2.2.2.2.2.1 z.2.1.1.2.2.2.2.2.2.2.2.2.2.2.2.1 z.2.1.1.2.2.2.2.2.2.2.2.2.2.2.2.2.2.2.2.1 z.2.1.1.2.2.2.2.2.2.2.2.2.2.2.2.2.2.2.2.2.1 z.2.1.2.1.1 z.2.1.2.1.2.1 z.2.1.2.1.2.2.1 z.2.1.2.1.2.2.2.1 z.2.1.2.1.2.2.2.2.1 z.2.1.2.1.2.2.2.2.2.1 z.2.1.2.1.2.2.2.2.2.2.1 z.2.1.2.1.2.2.2.2.2.2.2.1 z.2.1.2.1.2.2.2.2.2.2.2.2.1 z.2.1.2.1.2.2.2.2.2.2.2.2.2.1 z.2.1.2.1.2.2.2.2.2.2.2.2.2.2.1 z.2.1.2.1.2.2.2.2.2.2.2.2.2.2.2.1 z.2.1.2.1.2.2.2.2.2.2.2.2.2.2.2.2.1 z.2.1.2.1.2.2.2.2.2.2.2.2.2.2.2.2.2.1 z.2.1.2.1.2.2.2.2.2.2.2.2.2.2.2.2.2.2.1 z.2.1.2.1.2.2.2.2.2.2.2.2.2.2.2.2.2.2.2.1 z.2.1.2.2.1.1 z.2.1.2.2.1.2.1 z.2.1.2.2.1.2.2.1 z.2.1.2.2.1.2.2.2.1 z.2.1.2.2.1.2.2.2.2.1 z.2.1.2.2.1.2.2.2.2.2.1 z.2.1.2.2.1.2.2.2.2.2.2.1 z.2.1.2.2.1.2.2.2.2.2.2.2.1 z.2.1.2.2.1.2.2.2.2.2.2.2.2.1 z.2.1.2.2.1.2.2.2.2.2.2.2.2.2.1 z.2.1.2.2.1.2.2.2.2.2.2.2.2.2.2.1 z.2.1.2.2.1.2.2.2.2.2.2.2.2.2.2.2.1 z.2.1.2.2.1.2.2.2.2.2.2.2.2.2.2.2.2.1 z.2.1.2.2.1.2.2.2.2.2.2.2.2.2.2.2.2.2.1 z.2.1.2.2.1.2.2.2.2.2.2.2.2.2.2.2.2.2.2.1 z.2.1.2.2.1.2.2.2.2.2.2.2.2.2.2.2.2.2.2.2.1 z.2.1.2.2.1.2.2.2.2.2.2.2.2.2.2.2.2.2.2.2.2.1 z.2.1.2.2.1.2.2.2.2.2.2.2.2.2.2.2.2.2.2.2.2.2.1 z.2.1.2.2.2.2.1.1 z.2.1.2.2.2.2.2.1.1 z.2.1.2.2.2.2.2.1.2.1 z.2.1.2.2.2.2.2.1.2.2.1 z.2.1.2.2.2.2.2.1.2.2.2.1 z.2.1.2.2.2.2.2.1.2.2.2.2.1 z.2.1.2.2.2.2.2.1.2.2.2.2.2.1 z.2.1.2.2.2.2.2.1.2.2.2.2.2.2.1 z.2.1.2.2.2.2.2.1.2.2.2.2.2.2.2.1 z.2.1.2.2.2.2.2.1.2.2.2.2.2.2.2.2.1 z.2.1.2.2.2.2.2.1.2.2.2.2.2.2.2.2.2.1 z.2.1.2.2.2.2.2.1.2.2.2.2.2.2.2.2.2.2.1 z.2.1.2.2.2.2.2.1.2.2.2.2.2.2.2.2.2.2.2.1 z.2.1.2.2.2.2.2.1.2.2.2.2.2.2.2.2.2.2.2.2.1 z.2.1.2.2.2.2.2.1.2.2.2.2.2.2.2.2.2.2.2.2.2.1 z.2.1.2.2.2.2.2.1.2.2.2.2.2.2.2.2.2.2.2.2.2.2.1 z.2.1.2.2.2.2.2.1.2.2.2.2.2.2.2.2.2.2.2.2.2.2.2.1 z.2.1.2.2.2.2.2.1.2.2.2.2.2.2.2.2.2.2.2.2.2.2.2.2.1 z.2.1.2.2.2.2.2.1.2.2.2.2.2.2.2.2.2.2.2.2.2.2.2.2.2.1 z.2.1.2.2.2.2.2.2.2.1.1 z.2.1.2.2.2.2.2.2.2.1.2.1 z.2.1.2.2.2.2.2.2.2.1.2.2.1 z.2.1.2.2.2.2.2.2.2.1.2.2.2.1 z.2.1.2.2.2.2.2.2.2.1.2.2.2.2.1 z.2.1.2.2.2.2.2.2.2.1.2.2.2.2.2.1 z.2.1.2.2.2.2.2.2.2.1.2.2.2.2.2.2.1 z.2.1.2.2.2.2.2.2.2.1.2.2.2.2.2.2.2.1 z.2.1.2.2.2.2.2.2.2.1.2.2.2.2.2.2.2.2.1 z.2.1.2.2.2.2.2.2.2.1.2.2.2.2.2.2.2.2.2.1 z.2.1.2.2.2.2.2.2.2.1.2.2.2.2.2.2.2.2.2.2.1 z.2.1.2.2.2.2.2.2.2.1.2.2.2.2.2.2.2.2.2.2.2.1 z.2.1.2.2.2.2.2.2.2.1.2.2.2.2.2.2.2.2.2.2.2.2.1 z.2.1.2.2.2.2.2.2.2.1.2.2.2.2.2.2.2.2.2.2.2.2.2.1 z.2.1.2.2.2.2.2.2.2.1.2.2.2.2.2.2.2.2.2.2.2.2.2.2.1 z.2.1.2.2.2.2.2.2.2.1.2.2.2.2.2.2.2.2.2.2.2.2.2.2.2.1 z.2.1.2.2.2.2.2.2.2.1.2.2.2.2.2.2.2.2.2.2.2.2.2.2.2.2.1 z.2.1.2.2.2.2.2.2.2.1.2.2.2.2.2.2.2.2.2.2.2.2.2.2.2.2.2.1 z.2.2.1 z.2.2.2.1 z.2.2.2.2.1 z.2.2.2.2.2.1
noncomputable def f36 (v1:aR):Option ((yb×Int×Int)×BN×Bool×Unit):=
 ((f39 v1)).bind fun y2=>
 cond (!y2.2.2.1) (
  some (((((0,0),(0,0),0,0,0,0),(0,0,0,false),0,[],[],[]),0,0),[],false,())) (
  ((iter az dz (((),(),(),()),((0,0,0,0,0,0,0,0,0,0,0,false,0,(),(),(),0,0,()),(y2.1.1.1.1,y2.1.1.1.2,y2.1.1.2.1.1,y2.1.1.2.1.2,y2.1.1.2.2.1,y2.1.1.2.2.2.1,y2.1.1.2.2.2.2.1,y2.1.1.2.2.2.2.2,y2.1.2.1.1,y2.1.2.1.2.1,y2.1.2.1.2.2.1,y2.1.2.1.2.2.2,y2.1.2.2.1,y2.1.2.2.2.1,y2.1.2.2.2.2.1,y2.1.2.2.2.2.2,()),(y2.1.1.1.1,y2.1.1.1.2,y2.1.1.2.1.1,y2.1.1.2.1.2,y2.1.1.2.2.1,y2.1.1.2.2.2.1,y2.1.1.2.2.2.2.1,y2.1.1.2.2.2.2.2,y2.1.2.1.1,y2.1.2.1.2.1,y2.1.2.1.2.2.1,y2.1.2.1.2.2.2,y2.1.2.2.1,y2.1.2.2.2.1,y2.1.2.2.2.2.1,y2.1.2.2.2.2.2,y2.1.2.2.1,y2.2.1,()),((),()),(v1,()),(y2.1.1.1.1,y2.1.1.1.2,y2.1.1.2.1.1,y2.1.1.2.1.2,y2.1.1.2.2.1,y2.1.1.2.2.2.1,y2.1.1.2.2.2.2.1,y2.1.1.2.2.2.2.2,y2.1.2.1.1,y2.1.2.1.2.1,y2.1.2.1.2.2.1,y2.1.2.1.2.2.2,y2.1.2.2.1,y2.1.2.2.2.1,y2.1.2.2.2.2.1,y2.1.2.2.2.2.2,y2.1.2.2.1,y2.2.1,()),((),(),(),(),(),(),(),(),(),(),(),(),(),(),(),(),(),(),(),(),(),(),(),(),(),(),(),(),(),(),(),(),(),(),(),(),(),()),(y2.1.1.1.1,y2.1.1.1.2,y2.1.1.2.1.1,y2.1.1.2.1.2,y2.1.1.2.2.1,y2.1.1.2.2.2.1,y2.1.1.2.2.2.2.1,y2.1.1.2.2.2.2.2,y2.1.2.1.1,y2.1.2.1.2.1,y2.1.2.1.2.2.1,y2.1.2.1.2.2.2,y2.1.2.2.1,y2.1.2.2.2.1,y2.1.2.2.2.2.1,y2.1.2.2.2.2.2,y2.1.2.2.1,y2.2.1,()),()),[],[],[],[],()))).bind fun r=>match r with
  | .inl y3=>
    none
  | .inr z4=>
    some (((((z4.2.1.2.2.1.1,z4.2.1.2.2.1.2.1),(z4.2.1.2.2.1.2.2.1,z4.2.1.2.2.1.2.2.2.1),z4.2.1.2.2.1.2.2.2.2.1,z4.2.1.2.2.1.2.2.2.2.2.1,z4.2.1.2.2.1.2.2.2.2.2.2.1,z4.2.1.2.2.1.2.2.2.2.2.2.2.1),(z4.2.1.2.2.1.2.2.2.2.2.2.2.2.1,z4.2.1.2.2.1.2.2.2.2.2.2.2.2.2.1,z4.2.1.2.2.1.2.2.2.2.2.2.2.2.2.2.1,z4.2.1.2.2.1.2.2.2.2.2.2.2.2.2.2.2.1),z4.2.1.2.2.1.2.2.2.2.2.2.2.2.2.2.2.2.1,z4.2.1.2.2.1.2.2.2.2.2.2.2.2.2.2.2.2.2.1,z4.2.1.2.2.1.2.2.2.2.2.2.2.2.2.2.2.2.2.2.1,z4.2.1.2.2.1.2.2.2.2.2.2.2.2.2.2.2.2.2.2.2.1),z4.2.1.2.2.1.2.2.2.2.2.2.2.2.2.2.2.2.2.2.2.2.1,z4.2.1.2.2.1.2.2.2.2.2.2.2.2.2.2.2.2.2.2.2.2.2.1),z4.2.2.2.2.2.1,true,()))
noncomputable def f41 (v1:aR):Option (BN×Unit):=
 ((f36 v1)).bind fun y2=>
 some (y2.2.1,())
noncomputable def f43 (v1 v2 v3 v4 v5 v6 v7 v8 v9 v10 v11:Int)(v12:Bool):Option (yb×Bool×Unit):=
 ((f78 v1 v2 v3 v4 v5 v6 v7 v8 v9 v10 v11 v12 0 [] [] [])).bind fun y13=>
 cond (!y13.1) (
  some ((((0,0),(0,0),0,0,0,0),(0,0,0,false),0,[],[],[]),false,())) (
  some ((((v1,v2),(v3,v4),v5,v6,v7,v8),(v9,v10,v11,v12),0,[],[],[]),true,()))
noncomputable def f44  : Option ((uu×uu×Int×Int×Int×Int)×Unit):=
 some (((167772160,31),(184549376,32),1000,1099,20,10),())
noncomputable def f45 (v1:Int):Option ((Int×cZ)×Bool×Unit):=
 ((f34 v1 [])).bind fun y2=>
 cond (!y2.1) (
  some ((0,[]),false,())) (
  some ((v1,[]),true,()))
abbrev FQ:Type:=bl×(Unit)×aR×Unit
abbrev OC:Type:=bl×(Unit)×aR×Unit
abbrev OV:Type:=Unit×Unit×Unit
noncomputable def Xn (v1:Int)(v2:aR):Option (R3 FQ OC OV):=
 cond (decide (128≤v1)) (
  cond ((decide (((v2.length+1) * 1)≤140737488355328))&&(decide ((v2.length+1)≤9223372036854775807))) (
   some (R3.next (((be v1 128),()),(),(v2++[(aG .or .u8 (al .u8 v1) 128)]),()))) (
   none)) (
  some (R3.out ((v1,()),(),v2,())))
noncomputable def PZ (z:FQ):Option (R3 FQ OC OV):=Xn z.1.1 z.2.2.1
noncomputable def f121 (v1:aR)(v2:Int):Option ug:=
 ((iter az PZ ((v2,()),(),v1,()))).bind fun r=>match r with
 | .inl y3=>
   cond ((decide (((y3.2.2.1.length+1) * 1)≤140737488355328))&&(decide ((y3.2.2.1.length+1)≤9223372036854775807))) (
    some ((y3.2.2.1++[(al .u8 y3.1.1)]),())) (
    none)
 | .inr z4=>
   none
noncomputable def aaM (v1:aR)(v2:Int):Option (List (Ty.T yU)):=(f121 v1 v2).map (·.1)
abbrev j5:Type:=bl×(Unit)×aR×Unit
abbrev qV:Type:=bl×(Unit)×aR×Unit
abbrev qg:Type:=Unit×Unit×Unit
noncomputable def BC (v1:Int)(v2:aR):Option (R3 j5 qV qg):=
 cond (decide (128≤v1)) (
  cond ((decide (((v2.length+1) * 1)≤140737488355328))&&(decide ((v2.length+1)≤9223372036854775807))) (
   some (R3.next (((be v1 128),()),(),(v2++[(aG .or .u8 (al .u8 v1) 128)]),()))) (
   none)) (
  some (R3.out ((v1,()),(),v2,())))
noncomputable def qf (z:j5):Option (R3 j5 qV qg):=BC z.1.1 z.2.2.1
noncomputable def f117 (v1:Int):Option ug:=
 ((f120 v1)).bind fun y2=>
 cond (!y2.1) (
  some ([],())) (
  ((iter az qf ((v1,()),(),[],()))).bind fun r=>match r with
  | .inl y3=>
    cond ((decide (((y3.2.2.1.length+1) * 1)≤140737488355328))&&(decide ((y3.2.2.1.length+1)≤9223372036854775807))) (
     some ((y3.2.2.1++[(al .u8 y3.1.1)]),())) (
     none)
  | .inr z4=>
    none)
abbrev G7:Type:=((List aR)×Int×(List aR)×Int×Int×Unit)×(Unit)×(Unit)
abbrev Po:Type:=((List aR)×Int×Unit)×(Unit)×(Unit)
abbrev PY:Type:=Unit×Unit×Unit
noncomputable def W6 (v1:(List aR))(v2:Int)(v3:(List aR))(v4 v5:Int):Option (R3 G7 Po PY):=
 cond (decide (v5<v4)) (
  cond ((decide (0≤v5))&&(decide (v5<(v3.length:Int)))) (
   cond (decide ((al .i64 (v2+(((rd (.row yU) v3 (ae v5)).length:Nat):Int)))<0)) (
    none) (
    some (R3.next ((v1,(al .i64 (v2+(((rd (.row yU) v3 (ae v5)).length:Nat):Int))),v3,v4,(al .i64 (v5+1)),()),(),())))) (
   none)) (
  some (R3.out ((v1,v2,()),(),())))
noncomputable def Na (z:G7):Option (R3 G7 Po PY):=W6 z.1.1 z.1.2.1 z.1.2.2.1 z.1.2.2.2.1 z.1.2.2.2.2.1
abbrev Az:Type:=((List aR)×Int×Int×Unit)×(Unit)×aR×Unit
abbrev Jy:Type:=(Unit)×(Unit)×aR×Unit
abbrev Kf:Type:=Unit×Unit×Unit
noncomputable def Tx (v1:(List aR))(v2 v3:Int)(v4:aR):Option (R3 Az Jy Kf):=
 cond (decide (v3<v2)) (
  cond ((decide (0≤v3))&&(decide (v3<(v1.length:Int)))) (
   cond ((decide (((v4.length+(rd (.row yU) v1 (ae v3)).length) * 1)≤140737488355328))&&(decide ((v4.length+(rd (.row yU) v1 (ae v3)).length)≤9223372036854775807))) (
    some (R3.next ((v1,v2,(al .i64 (v3+1)),()),(),(v4++(rd (.row yU) v1 (ae v3))),()))) (
    none)) (
   none)) (
  some (R3.out ((),(),v4,())))
noncomputable def JH (z:Az):Option (R3 Az Jy Kf):=Tx z.1.1 z.1.2.1 z.1.2.2.1 z.2.2.1
noncomputable def f123 (v1:(List aR)):Option ug:=
 ((iter az Na ((v1,0,v1,(v1.length:Int),0,()),(),()))).bind fun r=>match r with
 | .inl y2=>
   ((Pr y2.1.2.1)).bind fun y4=>
   ((iter az JH ((y2.1.1,(y2.1.1.length:Int),0,()),(),y4.1,()))).bind fun r=>match r with
   | .inl y5=>
     some (y5.2.2.1,())
   | .inr z6=>
     none
 | .inr z3=>
   none
noncomputable def f122 (v1:aR):Option ug:=
 ((f136 v1)).bind fun y2=>
 ((f135 y2.1)).bind fun y3=>
 ((f123 [v1,y3.1])).bind fun y4=>
 some (y4.1,())
noncomputable def f87 (v1:Int)(v2:aR):Option x5:=
 cond (decide (v1<0)) (
  some ([],false,())) (
  cond (decide (255<v1)) (
   some ([],false,())) (
   cond (decide (1000<(v2.length:Int))) (
    some ([],false,())) (
    ((f117 (v2.length:Int))).bind fun y3=>
    ((f123 [[(al .u8 v1)],y3.1,v2])).bind fun y4=>
    ((f122 y4.1)).bind fun y5=>
    some (y5.1,true,()))))
abbrev Re:Type:=Lr×(xW×xW×Unit)×cZ×cZ×Unit
abbrev Ux:Type:=l9×(xW×xW×Unit)×cZ×cZ×Unit
abbrev Vv:Type:=Unit×Unit×Unit
noncomputable def MD (v1 v2 v3 v4:Int)(v5 v6:cZ):Option (R3 Re Ux Vv):=
 cond (decide (v2<v1)) (
  cond ((decide (0≤v2))&&(decide (v2<(v5.length:Int)))) (
   cond (decide ((ae v2)<v5.length)) (
    ((ed (rd bL v5 (ae v2)).2.1)).bind fun y7=>
    cond ((decide (0≤v2))&&(decide (v2<(v5.length:Int)))) (
     cond (decide ((ae v2)<v5.length)) (
      some (R3.next (((),(),v1,(al .i64 (v2+1)),()),((v3,(),()),(v4,(),()),()),(v5.set (ae v2) ((rd bL v5 (ae v2)).1,y7.1,(rd bL v5 (ae v2)).2.2)),v6,()))) (
      none)) (
     none)) (
    none)) (
   none)) (
  some (R3.out (((),(),()),((v3,(),()),(v4,(),()),()),v5,v6,())))
noncomputable def zx (z:Re):Option (R3 Re Ux Vv):=MD z.1.2.2.1 z.1.2.2.2.1 z.2.1.1.1 z.2.1.2.1.1 z.2.2.1 z.2.2.2.1
noncomputable def f95 (v1:Int)(v2:cZ):Option ((Int×cZ)×Unit):=
 ((gW v2)).bind fun y3=>
 ((iter az zx (((),(),(y3.1.length:Int),0,()),((v1,(),()),(0,(),()),()),y3.1,[],()))).bind fun r=>match r with
 | .inl y4=>
   some ((y4.2.1.1.1,y4.2.2.1),())
 | .inr z5=>
   none
abbrev zQ:Type:=Lr×(xW×((List (Int×List Int×Int))×Nat)×xW×Unit)×cZ×Unit
abbrev KB:Type:=l9×(xW×((List (Int×List Int×Int))×Nat)×xW×Unit)×cZ×Unit
abbrev Jf:Type:=Unit×Unit×Unit
noncomputable def RL (v1 v2 v3:Int)(v4:cZ)(v5:Nat)(v6:Int)(v7:cZ):Option (R3 zQ KB Jf):=
 cond (decide (v2<v1)) (
  cond ((decide (0≤v2))&&(decide (v2<(v4.length:Int)))) (
   cond ((decide ((ae v2)<v4.length))&&(decide (v5≤(ae v2)))) (
    ((U5 (rd bL v4 (ae v2)).2.1)).bind fun y8=>
    cond (decide (v5<v4.length)) (
     cond ((decide (0≤v2))&&(decide (v2<(((v4.set v5 ((rd bL v4 v5).1,(rd bL v4 (ae v2)).2.1,(rd bL v4 v5).2.2)).length:Nat):Int)))) (
      cond ((((decide ((ae v2)<(v4.set v5 ((rd bL v4 v5).1,(rd bL v4 (ae v2)).2.1,(rd bL v4 v5).2.2)).length))&&(decide (v5=(ae v2))))&&(decide (v5=(ae v2))))&&(decide ((rd bL v4 (ae v2)).2.1.length≤(rd bL (v4.set v5 ((rd bL v4 v5).1,(rd bL v4 (ae v2)).2.1,(rd bL v4 v5).2.2)) (ae v2)).2.1.length))) (
       some (R3.next (((),(),v1,(al .i64 (v2+1)),()),((v3,(),()),(((v4.set v5 ((rd bL v4 v5).1,(rd bL v4 (ae v2)).2.1,(rd bL v4 v5).2.2)).set (ae v2) ((rd bL (v4.set v5 ((rd bL v4 v5).1,(rd bL v4 (ae v2)).2.1,(rd bL v4 v5).2.2)) (ae v2)).1,(ap (rd bL v4 (ae v2)).2.1.length (rd bL (v4.set v5 ((rd bL v4 v5).1,(rd bL v4 (ae v2)).2.1,(rd bL v4 v5).2.2)) (ae v2)).2.1),(rd bL (v4.set v5 ((rd bL v4 v5).1,(rd bL v4 (ae v2)).2.1,(rd bL v4 v5).2.2)) (ae v2)).2.2)),(v5+1)),(v6,(),()),()),v7,()))) (
       none)) (
      none)) (
     none)) (
    none)) (
   none)) (
  some (R3.out (((),(),()),((v3,(),()),(v4,v5),(v6,(),()),()),v7,())))
noncomputable def J1 (z:zQ):Option (R3 zQ KB Jf):=RL z.1.2.2.1 z.1.2.2.2.1 z.2.1.1.1 z.2.1.2.1.1 z.2.1.2.1.2 z.2.1.2.2.1.1 z.2.2.1
noncomputable def Dl (v1:Int)(v2:cZ):Option ((Int×cZ)×Unit):=
 ((gW v2)).bind fun y3=>
 ((iter az J1 (((),(),(y3.1.length:Int),0,()),((v1,(),()),(y3.1,0),(0,(),()),()),[],()))).bind fun r=>match r with
 | .inl y4=>
   cond ((decide (y4.2.1.2.1.1.length≤y4.2.1.2.1.2))&&true) (
    some ((y4.2.1.1.1,y4.2.1.2.1.1),())) (
    none)
 | .inr z5=>
   none
abbrev kG:Type:=(Unit×Int×Int×Unit)×(vn×bl×Unit)×(Unit)
abbrev qn:Type:=bl×(vn×bl×Unit)×(Unit)
abbrev qq:Type:=Unit×l9×Unit
noncomputable def jQ (v1 v2 v3:Int)(v4:cZ)(v5:Int):Option (R3 kG qn qq):=
 cond (decide (v1<v2)) (
  cond ((decide (0≤(al .i64 (be (al .u64 (al .i64 (v1+v2))) 2))))&&(decide ((al .i64 (be (al .u64 (al .i64 (v1+v2))) 2))<(v4.length:Int)))) (
   cond (!(decide (v5≤(rd bL v4 (ae (al .i64 (be (al .u64 (al .i64 (v1+v2))) 2)))).1))) (
    some (R3.next (((),(al .i64 ((al .i64 (be (al .u64 (al .i64 (v1+v2))) 2))+1)),v2,()),((v3,v4,()),(v5,()),()),()))) (
    some (R3.next (((),v1,(al .i64 (be (al .u64 (al .i64 (v1+v2))) 2)),()),((v3,v4,()),(v5,()),()),())))) (
   none)) (
  some (R3.out ((v1,()),((v3,v4,()),(v5,()),()),())))
noncomputable def fc (z:kG):Option (R3 kG qn qq):=jQ z.1.2.1 z.1.2.2.1 z.2.1.1.1 z.2.1.1.2.1 z.2.1.2.1.1
noncomputable def f119 (v1:Int)(v2:cZ)(v3:Int):Option bl:=
 ((iter az fc (((),0,(v2.length:Int),()),((v1,v2,()),(v3,()),()),()))).bind fun r=>match r with
 | .inl y4=>
   some (y4.1.1,())
 | .inr z5=>
   none
noncomputable def f96 (v1:Int)(v2:cZ)(v3:Int):Option bl:=
 ((f34 v1 v2)).bind fun y4=>
 cond (!y4.1) (
  some ((-1),())) (
  ((f119 v1 v2 v3)).bind fun y5=>
  cond (decide (y5.1<(v2.length:Int))) (
   cond ((decide (0≤y5.1))&&(decide (y5.1<(v2.length:Int)))) (
    cond (decide ((rd bL v2 (ae y5.1)).1=v3)) (
     some (y5.1,())) (
     some ((-1),()))) (
    none)) (
   some ((-1),())))
noncomputable def f124 (v1:Int)(v2:cZ)(v3:Int)(v4:aR):Option Lu:=
 ((f34 v1 v2)).bind fun y5=>
 cond (!y5.1) (
  ((Dl v1 v2)).bind fun y6=>
  some ((y6.1.1,y6.1.2),1,())) (
  ((f96 v1 v2 v3)).bind fun y7=>
  cond (decide (y7.1=(-1))) (
   ((Dl v1 v2)).bind fun y8=>
   some ((y8.1.1,y8.1.2),5,())) (
   ((Dl v1 v2)).bind fun y9=>
   ((f63 y9.1.2)).bind fun y10=>
   cond (decide ((al .i64 (y9.1.1-y10.1))<(v4.length:Int))) (
    ((Dl v1 v2)).bind fun y11=>
    some ((y11.1.1,y11.1.2),9,())) (
    cond ((decide (0≤y7.1))&&(decide (y7.1<(y9.1.2.length:Int)))) (
     cond (decide ((ae y7.1)<y9.1.2.length)) (
      cond (((decide ((ae y7.1)<y9.1.2.length))&&(decide ((rd bL y9.1.2 (ae y7.1)).2.1.length=(rd bL y9.1.2 (ae y7.1)).2.1.length)))&&(decide (((rd bL y9.1.2 (ae y7.1)).2.1.length+v4.length)≤140737488355328))) (
       cond ((decide (0≤y7.1))&&(decide (y7.1<(((y9.1.2.set (ae y7.1) ((rd bL y9.1.2 (ae y7.1)).1,((rd bL y9.1.2 (ae y7.1)).2.1++v4),(rd bL y9.1.2 (ae y7.1)).2.2)).length:Nat):Int)))) (
        cond ((((decide ((ae y7.1)<(y9.1.2.set (ae y7.1) ((rd bL y9.1.2 (ae y7.1)).1,((rd bL y9.1.2 (ae y7.1)).2.1++v4),(rd bL y9.1.2 (ae y7.1)).2.2)).length))&&(decide ((ae y7.1)=(ae y7.1))))&&(decide ((ae y7.1)=(ae y7.1))))&&(decide (((rd bL y9.1.2 (ae y7.1)).2.1.length+v4.length)≤(rd bL (y9.1.2.set (ae y7.1) ((rd bL y9.1.2 (ae y7.1)).1,((rd bL y9.1.2 (ae y7.1)).2.1++v4),(rd bL y9.1.2 (ae y7.1)).2.2)) (ae y7.1)).2.1.length))) (
         some ((y9.1.1,((y9.1.2.set (ae y7.1) ((rd bL y9.1.2 (ae y7.1)).1,((rd bL y9.1.2 (ae y7.1)).2.1++v4),(rd bL y9.1.2 (ae y7.1)).2.2)).set (ae y7.1) ((rd bL (y9.1.2.set (ae y7.1) ((rd bL y9.1.2 (ae y7.1)).1,((rd bL y9.1.2 (ae y7.1)).2.1++v4),(rd bL y9.1.2 (ae y7.1)).2.2)) (ae y7.1)).1,(ap ((rd bL y9.1.2 (ae y7.1)).2.1.length+v4.length) (rd bL (y9.1.2.set (ae y7.1) ((rd bL y9.1.2 (ae y7.1)).1,((rd bL y9.1.2 (ae y7.1)).2.1++v4),(rd bL y9.1.2 (ae y7.1)).2.2)) (ae y7.1)).2.1),(rd bL (y9.1.2.set (ae y7.1) ((rd bL y9.1.2 (ae y7.1)).1,((rd bL y9.1.2 (ae y7.1)).2.1++v4),(rd bL y9.1.2 (ae y7.1)).2.2)) (ae y7.1)).2.2))),0,())) (
         none)) (
        none)) (
       none)) (
      none)) (
     none))))
noncomputable def f88 (v1:aR)(v2:Int)(v3:cZ)(v4:Int):Option Lu:=
 ((f124 v2 v3 v4 v1)).bind fun y5=>
 some ((y5.1.1,y5.1.2),y5.2.1,())
noncomputable def f89 (v1:Int)(v2:cZ)(v3:Int):Option Lu:=
 ((f34 v1 v2)).bind fun y4=>
 cond (!y4.1) (
  ((f95 v1 v2)).bind fun y5=>
  some ((y5.1.1,y5.1.2),1,())) (
  ((f96 v1 v2 v3)).bind fun y6=>
  cond (decide (y6.1=(-1))) (
   ((f95 v1 v2)).bind fun y7=>
   some ((y7.1.1,y7.1.2),5,())) (
   ((f95 v1 v2)).bind fun y8=>
   cond ((decide (0≤y6.1))&&(decide (y6.1<(y8.1.2.length:Int)))) (
    cond (decide ((ae y6.1)<y8.1.2.length)) (
     cond ((decide (0≤y6.1))&&(decide (y6.1<(y8.1.2.length:Int)))) (
      cond (decide ((ae y6.1)<y8.1.2.length)) (
       some ((y8.1.1,(y8.1.2.set (ae y6.1) ((rd bL y8.1.2 (ae y6.1)).1,(rd bL y8.1.2 (ae y6.1)).2.1,(((rd bL y8.1.2 (ae y6.1)).2.1.length:Nat):Int)))),0,())) (
       none)) (
      none)) (
     none)) (
    none)))
abbrev ME:Type:=(aR×Int×Int×Unit)×(Unit)×aR×Unit
abbrev VH:Type:=(Unit)×(Unit)×aR×Unit
abbrev U1:Type:=ct×(Unit)×aR×Unit
noncomputable def Z9 (v1:aR)(v2 v3:Int)(v4:aR):Option (R3 ME VH U1):=
 cond (decide (v3<v2)) (
  cond ((decide (0≤v3))&&(decide (v3<(v1.length:Int)))) (
   ((f120 (rd aW v1 (ae v3)))).bind fun y5=>
   cond (!y5.1) (
    some (R3.ret ((false,()),(),[],()))) (
    ((aaM v4 (rd aW v1 (ae v3)))).bind fun y6=>
    some (R3.next ((v1,v2,(al .i64 (v3+1)),()),(),y6,())))) (
   none)) (
  some (R3.out ((),(),v4,())))
noncomputable def Vr (z:ME):Option (R3 ME VH U1):=Z9 z.1.1 z.1.2.1 z.1.2.2.1 z.2.2.1
noncomputable def f86 (v1:aR):Option x5:=
 cond (decide (400<(v1.length:Int))) (
  some ([],false,())) (
  ((iter az Vr ((v1,(v1.length:Int),0,()),(),[],()))).bind fun r=>match r with
  | .inl y2=>
    some (y2.2.2.1,true,())
  | .inr z3=>
    some (z3.2.2.1,z3.1.1,()))
noncomputable def f113 (v1 v2:Int):Option bl:=
 some ((al .i64 ((al .i64 (v1 * 8))+v2)),())
abbrev Hj:Type:=(aQ×Int×Int×Unit)×(Unit)×aR×Unit
abbrev On:Type:=(Unit)×(Unit)×aR×Unit
abbrev Nc:Type:=Unit×Unit×Unit
noncomputable def Zo (v1:aQ)(v2 v3:Int)(v4:aR):Option (R3 Hj On Nc):=
 cond (decide (v3<v2)) (
  cond ((decide (0≤v3))&&(decide (v3<(v1.length:Int)))) (
   cond ((decide (((v4.length+3) * 8)≤140737488355328))&&(decide ((v4.length+3)≤9223372036854775807))) (
    some (R3.next ((v1,v2,(al .i64 (v3+1)),()),(),(v4++[(rd cR v1 (ae v3)).1,(rd cR v1 (ae v3)).2.1,(rd cR v1 (ae v3)).2.2]),()))) (
    none)) (
   none)) (
  some (R3.out ((),(),v4,())))
noncomputable def IZ (z:Hj):Option (R3 Hj On Nc):=Zo z.1.1 z.1.2.1 z.1.2.2.1 z.2.2.1
noncomputable def f114 (v1 v2 v3 v4 v5 v6 v7 v8 v9 v10 v11:Int)(v12:Bool)(v13:Int)(v14:aQ)(v15:br)(v16:aQ):Option ug:=
 cond v12 (
  cond (decide (11<15)) (
   cond (decide (11<15)) (
    ((iter az IZ ((v14,(v14.length:Int),0,()),(),[v1,v2,v3,v4,v5,v6,v7,v8,v9,v10,v11,1,v13,(v15.length:Int),(v16.length:Int)],()))).bind fun r=>match r with
    | .inl y17=>
      some (y17.2.2.1,())
    | .inr z18=>
      none) (
    none)) (
   none)) (
  ((iter az IZ ((v14,(v14.length:Int),0,()),(),[v1,v2,v3,v4,v5,v6,v7,v8,v9,v10,v11,0,v13,(v15.length:Int),(v16.length:Int)],()))).bind fun r=>match r with
  | .inl y19=>
    some (y19.2.2.1,())
  | .inr z20=>
    none)
abbrev kE:Type:=Pc×mE×(Unit)
abbrev qw:Type:=(Unit)×mE×(Unit)
abbrev qN:Type:=bl×mE×(Unit)
noncomputable def CE (v1:aR)(v2 v3 v4:Int):Option (R3 kE qw qN):=
 cond (decide (v3<v2)) (
  cond ((decide (0≤v3))&&(decide (v3<(v1.length:Int)))) (
   cond (decide ((rd aW v1 (ae v3))<0)) (
    some (R3.ret ((v3,()),((v4,()),()),()))) (
    cond (!(decide (v4<0))) (
     cond (!(decide ((be (rd aW v1 (ae v3)) ((2:Int) ^ ((min (ae v4) 64):Nat)))=0))) (
      some (R3.ret ((v3,()),((v4,()),()),()))) (
      some (R3.next ((v1,(),v2,(al .i64 (v3+1)),()),((v4,()),()),())))) (
     none))) (
   none)) (
  some (R3.out ((),((v4,()),()),())))
noncomputable def rB (z:kE):Option (R3 kE qw qN):=CE z.1.1 z.1.2.2.1 z.1.2.2.2.1 z.2.1.1.1
abbrev Il:Type:=Zs×mE×aR×Unit
abbrev B6:Type:=Zs×mE×aR×Unit
abbrev J6:Type:=Zs×mE×aR×Unit
abbrev KD:Type:=Unit×Unit×Unit
noncomputable def Tk (v1 v2:Int)(v3:aR)(v4 v5 v6:Int)(v7:aR):Option (R3 B6 J6 KD):=
 cond (decide (8≤v2)) (
  cond ((decide (((v7.length+1) * 1)≤140737488355328))&&(decide ((v7.length+1)≤9223372036854775807))) (
   some (R3.next (((),(be v1 256),(al .i64 (v2-8)),v3,v4,v5,()),((v6,()),()),(v7++[(al .u8 v1)]),()))) (
   none)) (
  some (R3.out (((),v1,v2,v3,v4,v5,()),((v6,()),()),v7,())))
noncomputable def JP (z:B6):Option (R3 B6 J6 KD):=Tk z.1.2.1 z.1.2.2.1 z.1.2.2.2.1 z.1.2.2.2.2.1 z.1.2.2.2.2.2.1 z.2.1.1.1 z.2.2.1
abbrev ON:Type:=IX×(Unit)×aR×Unit
abbrev P6:Type:=Unit×Unit×Unit
noncomputable def Xg (v1 v2:Int)(v3:aR)(v4 v5 v6:Int)(v7:aR):Option (R3 Il ON P6):=
 cond (decide (v5<v4)) (
  cond ((decide (0≤v5))&&(decide (v5<(v3.length:Int)))) (
   cond (!(decide (v2<0))) (
    ((iter az JP (((),(aG .or .u64 v1 (al .u64 ((al .u64 (rd aW v3 (ae v5))) * ((2:Int) ^ ((min (ae v2) 64):Nat))))),(al .i64 (v2+v6)),v3,v4,v5,()),((v6,()),()),v7,()))).bind fun r=>match r with
    | .inl y8=>
      some (R3.next (((),y8.1.2.1,y8.1.2.2.1,y8.1.2.2.2.1,y8.1.2.2.2.2.1,(al .i64 (y8.1.2.2.2.2.2.1+1)),()),((y8.2.1.1.1,()),()),y8.2.2.1,()))
    | .inr z9=>
      some (R3.ret ((),(),()))) (
    none)) (
   none)) (
  some (R3.out ((v1,v2,()),(),v7,())))
noncomputable def IG (z:Il):Option (R3 Il ON P6):=Xg z.1.2.1 z.1.2.2.1 z.1.2.2.2.1 z.1.2.2.2.2.1 z.1.2.2.2.2.2.1 z.2.1.1.1 z.2.2.1
noncomputable def f115 (v1:aR)(v2:Int):Option x5:=
 ((f140 (v1.length:Int) v2)).bind fun y3=>
 cond (decide (y3.1=(-1))) (
  some ([],false,())) (
  ((iter az rB ((v1,(),(v1.length:Int),0,()),((v2,()),()),()))).bind fun r=>match r with
  | .inl y4=>
    cond ((decide (0≤y3.1))&&(decide ((y3.1 * 1)≤140737488355328))) (
     ((iter az IG (((),0,0,v1,(v1.length:Int),0,()),((y4.2.1.1.1,()),()),[],()))).bind fun r=>match r with
     | .inl y6=>
       cond (decide (0<y6.1.2.1)) (
        cond ((decide (((y6.2.2.1.length+1) * 1)≤140737488355328))&&(decide ((y6.2.2.1.length+1)≤9223372036854775807))) (
         some ((y6.2.2.1++[(al .u8 y6.1.1)]),true,())) (
         none)) (
        some (y6.2.2.1,true,()))
     | .inr z7=>
       none) (
     none)
  | .inr z5=>
    cond (decide (0≤z5.1.1)) (
     some ([],false,())) (
     cond ((decide (0≤y3.1))&&(decide ((y3.1 * 1)≤140737488355328))) (
      ((iter az IG (((),0,0,v1,(v1.length:Int),0,()),((z5.2.1.1.1,()),()),[],()))).bind fun r=>match r with
      | .inl y8=>
        cond (decide (0<y8.1.2.1)) (
         cond ((decide (((y8.2.2.1.length+1) * 1)≤140737488355328))&&(decide ((y8.2.2.1.length+1)≤9223372036854775807))) (
          some ((y8.2.2.1++[(al .u8 y8.1.1)]),true,())) (
          none)) (
         some (y8.2.2.1,true,()))
      | .inr z9=>
        none) (
      none)))
noncomputable def f155 (v1:Int):Option bl:=
 cond (decide (v1<(-274877906944))) (
  some ((-1),())) (
  cond (decide (274877906944<v1)) (
   some ((-1),())) (
   cond (decide (v1<0)) (
    some ((aG .xor .i64 (-1) (al .i64 (v1 * 2))),())) (
    some ((al .i64 (v1 * 2)),()))))
abbrev IL:Type:=Pc×mE×aR×Unit
abbrev Q8:Type:=(Unit)×(Unit)×aR×Unit
abbrev Rq:Type:=ct×(Unit)×aR×Unit
noncomputable def Wj (v1:aR)(v2 v3 v4:Int)(v5:aR):Option (R3 IL Q8 Rq):=
 cond (decide (v3<v2)) (
  cond ((decide (0≤v3))&&(decide (v3<(v1.length:Int)))) (
   ((f143 (rd aW v1 (ae v3)))).bind fun y6=>
   cond (!y6.1) (
    some (R3.ret ((false,()),(),[],()))) (
    cond ((decide (0≤v3))&&(decide (v3<(v1.length:Int)))) (
     ((f155 (al .i64 ((rd aW v1 (ae v3))-v4)))).bind fun y7=>
     cond ((decide (0≤v3))&&(decide (v3<(v5.length:Int)))) (
      cond (decide ((ae v3)<v5.length)) (
       some (R3.next ((v1,(),v2,(al .i64 (v3+1)),()),(((rd aW v1 (ae v3)),()),()),(v5.set (ae v3) y7.1),()))) (
       none)) (
      none)) (
     none))) (
   none)) (
  some (R3.out ((),(),v5,())))
noncomputable def Qh (z:IL):Option (R3 IL Q8 Rq):=Wj z.1.1 z.1.2.2.1 z.1.2.2.2.1 z.2.1.1.1 z.2.2.1
noncomputable def f116 (v1:aR):Option x5:=
 cond (((decide (0≤(v1.length:Int)))&&(decide ((v1.length:Int)≤(v1.length:Int))))&&(decide (((v1.length:Int) * 8)≤140737488355328))) (
  ((iter az Qh ((v1,(),(v1.length:Int),0,()),((0,()),()),(bj (ae (v1.length:Int)) 0),()))).bind fun r=>match r with
  | .inl y2=>
    ((f86 y2.2.2.1)).bind fun y4=>
    some (y4.1,y4.2.1,())
  | .inr z3=>
    some (z3.2.2.1,z3.1.1,())) (
  none)
abbrev mH:Type:=Th×AP×(Unit)
abbrev tu:Type:=(Unit)×AP×(Unit)
abbrev tq:Type:=bl×AP×(Unit)
noncomputable def Fv (v1:br)(v2 v3 v4 v5 v6 v7 v8 v9 v10 v11 v12 v13 v14:Int)(v15:Bool)(v16:Int)(v17:aQ)(v18:br)(v19:aQ):Option (R3 mH tu tq):=
 cond (decide (v3<v2)) (
  cond ((decide (0≤v3))&&(decide (v3<(v1.length:Int)))) (
   cond (!(decide ((rd aZ v1 (ae v3)).2.2.2.2=v16))) (
    some (R3.ret ((v3,()),((v4,v5,v6,v7,v8,v9,v10,v11,v12,v13,v14,v15,v16,v17,v18,v19,()),()),()))) (
    some (R3.next ((v1,(),v2,(al .i64 (v3+1)),()),((v4,v5,v6,v7,v8,v9,v10,v11,v12,v13,v14,v15,v16,v17,v18,v19,()),()),())))) (
   none)) (
  some (R3.out ((),((v4,v5,v6,v7,v8,v9,v10,v11,v12,v13,v14,v15,v16,v17,v18,v19,()),()),())))
noncomputable def tI (z:mH):Option (R3 mH tu tq):=Fv z.1.1 z.1.2.2.1 z.1.2.2.2.1 z.2.1.1.1 z.2.1.1.2.1 z.2.1.1.2.2.1 z.2.1.1.2.2.2.1 z.2.1.1.2.2.2.2.1 z.2.1.1.2.2.2.2.2.1 z.2.1.1.2.2.2.2.2.2.1 z.2.1.1.2.2.2.2.2.2.2.1 z.2.1.1.2.2.2.2.2.2.2.2.1 z.2.1.1.2.2.2.2.2.2.2.2.2.1 z.2.1.1.2.2.2.2.2.2.2.2.2.2.1 z.2.1.1.2.2.2.2.2.2.2.2.2.2.2.1 z.2.1.1.2.2.2.2.2.2.2.2.2.2.2.2.1 z.2.1.1.2.2.2.2.2.2.2.2.2.2.2.2.2.1 z.2.1.1.2.2.2.2.2.2.2.2.2.2.2.2.2.2.1 z.2.1.1.2.2.2.2.2.2.2.2.2.2.2.2.2.2.2.1
abbrev Py:Type:=TF×AP×aR×aR×aR×aR×Unit
abbrev VL:Type:=pq×AP×aR×aR×aR×aR×Unit
abbrev UY:Type:=Unit×Unit×Unit
noncomputable def ZY (v1:br)(v2 v3 v4 v5 v6 v7 v8 v9 v10 v11 v12 v13 v14:Int)(v15:Bool)(v16:Int)(v17:aQ)(v18:br)(v19:aQ)(v20 v21 v22 v23:aR):Option (R3 Py VL UY):=
 cond (decide (v3<v2)) (
  cond ((decide (0≤v3))&&(decide (v3<(v1.length:Int)))) (
   ((f113 (rd aZ v1 (ae v3)).2.1 (rd aZ v1 (ae v3)).2.2.1)).bind fun y24=>
   cond ((decide (((v20.length+1) * 8)≤140737488355328))&&(decide ((v20.length+1)≤9223372036854775807))) (
    cond ((decide (((v21.length+1) * 8)≤140737488355328))&&(decide ((v21.length+1)≤9223372036854775807))) (
     some (R3.next (((),v1,v2,(al .i64 (v3+1)),()),((v4,v5,v6,v7,v8,v9,v10,v11,v12,v13,v14,v15,v16,v17,v18,v19,()),()),(v20++[(aG .or .i64 (al .i64 ((rd aZ v1 (ae v3)).1 * 32)) y24.1)]),(v21++[(rd aZ v1 (ae v3)).2.2.2.1]),v22,v23,()))) (
     none)) (
    none)) (
   none)) (
  some (R3.out (((),()),((v4,v5,v6,v7,v8,v9,v10,v11,v12,v13,v14,v15,v16,v17,v18,v19,()),()),v20,v21,v22,v23,())))
noncomputable def Qq (z:Py):Option (R3 Py VL UY):=ZY z.1.2.1 z.1.2.2.1 z.1.2.2.2.1 z.2.1.1.1 z.2.1.1.2.1 z.2.1.1.2.2.1 z.2.1.1.2.2.2.1 z.2.1.1.2.2.2.2.1 z.2.1.1.2.2.2.2.2.1 z.2.1.1.2.2.2.2.2.2.1 z.2.1.1.2.2.2.2.2.2.2.1 z.2.1.1.2.2.2.2.2.2.2.2.1 z.2.1.1.2.2.2.2.2.2.2.2.2.1 z.2.1.1.2.2.2.2.2.2.2.2.2.2.1 z.2.1.1.2.2.2.2.2.2.2.2.2.2.2.1 z.2.1.1.2.2.2.2.2.2.2.2.2.2.2.2.1 z.2.1.1.2.2.2.2.2.2.2.2.2.2.2.2.2.1 z.2.1.1.2.2.2.2.2.2.2.2.2.2.2.2.2.2.1 z.2.1.1.2.2.2.2.2.2.2.2.2.2.2.2.2.2.2.1 z.2.2.1 z.2.2.2.1 z.2.2.2.2.1 z.2.2.2.2.2.1
abbrev IF:Type:=(Unit×aQ×Int×Int×Unit)×AP×aR×aR×aR×aR×Unit
abbrev Qv:Type:=pq×AP×aR×aR×aR×aR×Unit
abbrev OQ:Type:=Unit×Unit×Unit
noncomputable def Wy (v1:aQ)(v2 v3 v4 v5 v6 v7 v8 v9 v10 v11 v12 v13 v14:Int)(v15:Bool)(v16:Int)(v17:aQ)(v18:br)(v19:aQ)(v20 v21 v22 v23:aR):Option (R3 IF Qv OQ):=
 cond (decide (v3<v2)) (
  cond ((decide (0≤v3))&&(decide (v3<(v1.length:Int)))) (
   ((f113 (rd cR v1 (ae v3)).1 (rd cR v1 (ae v3)).2.1)).bind fun y24=>
   cond ((decide (((v22.length+1) * 8)≤140737488355328))&&(decide ((v22.length+1)≤9223372036854775807))) (
    cond ((decide (((v23.length+1) * 8)≤140737488355328))&&(decide ((v23.length+1)≤9223372036854775807))) (
     some (R3.next (((),v1,v2,(al .i64 (v3+1)),()),((v4,v5,v6,v7,v8,v9,v10,v11,v12,v13,v14,v15,v16,v17,v18,v19,()),()),v20,v21,(v22++[y24.1]),(v23++[(rd cR v1 (ae v3)).2.2]),()))) (
     none)) (
    none)) (
   none)) (
  some (R3.out (((),()),((v4,v5,v6,v7,v8,v9,v10,v11,v12,v13,v14,v15,v16,v17,v18,v19,()),()),v20,v21,v22,v23,())))
noncomputable def GD (z:IF):Option (R3 IF Qv OQ):=Wy z.1.2.1 z.1.2.2.1 z.1.2.2.2.1 z.2.1.1.1 z.2.1.1.2.1 z.2.1.1.2.2.1 z.2.1.1.2.2.2.1 z.2.1.1.2.2.2.2.1 z.2.1.1.2.2.2.2.2.1 z.2.1.1.2.2.2.2.2.2.1 z.2.1.1.2.2.2.2.2.2.2.1 z.2.1.1.2.2.2.2.2.2.2.2.1 z.2.1.1.2.2.2.2.2.2.2.2.2.1 z.2.1.1.2.2.2.2.2.2.2.2.2.2.1 z.2.1.1.2.2.2.2.2.2.2.2.2.2.2.1 z.2.1.1.2.2.2.2.2.2.2.2.2.2.2.2.1 z.2.1.1.2.2.2.2.2.2.2.2.2.2.2.2.2.1 z.2.1.1.2.2.2.2.2.2.2.2.2.2.2.2.2.2.1 z.2.1.1.2.2.2.2.2.2.2.2.2.2.2.2.2.2.2.1 z.2.2.1 z.2.2.2.1 z.2.2.2.2.1 z.2.2.2.2.2.1
noncomputable def f79 (v1 v2 v3 v4 v5 v6 v7 v8 v9 v10 v11:Int)(v12:Bool)(v13:Int)(v14:aQ)(v15:br)(v16:aQ):Option x5:=
 ((f78 v1 v2 v3 v4 v5 v6 v7 v8 v9 v10 v11 v12 v13 v14 v15 v16)).bind fun y17=>
 cond (!y17.1) (
  some ([],false,())) (
  ((iter az tI ((v15,(),(v15.length:Int),0,()),((v1,v2,v3,v4,v5,v6,v7,v8,v9,v10,v11,v12,v13,v14,v15,v16,()),()),()))).bind fun r=>match r with
  | .inl y18=>
    ((iter az Qq (((),y18.2.1.1.2.2.2.2.2.2.2.2.2.2.2.2.2.2.1,(y18.2.1.1.2.2.2.2.2.2.2.2.2.2.2.2.2.2.1.length:Int),0,()),((y18.2.1.1.1,y18.2.1.1.2.1,y18.2.1.1.2.2.1,y18.2.1.1.2.2.2.1,y18.2.1.1.2.2.2.2.1,y18.2.1.1.2.2.2.2.2.1,y18.2.1.1.2.2.2.2.2.2.1,y18.2.1.1.2.2.2.2.2.2.2.1,y18.2.1.1.2.2.2.2.2.2.2.2.1,y18.2.1.1.2.2.2.2.2.2.2.2.2.1,y18.2.1.1.2.2.2.2.2.2.2.2.2.2.1,y18.2.1.1.2.2.2.2.2.2.2.2.2.2.2.1,y18.2.1.1.2.2.2.2.2.2.2.2.2.2.2.2.1,y18.2.1.1.2.2.2.2.2.2.2.2.2.2.2.2.2.1,y18.2.1.1.2.2.2.2.2.2.2.2.2.2.2.2.2.2.1,y18.2.1.1.2.2.2.2.2.2.2.2.2.2.2.2.2.2.2.1,()),()),[],[],[],[],()))).bind fun r=>match r with
    | .inl y20=>
      ((iter az GD (((),y20.2.1.1.2.2.2.2.2.2.2.2.2.2.2.2.2.2.2.1,(y20.2.1.1.2.2.2.2.2.2.2.2.2.2.2.2.2.2.2.1.length:Int),0,()),((y20.2.1.1.1,y20.2.1.1.2.1,y20.2.1.1.2.2.1,y20.2.1.1.2.2.2.1,y20.2.1.1.2.2.2.2.1,y20.2.1.1.2.2.2.2.2.1,y20.2.1.1.2.2.2.2.2.2.1,y20.2.1.1.2.2.2.2.2.2.2.1,y20.2.1.1.2.2.2.2.2.2.2.2.1,y20.2.1.1.2.2.2.2.2.2.2.2.2.1,y20.2.1.1.2.2.2.2.2.2.2.2.2.2.1,y20.2.1.1.2.2.2.2.2.2.2.2.2.2.2.1,y20.2.1.1.2.2.2.2.2.2.2.2.2.2.2.2.1,y20.2.1.1.2.2.2.2.2.2.2.2.2.2.2.2.2.1,y20.2.1.1.2.2.2.2.2.2.2.2.2.2.2.2.2.2.1,y20.2.1.1.2.2.2.2.2.2.2.2.2.2.2.2.2.2.2.1,()),()),y20.2.2.1,y20.2.2.2.1,y20.2.2.2.2.1,y20.2.2.2.2.2.1,()))).bind fun r=>match r with
      | .inl y22=>
        ((f114 y22.2.1.1.1 y22.2.1.1.2.1 y22.2.1.1.2.2.1 y22.2.1.1.2.2.2.1 y22.2.1.1.2.2.2.2.1 y22.2.1.1.2.2.2.2.2.1 y22.2.1.1.2.2.2.2.2.2.1 y22.2.1.1.2.2.2.2.2.2.2.1 y22.2.1.1.2.2.2.2.2.2.2.2.1 y22.2.1.1.2.2.2.2.2.2.2.2.2.1 y22.2.1.1.2.2.2.2.2.2.2.2.2.2.1 y22.2.1.1.2.2.2.2.2.2.2.2.2.2.2.1 y22.2.1.1.2.2.2.2.2.2.2.2.2.2.2.2.1 y22.2.1.1.2.2.2.2.2.2.2.2.2.2.2.2.2.1 y22.2.1.1.2.2.2.2.2.2.2.2.2.2.2.2.2.2.1 y22.2.1.1.2.2.2.2.2.2.2.2.2.2.2.2.2.2.2.1)).bind fun y24=>
        ((f86 y24.1)).bind fun y25=>
        ((f115 y22.2.2.1 10)).bind fun y26=>
        ((f116 y22.2.2.2.1)).bind fun y27=>
        ((f115 y22.2.2.2.2.1 5)).bind fun y28=>
        ((f116 y22.2.2.2.2.2.1)).bind fun y29=>
        ((f117 (y25.1.length:Int))).bind fun y30=>
        cond ((decide ((y30.1.length * 1)≤140737488355328))&&(decide (y30.1.length≤9223372036854775807))) (
         cond ((decide (((y30.1.length+y25.1.length) * 1)≤140737488355328))&&(decide ((y30.1.length+y25.1.length)≤9223372036854775807))) (
          ((f117 (y26.1.length:Int))).bind fun y31=>
          cond ((decide ((((y30.1++y25.1).length+y31.1.length) * 1)≤140737488355328))&&(decide (((y30.1++y25.1).length+y31.1.length)≤9223372036854775807))) (
           cond ((decide (((((y30.1++y25.1)++y31.1).length+y26.1.length) * 1)≤140737488355328))&&(decide ((((y30.1++y25.1)++y31.1).length+y26.1.length)≤9223372036854775807))) (
            ((f117 (y27.1.length:Int))).bind fun y32=>
            cond ((decide ((((((y30.1++y25.1)++y31.1)++y26.1).length+y32.1.length) * 1)≤140737488355328))&&(decide (((((y30.1++y25.1)++y31.1)++y26.1).length+y32.1.length)≤9223372036854775807))) (
             cond ((decide (((((((y30.1++y25.1)++y31.1)++y26.1)++y32.1).length+y27.1.length) * 1)≤140737488355328))&&(decide ((((((y30.1++y25.1)++y31.1)++y26.1)++y32.1).length+y27.1.length)≤9223372036854775807))) (
              ((f117 (y28.1.length:Int))).bind fun y33=>
              cond ((decide ((((((((y30.1++y25.1)++y31.1)++y26.1)++y32.1)++y27.1).length+y33.1.length) * 1)≤140737488355328))&&(decide (((((((y30.1++y25.1)++y31.1)++y26.1)++y32.1)++y27.1).length+y33.1.length)≤9223372036854775807))) (
               cond ((decide (((((((((y30.1++y25.1)++y31.1)++y26.1)++y32.1)++y27.1)++y33.1).length+y28.1.length) * 1)≤140737488355328))&&(decide ((((((((y30.1++y25.1)++y31.1)++y26.1)++y32.1)++y27.1)++y33.1).length+y28.1.length)≤9223372036854775807))) (
                ((f117 (y29.1.length:Int))).bind fun y34=>
                cond ((decide ((((((((((y30.1++y25.1)++y31.1)++y26.1)++y32.1)++y27.1)++y33.1)++y28.1).length+y34.1.length) * 1)≤140737488355328))&&(decide (((((((((y30.1++y25.1)++y31.1)++y26.1)++y32.1)++y27.1)++y33.1)++y28.1).length+y34.1.length)≤9223372036854775807))) (
                 cond ((decide (((((((((((y30.1++y25.1)++y31.1)++y26.1)++y32.1)++y27.1)++y33.1)++y28.1)++y34.1).length+y29.1.length) * 1)≤140737488355328))&&(decide ((((((((((y30.1++y25.1)++y31.1)++y26.1)++y32.1)++y27.1)++y33.1)++y28.1)++y34.1).length+y29.1.length)≤9223372036854775807))) (
                  some ((((((((((y30.1++y25.1)++y31.1)++y26.1)++y32.1)++y27.1)++y33.1)++y28.1)++y34.1)++y29.1),true,())) (
                  none)) (
                 none)) (
                none)) (
               none)) (
              none)) (
             none)) (
            none)) (
           none)) (
          none)) (
         none)
      | .inr z23=>
        none
    | .inr z21=>
      none
  | .inr z19=>
    cond (decide (0≤z19.1.1)) (
     some ([],false,())) (
     ((iter az Qq (((),z19.2.1.1.2.2.2.2.2.2.2.2.2.2.2.2.2.2.1,(z19.2.1.1.2.2.2.2.2.2.2.2.2.2.2.2.2.2.1.length:Int),0,()),((z19.2.1.1.1,z19.2.1.1.2.1,z19.2.1.1.2.2.1,z19.2.1.1.2.2.2.1,z19.2.1.1.2.2.2.2.1,z19.2.1.1.2.2.2.2.2.1,z19.2.1.1.2.2.2.2.2.2.1,z19.2.1.1.2.2.2.2.2.2.2.1,z19.2.1.1.2.2.2.2.2.2.2.2.1,z19.2.1.1.2.2.2.2.2.2.2.2.2.1,z19.2.1.1.2.2.2.2.2.2.2.2.2.2.1,z19.2.1.1.2.2.2.2.2.2.2.2.2.2.2.1,z19.2.1.1.2.2.2.2.2.2.2.2.2.2.2.2.1,z19.2.1.1.2.2.2.2.2.2.2.2.2.2.2.2.2.1,z19.2.1.1.2.2.2.2.2.2.2.2.2.2.2.2.2.2.1,z19.2.1.1.2.2.2.2.2.2.2.2.2.2.2.2.2.2.2.1,()),()),[],[],[],[],()))).bind fun r=>match r with
     | .inl y35=>
       ((iter az GD (((),y35.2.1.1.2.2.2.2.2.2.2.2.2.2.2.2.2.2.2.1,(y35.2.1.1.2.2.2.2.2.2.2.2.2.2.2.2.2.2.2.1.length:Int),0,()),((y35.2.1.1.1,y35.2.1.1.2.1,y35.2.1.1.2.2.1,y35.2.1.1.2.2.2.1,y35.2.1.1.2.2.2.2.1,y35.2.1.1.2.2.2.2.2.1,y35.2.1.1.2.2.2.2.2.2.1,y35.2.1.1.2.2.2.2.2.2.2.1,y35.2.1.1.2.2.2.2.2.2.2.2.1,y35.2.1.1.2.2.2.2.2.2.2.2.2.1,y35.2.1.1.2.2.2.2.2.2.2.2.2.2.1,y35.2.1.1.2.2.2.2.2.2.2.2.2.2.2.1,y35.2.1.1.2.2.2.2.2.2.2.2.2.2.2.2.1,y35.2.1.1.2.2.2.2.2.2.2.2.2.2.2.2.2.1,y35.2.1.1.2.2.2.2.2.2.2.2.2.2.2.2.2.2.1,y35.2.1.1.2.2.2.2.2.2.2.2.2.2.2.2.2.2.2.1,()),()),y35.2.2.1,y35.2.2.2.1,y35.2.2.2.2.1,y35.2.2.2.2.2.1,()))).bind fun r=>match r with
       | .inl y37=>
         ((f114 y37.2.1.1.1 y37.2.1.1.2.1 y37.2.1.1.2.2.1 y37.2.1.1.2.2.2.1 y37.2.1.1.2.2.2.2.1 y37.2.1.1.2.2.2.2.2.1 y37.2.1.1.2.2.2.2.2.2.1 y37.2.1.1.2.2.2.2.2.2.2.1 y37.2.1.1.2.2.2.2.2.2.2.2.1 y37.2.1.1.2.2.2.2.2.2.2.2.2.1 y37.2.1.1.2.2.2.2.2.2.2.2.2.2.1 y37.2.1.1.2.2.2.2.2.2.2.2.2.2.2.1 y37.2.1.1.2.2.2.2.2.2.2.2.2.2.2.2.1 y37.2.1.1.2.2.2.2.2.2.2.2.2.2.2.2.2.1 y37.2.1.1.2.2.2.2.2.2.2.2.2.2.2.2.2.2.1 y37.2.1.1.2.2.2.2.2.2.2.2.2.2.2.2.2.2.2.1)).bind fun y39=>
         ((f86 y39.1)).bind fun y40=>
         ((f115 y37.2.2.1 10)).bind fun y41=>
         ((f116 y37.2.2.2.1)).bind fun y42=>
         ((f115 y37.2.2.2.2.1 5)).bind fun y43=>
         ((f116 y37.2.2.2.2.2.1)).bind fun y44=>
         ((f117 (y40.1.length:Int))).bind fun y45=>
         cond ((decide ((y45.1.length * 1)≤140737488355328))&&(decide (y45.1.length≤9223372036854775807))) (
          cond ((decide (((y45.1.length+y40.1.length) * 1)≤140737488355328))&&(decide ((y45.1.length+y40.1.length)≤9223372036854775807))) (
           ((f117 (y41.1.length:Int))).bind fun y46=>
           cond ((decide ((((y45.1++y40.1).length+y46.1.length) * 1)≤140737488355328))&&(decide (((y45.1++y40.1).length+y46.1.length)≤9223372036854775807))) (
            cond ((decide (((((y45.1++y40.1)++y46.1).length+y41.1.length) * 1)≤140737488355328))&&(decide ((((y45.1++y40.1)++y46.1).length+y41.1.length)≤9223372036854775807))) (
             ((f117 (y42.1.length:Int))).bind fun y47=>
             cond ((decide ((((((y45.1++y40.1)++y46.1)++y41.1).length+y47.1.length) * 1)≤140737488355328))&&(decide (((((y45.1++y40.1)++y46.1)++y41.1).length+y47.1.length)≤9223372036854775807))) (
              cond ((decide (((((((y45.1++y40.1)++y46.1)++y41.1)++y47.1).length+y42.1.length) * 1)≤140737488355328))&&(decide ((((((y45.1++y40.1)++y46.1)++y41.1)++y47.1).length+y42.1.length)≤9223372036854775807))) (
               ((f117 (y43.1.length:Int))).bind fun y48=>
               cond ((decide ((((((((y45.1++y40.1)++y46.1)++y41.1)++y47.1)++y42.1).length+y48.1.length) * 1)≤140737488355328))&&(decide (((((((y45.1++y40.1)++y46.1)++y41.1)++y47.1)++y42.1).length+y48.1.length)≤9223372036854775807))) (
                cond ((decide (((((((((y45.1++y40.1)++y46.1)++y41.1)++y47.1)++y42.1)++y48.1).length+y43.1.length) * 1)≤140737488355328))&&(decide ((((((((y45.1++y40.1)++y46.1)++y41.1)++y47.1)++y42.1)++y48.1).length+y43.1.length)≤9223372036854775807))) (
                 ((f117 (y44.1.length:Int))).bind fun y49=>
                 cond ((decide ((((((((((y45.1++y40.1)++y46.1)++y41.1)++y47.1)++y42.1)++y48.1)++y43.1).length+y49.1.length) * 1)≤140737488355328))&&(decide (((((((((y45.1++y40.1)++y46.1)++y41.1)++y47.1)++y42.1)++y48.1)++y43.1).length+y49.1.length)≤9223372036854775807))) (
                  cond ((decide (((((((((((y45.1++y40.1)++y46.1)++y41.1)++y47.1)++y42.1)++y48.1)++y43.1)++y49.1).length+y44.1.length) * 1)≤140737488355328))&&(decide ((((((((((y45.1++y40.1)++y46.1)++y41.1)++y47.1)++y42.1)++y48.1)++y43.1)++y49.1).length+y44.1.length)≤9223372036854775807))) (
                   some ((((((((((y45.1++y40.1)++y46.1)++y41.1)++y47.1)++y42.1)++y48.1)++y43.1)++y49.1)++y44.1),true,())) (
                   none)) (
                  none)) (
                 none)) (
                none)) (
               none)) (
              none)) (
             none)) (
            none)) (
           none)) (
          none)
       | .inr z38=>
         none
     | .inr z36=>
       none))
noncomputable def f80 (v1:Int)(v2:cZ):Option IX:=
 cond (decide ((al .i64 ((v2.length:Int)-1))<0)) (
  some (0,(al .i64 ((v2.length:Int)-1)),())) (
  cond ((decide (0≤(al .i64 ((v2.length:Int)-1))))&&(decide ((al .i64 ((v2.length:Int)-1))<(v2.length:Int)))) (
   some ((rd bL v2 (ae (al .i64 ((v2.length:Int)-1)))).1,(al .i64 ((v2.length:Int)-1)),())) (
   none))
noncomputable def f82 (v1:Int)(v2:cZ)(v3:Int):Option Lu:=
 ((f95 v1 v2)).bind fun y4=>
 ((f34 v1 v2)).bind fun y5=>
 cond (!y5.1) (
  some ((y4.1.1,y4.1.2),1,())) (
  cond (decide (v3<1)) (
   some ((y4.1.1,y4.1.2),1,())) (
   cond (decide (1073741824<v3)) (
    some ((y4.1.1,y4.1.2),1,())) (
    ((f96 v1 v2 v3)).bind fun y6=>
    cond (!(decide (y6.1=(-1)))) (
     some ((y4.1.1,y4.1.2),11,())) (
     cond (decide ((v2.length:Int)=12)) (
      some ((y4.1.1,y4.1.2),9,())) (
      ((f119 v1 v2 v3)).bind fun y7=>
      ((C8 y4.1.2 y7.1 [(v3,[],0)])).bind fun y8=>
      some ((y4.1.1,y8),0,()))))))
noncomputable def f46 (v1:Int)(v2:cZ)(v3 v4 v5 v6 v7 v8 v9 v10 v11 v12 v13:Int)(v14:Bool)(v15:Int)(v16:aQ)(v17:br)(v18:aQ):Option (Qi×Int×Unit):=
 ((f79 v3 v4 v5 v6 v7 v8 v9 v10 v11 v12 v13 v14 v15 v16 v17 v18)).bind fun y19=>
 ((f80 v1 v2)).bind fun y20=>
 cond (!y19.2.1) (
  some (((0,[]),0,0),1,())) (
  ((f34 v1 v2)).bind fun y21=>
  cond (!y21.1) (
   some (((0,[]),0,0),1,())) (
   cond (decide (y20.1=1073741824)) (
    some (((0,[]),0,0),1,())) (
    ((f82 v1 v2 (al .i64 (y20.1+1)))).bind fun y22=>
    cond (decide (y22.2.1=0)) (
     ((f87 1 y19.1)).bind fun y23=>
     cond (!y23.2.1) (
      some (((0,[]),0,0),1,())) (
      cond (decide (y22.2.1=0)) (
       ((f88 y23.1 y22.1.1 y22.1.2 (al .i64 (y20.1+1)))).bind fun y24=>
       cond (decide (y24.2.1=0)) (
        ((f89 y24.1.1 y24.1.2 (al .i64 (y20.1+1)))).bind fun y25=>
        cond (!(decide (y25.2.1=0))) (
         some (((0,[]),0,0),y25.2.1,())) (
         some (((y25.1.1,y25.1.2),(al .i64 (y20.1+1)),v15),0,()))) (
        cond (!(decide (y24.2.1=0))) (
         some (((0,[]),0,0),y24.2.1,())) (
         some (((y24.1.1,y24.1.2),(al .i64 (y20.1+1)),v15),0,())))) (
       cond (decide (y22.2.1=0)) (
        ((f89 y22.1.1 y22.1.2 (al .i64 (y20.1+1)))).bind fun y26=>
        cond (!(decide (y26.2.1=0))) (
         some (((0,[]),0,0),y26.2.1,())) (
         some (((y26.1.1,y26.1.2),(al .i64 (y20.1+1)),v15),0,()))) (
        cond (!(decide (y22.2.1=0))) (
         some (((0,[]),0,0),y22.2.1,())) (
         some (((y22.1.1,y22.1.2),(al .i64 (y20.1+1)),v15),0,())))))) (
     cond (!(decide (y22.2.1=0))) (
      some (((0,[]),0,0),y22.2.1,())) (
      some (((y22.1.1,y22.1.2),(al .i64 (y20.1+1)),v15),0,()))))))
noncomputable def f21  : Option (Qi×yb×Unit):=
 (f44).bind fun y1=>
 ((f43 y1.1.1.1 y1.1.1.2 y1.1.2.1.1 y1.1.2.1.2 y1.1.2.2.1 y1.1.2.2.2.1 y1.1.2.2.2.2.1 y1.1.2.2.2.2.2 1 9 5 false)).bind fun y2=>
 ((f45 2000)).bind fun y3=>
 ((f46 y3.1.1 y3.1.2 y2.1.1.1.1 y2.1.1.1.2 y2.1.1.2.1.1 y2.1.1.2.1.2 y2.1.1.2.2.1 y2.1.1.2.2.2.1 y2.1.1.2.2.2.2.1 y2.1.1.2.2.2.2.2 y2.1.2.1.1 y2.1.2.1.2.1 y2.1.2.1.2.2.1 y2.1.2.1.2.2.2 y2.1.2.2.1 y2.1.2.2.2.1 y2.1.2.2.2.2.1 y2.1.2.2.2.2.2)).bind fun y4=>
 some (((y4.1.1.1,y4.1.1.2),y4.1.2.1,y4.1.2.2),(((y2.1.1.1.1,y2.1.1.1.2),(y2.1.1.2.1.1,y2.1.1.2.1.2),y2.1.1.2.2.1,y2.1.1.2.2.2.1,y2.1.1.2.2.2.2.1,y2.1.1.2.2.2.2.2),(y2.1.2.1.1,y2.1.2.1.2.1,y2.1.2.1.2.2.1,y2.1.2.1.2.2.2),y2.1.2.2.1,y2.1.2.2.2.1,y2.1.2.2.2.2.1,y2.1.2.2.2.2.2),())
noncomputable def f47 (v1:Int)(v2:cZ)(v3 v4:Int):Option ct:=
 ((f80 v1 v2)).bind fun y5=>
 ((f34 v1 v2)).bind fun y6=>
 cond y6.1 (
  cond (decide (0<y5.1)) (
   cond (decide (y5.1=v3)) (
    cond (decide (0≤v4)) (
     some ((decide (v4≤1073741824)),())) (
     some (false,()))) (
    some (false,()))) (
   some (false,()))) (
  some (false,()))
abbrev N0:Type:=(Unit×Unit×Unit×cZ×Int×Int×Unit)×((Int×cZ×Int×Int×Unit)×LQ×xW×Unit)×cZ×cZ×Unit
abbrev UH:Type:=(Unit×Unit×Unit×Unit)×((Int×cZ×Int×Int×Unit)×LQ×xW×Unit)×cZ×cZ×Unit
abbrev Vl:Type:=Unit×Unit×Unit
noncomputable def ab3 (v1:cZ)(v2 v3 v4:Int)(v5:cZ)(v6 v7 v8 v9 v10 v11:Int)(v12 v13:cZ):Option (R3 N0 UH Vl):=
 cond (decide (v3<v2)) (
  cond ((decide (0≤v3))&&(decide (v3<(v1.length:Int)))) (
   cond ((decide (((rd bL v1 (ae v3)).2.1.length * 1)≤140737488355328))&&(decide ((rd bL v1 (ae v3)).2.1.length≤9223372036854775807))) (
    cond ((decide (((v13.length+1) * 40)≤140737488355328))&&(decide ((v13.length+1)≤9223372036854775807))) (
     some (R3.next (((),(),(),v1,v2,(al .i64 (v3+1)),()),((v4,v5,v6,v7,()),(v8,(),v9,v10,()),(v11,(),()),()),v12,(v13++[((rd bL v1 (ae v3)).1,(rd bL v1 (ae v3)).2.1,(rd bL v1 (ae v3)).2.2)]),()))) (
     none)) (
    none)) (
   none)) (
  some (R3.out (((),(),(),()),((v4,v5,v6,v7,()),(v8,(),v9,v10,()),(v11,(),()),()),v12,v13,())))
noncomputable def V3 (z:N0):Option (R3 N0 UH Vl):=ab3 z.1.2.2.2.1 z.1.2.2.2.2.1 z.1.2.2.2.2.2.1 z.2.1.1.1 z.2.1.1.2.1 z.2.1.1.2.2.1 z.2.1.1.2.2.2.1 z.2.1.2.1.1 z.2.1.2.1.2.2.1 z.2.1.2.1.2.2.2.1 z.2.1.2.2.1.1 z.2.2.1 z.2.2.2.1
noncomputable def f48 (v1:Int)(v2:cZ)(v3 v4:Int):Option (Qi×Unit):=
 ((iter az V3 (((),(),(),v2,(v2.length:Int),0,()),((v1,v2,v3,v4,()),(0,(),0,0,()),(v1,(),()),()),[],[],()))).bind fun r=>match r with
 | .inl y5=>
   some (((y5.2.1.2.2.1.1,y5.2.2.2.1),y5.2.1.1.2.2.1,y5.2.1.1.2.2.2.1),())
 | .inr z6=>
   none
noncomputable def f85 (v1 v2 v3 v4 v5 v6 v7 v8:Int)(v9:Bool):Option ug:=
 cond (decide (v1=0)) (
  some ([(aG .or .i64 (aG .or .i64 (al .i64 (v3 * 32)) (al .i64 (v4 * 8))) v5)],())) (
  cond (decide (v1=1)) (
   some ([(aG .or .i64 (aG .or .i64 (al .i64 (v3 * 32)) (al .i64 (v4 * 8))) v5)],())) (
   cond (decide (v1=2)) (
    some ([(aG .or .i64 (al .i64 (v3 * 8)) v4)],())) (
    cond (decide (v1=4)) (
     some ([(aG .or .i64 (al .i64 (v3 * 8)) v4)],())) (
     cond (decide (v1=3)) (
      some ([v3],())) (
      cond (decide (v1=5)) (
       some ([v3],())) (
       cond v9 (
        cond (decide (3<4)) (
         cond (decide (3<4)) (
          some ([v6,v7,v8,1],())) (
          none)) (
         none)) (
        some ([v6,v7,v8,0],()))))))))
abbrev Ru:Type:=(Int×BN×Int×Int×Unit)×(Unit)×aR×Unit
abbrev Vu:Type:=(Unit)×(Unit)×aR×Unit
abbrev Vc:Type:=ct×(Unit)×aR×Unit
noncomputable def aaD (v1:Int)(v2:BN)(v3 v4:Int)(v5:aR):Option (R3 Ru Vu Vc):=
 cond (decide (v4<v3)) (
  cond ((decide (0≤v4))&&(decide (v4<(v2.length:Int)))) (
   ((f84 (rd cG v2 (ae v4)).1 (rd cG v2 (ae v4)).2.1 (rd cG v2 (ae v4)).2.2.1 (rd cG v2 (ae v4)).2.2.2.1 (rd cG v2 (ae v4)).2.2.2.2.1 (rd cG v2 (ae v4)).2.2.2.2.2.1 (rd cG v2 (ae v4)).2.2.2.2.2.2.1 (rd cG v2 (ae v4)).2.2.2.2.2.2.2.1 (rd cG v2 (ae v4)).2.2.2.2.2.2.2.2)).bind fun y6=>
   cond (!y6.1) (
    some (R3.ret ((false,()),(),[],()))) (
    cond (decide ((rd cG v2 (ae v4)).2.1<v1)) (
     some (R3.ret ((false,()),(),[],()))) (
     cond ((decide (((v5.length+1) * 8)≤140737488355328))&&(decide ((v5.length+1)≤9223372036854775807))) (
      ((f85 (rd cG v2 (ae v4)).1 (rd cG v2 (ae v4)).2.1 (rd cG v2 (ae v4)).2.2.1 (rd cG v2 (ae v4)).2.2.2.1 (rd cG v2 (ae v4)).2.2.2.2.1 (rd cG v2 (ae v4)).2.2.2.2.2.1 (rd cG v2 (ae v4)).2.2.2.2.2.2.1 (rd cG v2 (ae v4)).2.2.2.2.2.2.2.1 (rd cG v2 (ae v4)).2.2.2.2.2.2.2.2)).bind fun y7=>
      cond ((decide ((((v5++[(al .i64 ((al .i64 ((al .i64 ((rd cG v2 (ae v4)).2.1-v1)) * 16))+(rd cG v2 (ae v4)).1))]).length+y7.1.length) * 8)≤140737488355328))&&(decide (((v5++[(al .i64 ((al .i64 ((al .i64 ((rd cG v2 (ae v4)).2.1-v1)) * 16))+(rd cG v2 (ae v4)).1))]).length+y7.1.length)≤9223372036854775807))) (
       some (R3.next (((rd cG v2 (ae v4)).2.1,v2,v3,(al .i64 (v4+1)),()),(),((v5++[(al .i64 ((al .i64 ((al .i64 ((rd cG v2 (ae v4)).2.1-v1)) * 16))+(rd cG v2 (ae v4)).1))])++y7.1),()))) (
       none)) (
      none)))) (
   none)) (
  some (R3.out ((),(),v5,())))
noncomputable def V0 (z:Ru):Option (R3 Ru Vu Vc):=aaD z.1.1 z.1.2.1 z.1.2.2.1 z.1.2.2.2.1 z.2.2.1
noncomputable def f49 (v1:Int)(v2:BN):Option x5:=
 ((f83 v1 0 1073741824)).bind fun y3=>
 cond (!y3.1) (
  some ([],false,())) (
  ((iter az V0 ((v1,v2,(v2.length:Int),0,()),(),[],()))).bind fun r=>match r with
  | .inl y4=>
    ((f86 y4.2.2.1)).bind fun y6=>
    some (y6.1,y6.2.1,())
  | .inr z5=>
    some (z5.2.2.1,z5.1.1,()))
noncomputable def f22 (v1:Int)(v2:cZ)(v3 v4:Int)(v5:BN):Option (Qi×Int×Unit):=
 ((f47 v1 v2 v3 v4)).bind fun y6=>
 cond (!y6.1) (
  ((f48 v1 v2 v3 v4)).bind fun y7=>
  some (((y7.1.1.1,y7.1.1.2),y7.1.2.1,y7.1.2.2),1,())) (
  cond (decide ((v5.length:Int)=0)) (
   ((f48 v1 v2 v3 v4)).bind fun y8=>
   some (((y8.1.1.1,y8.1.1.2),y8.1.2.1,y8.1.2.2),1,())) (
   ((f49 v4 v5)).bind fun y9=>
   cond (!y9.2.1) (
    ((f48 v1 v2 v3 v4)).bind fun y10=>
    some (((y10.1.1.1,y10.1.1.2),y10.1.2.1,y10.1.2.2),1,())) (
    ((f87 2 y9.1)).bind fun y11=>
    cond (!y11.2.1) (
     ((f48 v1 v2 v3 v4)).bind fun y12=>
     some (((y12.1.1.1,y12.1.1.2),y12.1.2.1,y12.1.2.2),1,())) (
     ((f88 y11.1 v1 v2 v3)).bind fun y13=>
     cond (decide (y13.2.1=0)) (
      ((f89 y13.1.1 y13.1.2 v3)).bind fun y14=>
      cond (!(decide (y14.2.1=0))) (
       ((f48 v1 v2 v3 v4)).bind fun y15=>
       some (((y15.1.1.1,y15.1.1.2),y15.1.2.1,y15.1.2.2),y14.2.1,())) (
       cond ((decide (0≤(al .i64 ((v5.length:Int)-1))))&&(decide ((al .i64 ((v5.length:Int)-1))<(v5.length:Int)))) (
        some (((y14.1.1,y14.1.2),v3,(rd cG v5 (ae (al .i64 ((v5.length:Int)-1)))).2.1),0,())) (
        none))) (
      cond (!(decide (y13.2.1=0))) (
       ((f48 v1 v2 v3 v4)).bind fun y16=>
       some (((y16.1.1.1,y16.1.1.2),y16.1.2.1,y16.1.2.2),y13.2.1,())) (
       cond ((decide (0≤(al .i64 ((v5.length:Int)-1))))&&(decide ((al .i64 ((v5.length:Int)-1))<(v5.length:Int)))) (
        some (((y13.1.1,y13.1.2),v3,(rd cG v5 (ae (al .i64 ((v5.length:Int)-1)))).2.1),0,())) (
        none)))))))
abbrev oR:Type:=SX×W5×(Unit)
abbrev wU:Type:=(Unit)×W5×(Unit)
abbrev xH:Type:=(Unit)×W5×(Unit)
noncomputable def F0 (v1 v2:Int)(v3:cZ)(v4 v5 v6 v7 v8 v9 v10 v11:Int)(v12:Bool)(v13:cZ):Option (R3 oR wU xH):=
 cond (decide (0≤v1)) (
  cond ((decide (0≤v1))&&(decide (v1<(v13.length:Int)))) (
   ((f39 (rd bL v13 (ae v1)).2.1)).bind fun y14=>
   cond y14.2.2.1 (
    some (R3.ret ((),((v2,v3,()),(y14.1.1.1.1,y14.1.1.1.2,y14.1.1.2.1.1,y14.1.1.2.1.2,y14.1.1.2.2.1,y14.1.1.2.2.2.1,y14.1.1.2.2.2.2.1,y14.1.1.2.2.2.2.2,()),(true,()),(v13,()),((),(),(),(),(),(),(),(),(),(),(),(),(),(),(),(),(),(),(),(),(),(),(),(),(),(),(),(),(),()),()),()))) (
    some (R3.next (((),(),(al .i64 (v1-1)),()),((v2,v3,()),(v4,v5,v6,v7,v8,v9,v10,v11,()),(v12,()),(v13,()),((),(),(),(),(),(),(),(),(),(),(),(),(),(),(),(),(),(),(),(),(),(),(),(),(),(),(),(),(),()),()),())))) (
   none)) (
  some (R3.out ((),((v2,v3,()),(v4,v5,v6,v7,v8,v9,v10,v11,()),(v12,()),(v13,()),((),(),(),(),(),(),(),(),(),(),(),(),(),(),(),(),(),(),(),(),(),(),(),(),(),(),(),(),(),()),()),())))
noncomputable def w9 (z:oR):Option (R3 oR wU xH):=F0 z.1.2.2.1 z.2.1.1.1 z.2.1.1.2.1 z.2.1.2.1.1 z.2.1.2.1.2.1 z.2.1.2.1.2.2.1 z.2.1.2.1.2.2.2.1 z.2.1.2.1.2.2.2.2.1 z.2.1.2.1.2.2.2.2.2.1 z.2.1.2.1.2.2.2.2.2.2.1 z.2.1.2.1.2.2.2.2.2.2.2.1 z.2.1.2.2.1.1 z.2.1.2.2.2.1.1
noncomputable def f23 (v1:Int)(v2:cZ):Option ((uu×uu×Int×Int×Int×Int)×Bool×Unit):=
 ((f34 v1 v2)).bind fun y3=>
 cond (!y3.1) (
  some (((0,0),(0,0),0,0,0,0),false,())) (
  ((iter az w9 (((),(),(al .i64 ((v2.length:Int)-1)),()),((v1,v2,()),(0,0,0,0,0,0,0,0,()),(false,()),(v2,()),((),(),(),(),(),(),(),(),(),(),(),(),(),(),(),(),(),(),(),(),(),(),(),(),(),(),(),(),(),()),()),()))).bind fun r=>match r with
  | .inl y4=>
    some (((0,0),(0,0),0,0,0,0),false,())
  | .inr z5=>
    some (((z5.2.1.2.1.1,z5.2.1.2.1.2.1),(z5.2.1.2.1.2.2.1,z5.2.1.2.1.2.2.2.1),z5.2.1.2.1.2.2.2.2.1,z5.2.1.2.1.2.2.2.2.2.1,z5.2.1.2.1.2.2.2.2.2.2.1,z5.2.1.2.1.2.2.2.2.2.2.2.1),z5.2.1.2.2.1.1,()))
abbrev OM:Type:=(Unit×Int×Unit)×(vn×Unit)×(Unit)
abbrev VZ:Type:=pq×(vn×Unit)×(Unit)
abbrev U0:Type:=ct×(Unit)×(Unit)
noncomputable def OG (v1 v2:Int)(v3:cZ):Option (R3 OM VZ U0):=
 cond (decide (v1<(v3.length:Int))) (
  cond ((decide (0≤v1))&&(decide (v1<(v3.length:Int)))) (
   cond (decide (3000<(((rd bL v3 (ae v1)).2.1.length:Nat):Int))) (
    some (R3.ret ((false,()),(),()))) (
    some (R3.next (((),(al .i64 (v1+1)),()),((v2,v3,()),()),())))) (
   none)) (
  some (R3.out (((),()),((v2,v3,()),()),())))
noncomputable def xL (z:OM):Option (R3 OM VZ U0):=OG z.1.2.1 z.2.1.1.1 z.2.1.1.2.1
noncomputable def f17 (v1:Int)(v2:cZ):Option ct:=
 ((iter az xL (((),0,()),((v1,v2,()),()),()))).bind fun r=>match r with
 | .inl y3=>
   some ((decide ((y3.2.1.1.2.1.length:Int)≤14)),())
 | .inr z4=>
   some (z4.1.1,())
noncomputable def f37 (v1:Int)(v2:cZ)(v3:Int):Option Lu:=
 ((f34 v1 v2)).bind fun y4=>
 cond (!y4.1) (
  ((f95 v1 v2)).bind fun y5=>
  some ((y5.1.1,y5.1.2),1,())) (
  ((f96 v1 v2 v3)).bind fun y6=>
  cond (decide (y6.1=(-1))) (
   ((f95 v1 v2)).bind fun y7=>
   some ((y7.1.1,y7.1.2),5,())) (
   ((f95 v1 v2)).bind fun y8=>
   cond ((((decide (0≤y6.1))&&(decide (y6.1≤(al .i64 (y6.1+1)))))&&(decide ((al .i64 (y6.1+1))≤(y8.1.2.length:Int))))&&(decide ((0+(y8.1.2.length:Int))≤(y8.1.2.length:Int)))) (
    cond (decide (y6.1=(al .i64 (y6.1+1)))) (
     some ((y8.1.1,y8.1.2),0,())) (
     cond ((decide (0≤y6.1))&&(decide ((0+y6.1)≤(y8.1.2.length:Int)))) (
      cond (((decide (0≤(al .i64 (y6.1+1))))&&(decide ((al .i64 (y6.1+1))≤(((y8.1.2.length-0):Nat):Int))))&&(decide ((0+(((y8.1.2.length-0):Nat):Int))≤(y8.1.2.length:Int)))) (
       cond (decide (((0+(ae y6.1))+(aw (0+(ae (al .i64 (y6.1+1)))) (ap (0+(ae (((y8.1.2.length-0):Nat):Int))) y8.1.2)).length)≤y8.1.2.length)) (
        cond (((decide (0≤(((((0+(ae y6.1))+(aw (0+(ae (al .i64 (y6.1+1)))) (ap (0+(ae (((y8.1.2.length-0):Nat):Int))) y8.1.2)).length)-0):Nat):Int)))&&(decide ((((((0+(ae y6.1))+(aw (0+(ae (al .i64 (y6.1+1)))) (ap (0+(ae (((y8.1.2.length-0):Nat):Int))) y8.1.2)).length)-0):Nat):Int)≤(y8.1.2.length:Int))))&&(decide ((0+(y8.1.2.length:Int))≤(((((ap (0+(ae y6.1)) y8.1.2)++(aw (0+(ae (al .i64 (y6.1+1)))) (ap (0+(ae (((y8.1.2.length-0):Nat):Int))) y8.1.2)))++(aw ((0+(ae y6.1))+(aw (0+(ae (al .i64 (y6.1+1)))) (ap (0+(ae (((y8.1.2.length-0):Nat):Int))) y8.1.2)).length) y8.1.2)).length:Nat):Int)))) (
         some ((y8.1.1,(aw 0 (ap ((0+(ae y6.1))+(aw (0+(ae (al .i64 (y6.1+1)))) (ap (0+(ae (((y8.1.2.length-0):Nat):Int))) y8.1.2)).length) (((ap (0+(ae (((((0+(ae y6.1))+(aw (0+(ae (al .i64 (y6.1+1)))) (ap (0+(ae (((y8.1.2.length-0):Nat):Int))) y8.1.2)).length)-0):Nat):Int))) (((ap (0+(ae y6.1)) y8.1.2)++(aw (0+(ae (al .i64 (y6.1+1)))) (ap (0+(ae (((y8.1.2.length-0):Nat):Int))) y8.1.2)))++(aw ((0+(ae y6.1))+(aw (0+(ae (al .i64 (y6.1+1)))) (ap (0+(ae (((y8.1.2.length-0):Nat):Int))) y8.1.2)).length) y8.1.2)))++(bj ((0+(ae (y8.1.2.length:Int)))-(0+(ae (((((0+(ae y6.1))+(aw (0+(ae (al .i64 (y6.1+1)))) (ap (0+(ae (((y8.1.2.length-0):Nat):Int))) y8.1.2)).length)-0):Nat):Int)))) (0,[],0)))++(aw ((0+(ae (((((0+(ae y6.1))+(aw (0+(ae (al .i64 (y6.1+1)))) (ap (0+(ae (((y8.1.2.length-0):Nat):Int))) y8.1.2)).length)-0):Nat):Int)))+((0+(ae (y8.1.2.length:Int)))-(0+(ae (((((0+(ae y6.1))+(aw (0+(ae (al .i64 (y6.1+1)))) (ap (0+(ae (((y8.1.2.length-0):Nat):Int))) y8.1.2)).length)-0):Nat):Int))))) (((ap (0+(ae y6.1)) y8.1.2)++(aw (0+(ae (al .i64 (y6.1+1)))) (ap (0+(ae (((y8.1.2.length-0):Nat):Int))) y8.1.2)))++(aw ((0+(ae y6.1))+(aw (0+(ae (al .i64 (y6.1+1)))) (ap (0+(ae (((y8.1.2.length-0):Nat):Int))) y8.1.2)).length) y8.1.2))))))),0,())) (
         none)) (
        none)) (
       none)) (
      none))) (
    none)))
noncomputable def f38 (v1:Int)(v2:cZ)(v3 v4:Int):Option Lu:=
 ((f34 v1 v2)).bind fun y5=>
 cond (!y5.1) (
  ((f95 v1 v2)).bind fun y6=>
  some ((y6.1.1,y6.1.2),1,())) (
  ((f96 v1 v2 v3)).bind fun y7=>
  cond (decide (y7.1=(-1))) (
   ((f95 v1 v2)).bind fun y8=>
   some ((y8.1.1,y8.1.2),5,())) (
   ((f95 v1 v2)).bind fun y9=>
   cond ((decide (0≤y7.1))&&(decide (y7.1<(y9.1.2.length:Int)))) (
    cond (decide (v4<0)) (
     ((f95 v1 v2)).bind fun y10=>
     some ((y10.1.1,y10.1.2),1,())) (
     cond (decide ((ae y7.1)<y9.1.2.length)) (
      cond (decide ((((rd bL y9.1.2 (ae y7.1)).2.1.length:Nat):Int)<v4)) (
       ((f95 v1 v2)).bind fun y11=>
       some ((y11.1.1,y11.1.2),1,())) (
       cond (decide ((ae y7.1)<y9.1.2.length)) (
        cond (((decide (0≤v4))&&(decide (v4≤v4)))&&(decide (v4≤(((rd bL y9.1.2 (ae y7.1)).2.1.length:Nat):Int)))) (
         cond (decide ((ae y7.1)<y9.1.2.length)) (
          cond (decide ((ae y7.1)<(y9.1.2.set (ae y7.1) ((rd bL y9.1.2 (ae y7.1)).1,(aw 0 (ap (ae v4) (rd bL y9.1.2 (ae y7.1)).2.1)),(rd bL y9.1.2 (ae y7.1)).2.2)).length)) (
           some ((y9.1.1,((y9.1.2.set (ae y7.1) ((rd bL y9.1.2 (ae y7.1)).1,(aw 0 (ap (ae v4) (rd bL y9.1.2 (ae y7.1)).2.1)),(rd bL y9.1.2 (ae y7.1)).2.2)).set (ae y7.1) ((rd bL (y9.1.2.set (ae y7.1) ((rd bL y9.1.2 (ae y7.1)).1,(aw 0 (ap (ae v4) (rd bL y9.1.2 (ae y7.1)).2.1)),(rd bL y9.1.2 (ae y7.1)).2.2)) (ae y7.1)).1,(rd bL (y9.1.2.set (ae y7.1) ((rd bL y9.1.2 (ae y7.1)).1,(aw 0 (ap (ae v4) (rd bL y9.1.2 (ae y7.1)).2.1)),(rd bL y9.1.2 (ae y7.1)).2.2)) (ae y7.1)).2.1,v4))),0,())) (
           none)) (
          none)) (
         none)) (
        none))) (
      none))) (
    none)))
abbrev dn:Type:=SX×aaR×cZ×aQ×br×aQ×aQ×br×aQ×aR×Unit
abbrev vH:Type:=(Unit)×aaR×cZ×aQ×br×aQ×aQ×br×aQ×aR×Unit
abbrev pE:Type:=(Unit)×(vn×LQ×RC×E8×pq×bl×(cZ×Unit)×DT9×Unit)×cZ×aQ×br×aQ×aR×Unit
noncomputable def oQ (v1 v2:Int)(v3:cZ)(v4 v5 v6 v7 v8 v9 v10 v11 v12 v13 v14 v15 v16 v17:Int)(v18:Bool)(v19 v20 v21 v22 v23 v24 v25 v26 v27 v28 v29 v30:Int)(v31:Bool)(v32 v33 v34 v35:Int)(v36 v37:cZ)(v38:aQ)(v39:br)(v40 v41:aQ)(v42:br)(v43:aQ)(v44:aR):Option (R3 dn vH pE):=
 cond (decide (0≤v1)) (
  cond ((decide (0≤v1))&&(decide (v1<(v36.length:Int)))) (
   ((f36 (rd bL v36 (ae v1)).2.1)).bind fun y45=>
   cond y45.2.2.1 (
    some (R3.ret ((),((v2,v3,()),(v4,(),v5,v6,()),(v7,v8,v9,v10,v11,v12,v13,v14,v15,v16,v17,v18,v19,(),(),(),()),(y45.1.1.1.1.1,y45.1.1.1.1.2,y45.1.1.1.2.1.1,y45.1.1.1.2.1.2,y45.1.1.1.2.2.1,y45.1.1.1.2.2.2.1,y45.1.1.1.2.2.2.2.1,y45.1.1.1.2.2.2.2.2,y45.1.1.2.1.1,y45.1.1.2.1.2.1,y45.1.1.2.1.2.2.1,y45.1.1.2.1.2.2.2,y45.1.1.2.2.1,y45.1.1.2.2.2.1,y45.1.1.2.2.2.2.1,y45.1.1.2.2.2.2.2,y45.1.2.1,y45.1.2.2,()),((),()),((rd bL v36 (ae v1)).1,()),(v36,()),((),(),(),(),(),(),(),(),(),(),(),(),(),(),(),(),(),(),(),(),(),(),(),(),(),(),(),(),(),(),(),(),(),(),(),(),(),(),(),(),(),(),(),(),(),(),(),(),(),(),(),(),(),(),(),(),(),(),(),(),(),(),(),(),(),(),(),(),(),(),(),(),(),()),()),v37,v38,v39,v40,v44,()))) (
    cond ((decide (((v44.length+1) * 8)≤140737488355328))&&(decide ((v44.length+1)≤9223372036854775807))) (
     some (R3.next (((),(),(al .i64 (v1-1)),()),((v2,v3,()),(v4,(),v5,v6,()),(v7,v8,v9,v10,v11,v12,v13,v14,v15,v16,v17,v18,v19,(),(),(),()),(v20,v21,v22,v23,v24,v25,v26,v27,v28,v29,v30,v31,v32,(),(),(),v33,v34,()),((),()),(v35,()),(v36,()),((),(),(),(),(),(),(),(),(),(),(),(),(),(),(),(),(),(),(),(),(),(),(),(),(),(),(),(),(),(),(),(),(),(),(),(),(),(),(),(),(),(),(),(),(),(),(),(),(),(),(),(),(),(),(),(),(),(),(),(),(),(),(),(),(),(),(),(),(),(),(),(),(),()),()),v37,v38,v39,v40,v41,v42,v43,(v44++[(rd bL v36 (ae v1)).1]),()))) (
     none))) (
   none)) (
  some (R3.out ((),((v2,v3,()),(v4,(),v5,v6,()),(v7,v8,v9,v10,v11,v12,v13,v14,v15,v16,v17,v18,v19,(),(),(),()),(v20,v21,v22,v23,v24,v25,v26,v27,v28,v29,v30,v31,v32,(),(),(),v33,v34,()),((),()),(v35,()),(v36,()),((),(),(),(),(),(),(),(),(),(),(),(),(),(),(),(),(),(),(),(),(),(),(),(),(),(),(),(),(),(),(),(),(),(),(),(),(),(),(),(),(),(),(),(),(),(),(),(),(),(),(),(),(),(),(),(),(),(),(),(),(),(),(),(),(),(),(),(),(),(),(),(),(),()),()),v37,v38,v39,v40,v41,v42,v43,v44,())))
noncomputable def bM (z:dn):Option (R3 dn vH pE):=oQ z.1.2.2.1 z.2.1.1.1 z.2.1.1.2.1 z.2.1.2.1.1 z.2.1.2.1.2.2.1 z.2.1.2.1.2.2.2.1 z.2.1.2.2.1.1 z.2.1.2.2.1.2.1 z.2.1.2.2.1.2.2.1 z.2.1.2.2.1.2.2.2.1 z.2.1.2.2.1.2.2.2.2.1 z.2.1.2.2.1.2.2.2.2.2.1 z.2.1.2.2.1.2.2.2.2.2.2.1 z.2.1.2.2.1.2.2.2.2.2.2.2.1 z.2.1.2.2.1.2.2.2.2.2.2.2.2.1 z.2.1.2.2.1.2.2.2.2.2.2.2.2.2.1 z.2.1.2.2.1.2.2.2.2.2.2.2.2.2.2.1 z.2.1.2.2.1.2.2.2.2.2.2.2.2.2.2.2.1 z.2.1.2.2.1.2.2.2.2.2.2.2.2.2.2.2.2.1 z.2.1.2.2.2.1.1 z.2.1.2.2.2.1.2.1 z.2.1.2.2.2.1.2.2.1 z.2.1.2.2.2.1.2.2.2.1 z.2.1.2.2.2.1.2.2.2.2.1 z.2.1.2.2.2.1.2.2.2.2.2.1 z.2.1.2.2.2.1.2.2.2.2.2.2.1 z.2.1.2.2.2.1.2.2.2.2.2.2.2.1 z.2.1.2.2.2.1.2.2.2.2.2.2.2.2.1 z.2.1.2.2.2.1.2.2.2.2.2.2.2.2.2.1 z.2.1.2.2.2.1.2.2.2.2.2.2.2.2.2.2.1 z.2.1.2.2.2.1.2.2.2.2.2.2.2.2.2.2.2.1 z.2.1.2.2.2.1.2.2.2.2.2.2.2.2.2.2.2.2.1 z.2.1.2.2.2.1.2.2.2.2.2.2.2.2.2.2.2.2.2.2.2.2.1 z.2.1.2.2.2.1.2.2.2.2.2.2.2.2.2.2.2.2.2.2.2.2.2.1 z.2.1.2.2.2.2.2.1.1 z.2.1.2.2.2.2.2.2.1.1 z.2.2.1 z.2.2.2.1 z.2.2.2.2.1 z.2.2.2.2.2.1 z.2.2.2.2.2.2.1 z.2.2.2.2.2.2.2.1 z.2.2.2.2.2.2.2.2.1 z.2.2.2.2.2.2.2.2.2.1
abbrev rZ:Type:=(Unit×Unit×Unit×Unit×Unit×Int×Int×Unit)×(vn×LQ×RC×E8×bl×Unit)×aR×cZ×aQ×br×aQ×Unit
abbrev FU:Type:=Wx×(vn×LQ×RC×E8×bl×Unit)×cZ×aQ×br×aQ×Unit
abbrev Pg:Type:=Unit×Unit×Unit
noncomputable def Hi (v1 v2 v3:Int)(v4:cZ)(v5 v6 v7 v8 v9 v10 v11 v12 v13 v14 v15 v16 v17 v18:Int)(v19:Bool)(v20 v21 v22 v23 v24 v25 v26 v27 v28 v29 v30 v31:Int)(v32:Bool)(v33:Int)(v34:aQ)(v35:br)(v36:aQ)(v37 v38 v39:Int)(v40:aR)(v41:cZ)(v42:aQ)(v43:br)(v44:aQ):Option (R3 rZ FU Pg):=
 cond (decide (v2<v1)) (
  cond ((decide (0≤v2))&&(decide (v2<(v40.length:Int)))) (
   cond (decide ((ae v2)<v40.length)) (
    ((f37 v3 v4 (rd aW v40 (ae v2)))).bind fun y45=>
    some (R3.next (((),(),(),(),(),v1,(al .i64 (v2+1)),()),((y45.1.1,y45.1.2,()),(v5,(),v6,v7,()),(v8,v9,v10,v11,v12,v13,v14,v15,v16,v17,v18,v19,v20,(),(),(),()),(v21,v22,v23,v24,v25,v26,v27,v28,v29,v30,v31,v32,v33,v34,v35,v36,v37,v38,()),(v39,()),()),v40,v41,v42,v43,v44,()))) (
    none)) (
   none)) (
  some (R3.out (((),(),(),(),(),()),((v3,v4,()),(v5,(),v6,v7,()),(v8,v9,v10,v11,v12,v13,v14,v15,v16,v17,v18,v19,v20,(),(),(),()),(v21,v22,v23,v24,v25,v26,v27,v28,v29,v30,v31,v32,v33,v34,v35,v36,v37,v38,()),(v39,()),()),v41,v42,v43,v44,())))
noncomputable def gU (z:rZ):Option (R3 rZ FU Pg):=Hi z.1.2.2.2.2.2.1 z.1.2.2.2.2.2.2.1 z.2.1.1.1 z.2.1.1.2.1 z.2.1.2.1.1 z.2.1.2.1.2.2.1 z.2.1.2.1.2.2.2.1 z.2.1.2.2.1.1 z.2.1.2.2.1.2.1 z.2.1.2.2.1.2.2.1 z.2.1.2.2.1.2.2.2.1 z.2.1.2.2.1.2.2.2.2.1 z.2.1.2.2.1.2.2.2.2.2.1 z.2.1.2.2.1.2.2.2.2.2.2.1 z.2.1.2.2.1.2.2.2.2.2.2.2.1 z.2.1.2.2.1.2.2.2.2.2.2.2.2.1 z.2.1.2.2.1.2.2.2.2.2.2.2.2.2.1 z.2.1.2.2.1.2.2.2.2.2.2.2.2.2.2.1 z.2.1.2.2.1.2.2.2.2.2.2.2.2.2.2.2.1 z.2.1.2.2.1.2.2.2.2.2.2.2.2.2.2.2.2.1 z.2.1.2.2.2.1.1 z.2.1.2.2.2.1.2.1 z.2.1.2.2.2.1.2.2.1 z.2.1.2.2.2.1.2.2.2.1 z.2.1.2.2.2.1.2.2.2.2.1 z.2.1.2.2.2.1.2.2.2.2.2.1 z.2.1.2.2.2.1.2.2.2.2.2.2.1 z.2.1.2.2.2.1.2.2.2.2.2.2.2.1 z.2.1.2.2.2.1.2.2.2.2.2.2.2.2.1 z.2.1.2.2.2.1.2.2.2.2.2.2.2.2.2.1 z.2.1.2.2.2.1.2.2.2.2.2.2.2.2.2.2.1 z.2.1.2.2.2.1.2.2.2.2.2.2.2.2.2.2.2.1 z.2.1.2.2.2.1.2.2.2.2.2.2.2.2.2.2.2.2.1 z.2.1.2.2.2.1.2.2.2.2.2.2.2.2.2.2.2.2.2.1 z.2.1.2.2.2.1.2.2.2.2.2.2.2.2.2.2.2.2.2.2.1 z.2.1.2.2.2.1.2.2.2.2.2.2.2.2.2.2.2.2.2.2.2.1 z.2.1.2.2.2.1.2.2.2.2.2.2.2.2.2.2.2.2.2.2.2.2.1 z.2.1.2.2.2.1.2.2.2.2.2.2.2.2.2.2.2.2.2.2.2.2.2.1 z.2.1.2.2.2.2.1.1 z.2.2.1 z.2.2.2.1 z.2.2.2.2.1 z.2.2.2.2.2.1 z.2.2.2.2.2.2.1
noncomputable def f18 (v1:Int)(v2:cZ):Option (Qi×yb×Int×Unit):=
 ((f34 v1 v2)).bind fun y3=>
 cond (!y3.1) (
  some (((0,[]),0,0),(((0,0),(0,0),0,0,0,0),(0,0,0,false),0,[],[],[]),1,())) (
  ((iter az bM (((),(),(al .i64 ((v2.length:Int)-1)),()),((v1,v2,()),(0,(),0,0,()),(0,0,0,0,0,0,0,0,0,0,0,false,0,(),(),(),()),(0,0,0,0,0,0,0,0,0,0,0,false,0,(),(),(),0,0,()),((),()),(0,()),(v2,()),((),(),(),(),(),(),(),(),(),(),(),(),(),(),(),(),(),(),(),(),(),(),(),(),(),(),(),(),(),(),(),(),(),(),(),(),(),(),(),(),(),(),(),(),(),(),(),(),(),(),(),(),(),(),(),(),(),(),(),(),(),(),(),(),(),(),(),(),(),(),(),(),(),()),()),[],[],[],[],[],[],[],[],()))).bind fun r=>match r with
  | .inl y4=>
    cond (decide (y4.2.1.2.2.2.2.2.1.1=0)) (
     some (((0,[]),0,0),(((0,0),(0,0),0,0,0,0),(0,0,0,false),0,[],[],[]),5,())) (
     none)
  | .inr z5=>
    cond (decide (z5.2.1.2.2.2.2.2.1.1=0)) (
     some (((0,[]),0,0),(((0,0),(0,0),0,0,0,0),(0,0,0,false),0,[],[],[]),5,())) (
     ((iter az gU (((),(),(),(),(),(z5.2.2.2.2.2.2.1.length:Int),0,()),((z5.2.1.1.1,z5.2.1.1.2.1,()),(z5.2.1.2.1.1,(),z5.2.1.2.1.2.2.1,z5.2.1.2.1.2.2.2.1,()),(z5.2.1.2.2.1.1,z5.2.1.2.2.1.2.1,z5.2.1.2.2.1.2.2.1,z5.2.1.2.2.1.2.2.2.1,z5.2.1.2.2.1.2.2.2.2.1,z5.2.1.2.2.1.2.2.2.2.2.1,z5.2.1.2.2.1.2.2.2.2.2.2.1,z5.2.1.2.2.1.2.2.2.2.2.2.2.1,z5.2.1.2.2.1.2.2.2.2.2.2.2.2.1,z5.2.1.2.2.1.2.2.2.2.2.2.2.2.2.1,z5.2.1.2.2.1.2.2.2.2.2.2.2.2.2.2.1,z5.2.1.2.2.1.2.2.2.2.2.2.2.2.2.2.2.1,z5.2.1.2.2.1.2.2.2.2.2.2.2.2.2.2.2.2.1,(),(),(),()),(z5.2.1.2.2.2.1.1,z5.2.1.2.2.2.1.2.1,z5.2.1.2.2.2.1.2.2.1,z5.2.1.2.2.2.1.2.2.2.1,z5.2.1.2.2.2.1.2.2.2.2.1,z5.2.1.2.2.2.1.2.2.2.2.2.1,z5.2.1.2.2.2.1.2.2.2.2.2.2.1,z5.2.1.2.2.2.1.2.2.2.2.2.2.2.1,z5.2.1.2.2.2.1.2.2.2.2.2.2.2.2.1,z5.2.1.2.2.2.1.2.2.2.2.2.2.2.2.2.1,z5.2.1.2.2.2.1.2.2.2.2.2.2.2.2.2.2.1,z5.2.1.2.2.2.1.2.2.2.2.2.2.2.2.2.2.2.1,z5.2.1.2.2.2.1.2.2.2.2.2.2.2.2.2.2.2.2.1,z5.2.1.2.2.2.1.2.2.2.2.2.2.2.2.2.2.2.2.2.1,z5.2.1.2.2.2.1.2.2.2.2.2.2.2.2.2.2.2.2.2.2.1,z5.2.1.2.2.2.1.2.2.2.2.2.2.2.2.2.2.2.2.2.2.2.1,z5.2.1.2.2.2.1.2.2.2.2.2.2.2.2.2.2.2.2.2.2.2.2.1,z5.2.1.2.2.2.1.2.2.2.2.2.2.2.2.2.2.2.2.2.2.2.2.2.1,()),(z5.2.1.2.2.2.2.2.1.1,()),()),z5.2.2.2.2.2.2.1,z5.2.2.1,z5.2.2.2.1,z5.2.2.2.2.1,z5.2.2.2.2.2.1,()))).bind fun r=>match r with
     | .inl y6=>
       ((f38 y6.2.1.1.1 y6.2.1.1.2.1 y6.2.1.2.2.2.2.1.1 y6.2.1.2.2.2.1.2.2.2.2.2.2.2.2.2.2.2.2.2.2.2.2.2.1)).bind fun y8=>
       some (((y8.1.1,y8.1.2),y6.2.1.2.2.2.2.1.1,y6.2.1.2.2.2.1.2.2.2.2.2.2.2.2.2.2.2.2.2.2.2.2.1),(((y6.2.1.2.2.2.1.1,y6.2.1.2.2.2.1.2.1),(y6.2.1.2.2.2.1.2.2.1,y6.2.1.2.2.2.1.2.2.2.1),y6.2.1.2.2.2.1.2.2.2.2.1,y6.2.1.2.2.2.1.2.2.2.2.2.1,y6.2.1.2.2.2.1.2.2.2.2.2.2.1,y6.2.1.2.2.2.1.2.2.2.2.2.2.2.1),(y6.2.1.2.2.2.1.2.2.2.2.2.2.2.2.1,y6.2.1.2.2.2.1.2.2.2.2.2.2.2.2.2.1,y6.2.1.2.2.2.1.2.2.2.2.2.2.2.2.2.2.1,y6.2.1.2.2.2.1.2.2.2.2.2.2.2.2.2.2.2.1),y6.2.1.2.2.2.1.2.2.2.2.2.2.2.2.2.2.2.2.1,y6.2.1.2.2.2.1.2.2.2.2.2.2.2.2.2.2.2.2.2.1,y6.2.1.2.2.2.1.2.2.2.2.2.2.2.2.2.2.2.2.2.2.1,y6.2.1.2.2.2.1.2.2.2.2.2.2.2.2.2.2.2.2.2.2.2.1),0,())
     | .inr z7=>
       none))
abbrev P4:Type:=(br×Unit×Int×Int×Int×Unit)×((Int×Int×Int×Int×Int×Unit)×Unit)×(Unit)
abbrev Vd:Type:=IX×(Unit)×(Unit)
abbrev UT:Type:=Unit×Unit×Unit
noncomputable def Ri (v1:br)(v2 v3 v4 v5 v6 v7 v8 v9:Int):Option (R3 P4 Vd UT):=
 cond (decide (v4<(v1.length:Int))) (
  cond ((decide (0≤v4))&&(decide (v4<(v1.length:Int)))) (
   cond (decide ((rd aZ v1 (ae v4)).2.2.2.2=(-1))) (
    cond ((decide (0≤v4))&&(decide (v4<(v1.length:Int)))) (
     cond ((decide ((rd aZ v1 (ae v4)).1=v5))&&((decide ((rd aZ v1 (ae v4)).2.1=v6))&&((decide ((rd aZ v1 (ae v4)).2.2.1=v7))&&((decide ((rd aZ v1 (ae v4)).2.2.2.1=v8))&&((decide ((rd aZ v1 (ae v4)).2.2.2.2=(-1)))&&true))))) (
      some (R3.next ((v1,(),(al .i64 (v2+1)),(al .i64 (v3+1)),(al .i64 (v4+1)),()),((v5,v6,v7,v8,v9,()),()),()))) (
      some (R3.next ((v1,(),v2,(al .i64 (v3+1)),(al .i64 (v4+1)),()),((v5,v6,v7,v8,v9,()),()),())))) (
     none)) (
    some (R3.next ((v1,(),v2,v3,(al .i64 (v4+1)),()),((v5,v6,v7,v8,v9,()),()),())))) (
   none)) (
  some (R3.out ((v2,v3,()),(),())))
noncomputable def yA (z:P4):Option (R3 P4 Vd UT):=Ri z.1.1 z.1.2.2.1 z.1.2.2.2.1 z.1.2.2.2.2.1 z.2.1.1.1 z.2.1.1.2.1 z.2.1.1.2.2.1 z.2.1.1.2.2.2.1 z.2.1.1.2.2.2.2.1
noncomputable def f20 (v1:br)(v2 v3 v4 v5 v6:Int):Option IX:=
 ((iter az yA ((v1,(),0,0,0,()),((v2,v3,v4,v5,v6,()),()),()))).bind fun r=>match r with
 | .inl y7=>
   some (y7.1.1,y7.1.2.1,())
 | .inr z8=>
   none
abbrev Ka:Type:=(Unit×cZ×Int×Int×Unit)×(l9×sx×Unit)×br×Unit
abbrev ko:Type:=(Unit×Unit×Unit×Int×Int×Unit)×aah×(Unit)
abbrev l5:Type:=Th×Wh×(Unit)
abbrev tG:Type:=(Unit)×Wh×(Unit)
abbrev tj:Type:=bl×Wh×(Unit)
noncomputable def mT (v1:br)(v2 v3:Int)(v4:sx)(v5:br)(v6:Int)(v7:aR)(v8 v9 v10 v11 v12 v13 v14 v15 v16 v17 v18 v19:Int)(v20:Bool)(v21:Int)(v22:aQ)(v23:br)(v24:aQ)(v25 v26 v27 v28 v29 v30 v31 v32 v33 v34 v35:Int)(v36:Bool)(v37:Int)(v38:aQ)(v39:br)(v40:aQ)(v41 v42 v43 v44 v45:Int):Option (R3 l5 tG tj):=
 cond (decide (v3<v2)) (
  cond ((decide (0≤v3))&&(decide (v3<(v1.length:Int)))) (
   ((f75 v41 v42 v43 v44 v45)).bind fun y46=>
   cond ((decide (y46.1.1=(rd aZ v1 (ae v3)).1))&&((decide (y46.1.2.1=(rd aZ v1 (ae v3)).2.1))&&((decide (y46.1.2.2=(rd aZ v1 (ae v3)).2.2.1))&&true))) (
    cond (decide (v44=(rd aZ v1 (ae v3)).2.2.2.1)) (
     some (R3.ret ((v3,()),(((),(),()),v4,v5,(v6,v7,v8,()),(v9,v10,v11,v12,v13,v14,v15,v16,v17,v18,v19,v20,v21,v22,v23,v24,()),(v25,v26,v27,v28,v29,v30,v31,v32,v33,v34,v35,v36,v37,v38,v39,v40,()),(v41,v42,v43,v44,v45,()),()),()))) (
     some (R3.next ((v1,(),v2,(al .i64 (v3+1)),()),(((),(),()),v4,v5,(v6,v7,v8,()),(v9,v10,v11,v12,v13,v14,v15,v16,v17,v18,v19,v20,v21,v22,v23,v24,()),(v25,v26,v27,v28,v29,v30,v31,v32,v33,v34,v35,v36,v37,v38,v39,v40,()),(v41,v42,v43,v44,v45,()),()),())))) (
    some (R3.next ((v1,(),v2,(al .i64 (v3+1)),()),(((),(),()),v4,v5,(v6,v7,v8,()),(v9,v10,v11,v12,v13,v14,v15,v16,v17,v18,v19,v20,v21,v22,v23,v24,()),(v25,v26,v27,v28,v29,v30,v31,v32,v33,v34,v35,v36,v37,v38,v39,v40,()),(v41,v42,v43,v44,v45,()),()),())))) (
   none)) (
  some (R3.out ((),(((),(),()),v4,v5,(v6,v7,v8,()),(v9,v10,v11,v12,v13,v14,v15,v16,v17,v18,v19,v20,v21,v22,v23,v24,()),(v25,v26,v27,v28,v29,v30,v31,v32,v33,v34,v35,v36,v37,v38,v39,v40,()),(v41,v42,v43,v44,v45,()),()),())))
noncomputable def cI (z:l5):Option (R3 l5 tG tj):=mT z.1.1 z.1.2.2.1 z.1.2.2.2.1 z.2.1.2.1 z.2.1.2.2.1 z.2.1.2.2.2.1.1 z.2.1.2.2.2.1.2.1 z.2.1.2.2.2.1.2.2.1 z.2.1.2.2.2.2.1.1 z.2.1.2.2.2.2.1.2.1 z.2.1.2.2.2.2.1.2.2.1 z.2.1.2.2.2.2.1.2.2.2.1 z.2.1.2.2.2.2.1.2.2.2.2.1 z.2.1.2.2.2.2.1.2.2.2.2.2.1 z.2.1.2.2.2.2.1.2.2.2.2.2.2.1 z.2.1.2.2.2.2.1.2.2.2.2.2.2.2.1 z.2.1.2.2.2.2.1.2.2.2.2.2.2.2.2.1 z.2.1.2.2.2.2.1.2.2.2.2.2.2.2.2.2.1 z.2.1.2.2.2.2.1.2.2.2.2.2.2.2.2.2.2.1 z.2.1.2.2.2.2.1.2.2.2.2.2.2.2.2.2.2.2.1 z.2.1.2.2.2.2.1.2.2.2.2.2.2.2.2.2.2.2.2.1 z.2.1.2.2.2.2.1.2.2.2.2.2.2.2.2.2.2.2.2.2.1 z.2.1.2.2.2.2.1.2.2.2.2.2.2.2.2.2.2.2.2.2.2.1 z.2.1.2.2.2.2.1.2.2.2.2.2.2.2.2.2.2.2.2.2.2.2.1 z.2.1.2.2.2.2.2.1.1 z.2.1.2.2.2.2.2.1.2.1 z.2.1.2.2.2.2.2.1.2.2.1 z.2.1.2.2.2.2.2.1.2.2.2.1 z.2.1.2.2.2.2.2.1.2.2.2.2.1 z.2.1.2.2.2.2.2.1.2.2.2.2.2.1 z.2.1.2.2.2.2.2.1.2.2.2.2.2.2.1 z.2.1.2.2.2.2.2.1.2.2.2.2.2.2.2.1 z.2.1.2.2.2.2.2.1.2.2.2.2.2.2.2.2.1 z.2.1.2.2.2.2.2.1.2.2.2.2.2.2.2.2.2.1 z.2.1.2.2.2.2.2.1.2.2.2.2.2.2.2.2.2.2.1 z.2.1.2.2.2.2.2.1.2.2.2.2.2.2.2.2.2.2.2.1 z.2.1.2.2.2.2.2.1.2.2.2.2.2.2.2.2.2.2.2.2.1 z.2.1.2.2.2.2.2.1.2.2.2.2.2.2.2.2.2.2.2.2.2.1 z.2.1.2.2.2.2.2.1.2.2.2.2.2.2.2.2.2.2.2.2.2.2.1 z.2.1.2.2.2.2.2.1.2.2.2.2.2.2.2.2.2.2.2.2.2.2.2.1 z.2.1.2.2.2.2.2.2.1.1 z.2.1.2.2.2.2.2.2.1.2.1 z.2.1.2.2.2.2.2.2.1.2.2.1 z.2.1.2.2.2.2.2.2.1.2.2.2.1 z.2.1.2.2.2.2.2.2.1.2.2.2.2.1
abbrev xd:Type:=l9×aah×(Unit)
abbrev w6:Type:=Unit×Wx×Unit
noncomputable def pH (v1 v2:Int)(v3:sx)(v4:br)(v5:Int)(v6:aR)(v7 v8 v9 v10 v11 v12 v13 v14 v15 v16 v17 v18:Int)(v19:Bool)(v20:Int)(v21:aQ)(v22:br)(v23:aQ)(v24 v25 v26 v27 v28 v29 v30 v31 v32 v33 v34:Int)(v35:Bool)(v36:Int)(v37:aQ)(v38:br)(v39:aQ):Option (R3 ko xd w6):=
 cond (decide (v2<v1)) (
  cond ((decide (0≤v2))&&(decide (v2<(v4.length:Int)))) (
   cond (decide ((ae v2)<v4.length)) (
    cond (decide ((rd aZ v4 (ae v2)).2.2.2.2=(-1))) (
     cond ((decide (0≤v2))&&(decide (v2<(v4.length:Int)))) (
      cond (decide ((ae v2)<v4.length)) (
       ((iter az cI ((v38,(),(v38.length:Int),0,()),(((),(),()),v3,v4,(v5,v6,v7,()),(v8,v9,v10,v11,v12,v13,v14,v15,v16,v17,v18,v19,v20,v21,v22,v23,()),(v24,v25,v26,v27,v28,v29,v30,v31,v32,v33,v34,v35,v36,v37,v38,v39,()),((rd aZ v4 (ae v2)).1,(rd aZ v4 (ae v2)).2.1,(rd aZ v4 (ae v2)).2.2.1,(rd aZ v4 (ae v2)).2.2.2.1,(rd aZ v4 (ae v2)).2.2.2.2,()),()),()))).bind fun r=>match r with
       | .inl y40=>
         cond ((decide (0≤v2))&&(decide (v2<(y40.2.1.2.2.1.length:Int)))) (
          cond (decide ((ae v2)<y40.2.1.2.2.1.length)) (
           ((f75 (rd aZ y40.2.1.2.2.1 (ae v2)).1 (rd aZ y40.2.1.2.2.1 (ae v2)).2.1 (rd aZ y40.2.1.2.2.1 (ae v2)).2.2.1 (rd aZ y40.2.1.2.2.1 (ae v2)).2.2.2.1 (rd aZ y40.2.1.2.2.1 (ae v2)).2.2.2.2)).bind fun y42=>
           cond (bg y40.2.1.2.1 (y42.1.1,y42.1.2.1,y42.1.2.2)) (
            cond ((decide (0≤(aM y40.2.1.2.1 (y42.1.1,y42.1.2.1,y42.1.2.2))))&&(decide ((aM y40.2.1.2.1 (y42.1.1,y42.1.2.1,y42.1.2.2))<(y40.2.1.2.2.1.length:Int)))) (
             cond (decide ((ae (aM y40.2.1.2.1 (y42.1.1,y42.1.2.1,y42.1.2.2)))<y40.2.1.2.2.1.length)) (
              some (R3.next (((),(),(),v1,(al .i64 (v2+1)),()),(((),(),()),(dN y40.2.1.2.1 (y42.1.1,y42.1.2.1,y42.1.2.2)),(y40.2.1.2.2.1.set (ae (aM y40.2.1.2.1 (y42.1.1,y42.1.2.1,y42.1.2.2))) ((rd aZ y40.2.1.2.2.1 (ae (aM y40.2.1.2.1 (y42.1.1,y42.1.2.1,y42.1.2.2)))).1,(rd aZ y40.2.1.2.2.1 (ae (aM y40.2.1.2.1 (y42.1.1,y42.1.2.1,y42.1.2.2)))).2.1,(rd aZ y40.2.1.2.2.1 (ae (aM y40.2.1.2.1 (y42.1.1,y42.1.2.1,y42.1.2.2)))).2.2.1,(rd aZ y40.2.1.2.2.1 (ae (aM y40.2.1.2.1 (y42.1.1,y42.1.2.1,y42.1.2.2)))).2.2.2.1,y40.2.1.2.2.2.2.2.1.2.2.2.2.2.2.2.2.2.2.2.2.1)),(y40.2.1.2.2.2.1.1,y40.2.1.2.2.2.1.2.1,y40.2.1.2.2.2.1.2.2.1,()),(y40.2.1.2.2.2.2.1.1,y40.2.1.2.2.2.2.1.2.1,y40.2.1.2.2.2.2.1.2.2.1,y40.2.1.2.2.2.2.1.2.2.2.1,y40.2.1.2.2.2.2.1.2.2.2.2.1,y40.2.1.2.2.2.2.1.2.2.2.2.2.1,y40.2.1.2.2.2.2.1.2.2.2.2.2.2.1,y40.2.1.2.2.2.2.1.2.2.2.2.2.2.2.1,y40.2.1.2.2.2.2.1.2.2.2.2.2.2.2.2.1,y40.2.1.2.2.2.2.1.2.2.2.2.2.2.2.2.2.1,y40.2.1.2.2.2.2.1.2.2.2.2.2.2.2.2.2.2.1,y40.2.1.2.2.2.2.1.2.2.2.2.2.2.2.2.2.2.2.1,y40.2.1.2.2.2.2.1.2.2.2.2.2.2.2.2.2.2.2.2.1,y40.2.1.2.2.2.2.1.2.2.2.2.2.2.2.2.2.2.2.2.2.1,y40.2.1.2.2.2.2.1.2.2.2.2.2.2.2.2.2.2.2.2.2.2.1,y40.2.1.2.2.2.2.1.2.2.2.2.2.2.2.2.2.2.2.2.2.2.2.1,()),(y40.2.1.2.2.2.2.2.1.1,y40.2.1.2.2.2.2.2.1.2.1,y40.2.1.2.2.2.2.2.1.2.2.1,y40.2.1.2.2.2.2.2.1.2.2.2.1,y40.2.1.2.2.2.2.2.1.2.2.2.2.1,y40.2.1.2.2.2.2.2.1.2.2.2.2.2.1,y40.2.1.2.2.2.2.2.1.2.2.2.2.2.2.1,y40.2.1.2.2.2.2.2.1.2.2.2.2.2.2.2.1,y40.2.1.2.2.2.2.2.1.2.2.2.2.2.2.2.2.1,y40.2.1.2.2.2.2.2.1.2.2.2.2.2.2.2.2.2.1,y40.2.1.2.2.2.2.2.1.2.2.2.2.2.2.2.2.2.2.1,y40.2.1.2.2.2.2.2.1.2.2.2.2.2.2.2.2.2.2.2.1,y40.2.1.2.2.2.2.2.1.2.2.2.2.2.2.2.2.2.2.2.2.1,y40.2.1.2.2.2.2.2.1.2.2.2.2.2.2.2.2.2.2.2.2.2.1,y40.2.1.2.2.2.2.2.1.2.2.2.2.2.2.2.2.2.2.2.2.2.2.1,y40.2.1.2.2.2.2.2.1.2.2.2.2.2.2.2.2.2.2.2.2.2.2.2.1,()),()),()))) (
              none)) (
             none)) (
            some (R3.next (((),(),(),v1,(al .i64 (v2+1)),()),(((),(),()),y40.2.1.2.1,y40.2.1.2.2.1,(y40.2.1.2.2.2.1.1,y40.2.1.2.2.2.1.2.1,y40.2.1.2.2.2.1.2.2.1,()),(y40.2.1.2.2.2.2.1.1,y40.2.1.2.2.2.2.1.2.1,y40.2.1.2.2.2.2.1.2.2.1,y40.2.1.2.2.2.2.1.2.2.2.1,y40.2.1.2.2.2.2.1.2.2.2.2.1,y40.2.1.2.2.2.2.1.2.2.2.2.2.1,y40.2.1.2.2.2.2.1.2.2.2.2.2.2.1,y40.2.1.2.2.2.2.1.2.2.2.2.2.2.2.1,y40.2.1.2.2.2.2.1.2.2.2.2.2.2.2.2.1,y40.2.1.2.2.2.2.1.2.2.2.2.2.2.2.2.2.1,y40.2.1.2.2.2.2.1.2.2.2.2.2.2.2.2.2.2.1,y40.2.1.2.2.2.2.1.2.2.2.2.2.2.2.2.2.2.2.1,y40.2.1.2.2.2.2.1.2.2.2.2.2.2.2.2.2.2.2.2.1,y40.2.1.2.2.2.2.1.2.2.2.2.2.2.2.2.2.2.2.2.2.1,y40.2.1.2.2.2.2.1.2.2.2.2.2.2.2.2.2.2.2.2.2.2.1,y40.2.1.2.2.2.2.1.2.2.2.2.2.2.2.2.2.2.2.2.2.2.2.1,()),(y40.2.1.2.2.2.2.2.1.1,y40.2.1.2.2.2.2.2.1.2.1,y40.2.1.2.2.2.2.2.1.2.2.1,y40.2.1.2.2.2.2.2.1.2.2.2.1,y40.2.1.2.2.2.2.2.1.2.2.2.2.1,y40.2.1.2.2.2.2.2.1.2.2.2.2.2.1,y40.2.1.2.2.2.2.2.1.2.2.2.2.2.2.1,y40.2.1.2.2.2.2.2.1.2.2.2.2.2.2.2.1,y40.2.1.2.2.2.2.2.1.2.2.2.2.2.2.2.2.1,y40.2.1.2.2.2.2.2.1.2.2.2.2.2.2.2.2.2.1,y40.2.1.2.2.2.2.2.1.2.2.2.2.2.2.2.2.2.2.1,y40.2.1.2.2.2.2.2.1.2.2.2.2.2.2.2.2.2.2.2.1,y40.2.1.2.2.2.2.2.1.2.2.2.2.2.2.2.2.2.2.2.2.1,y40.2.1.2.2.2.2.2.1.2.2.2.2.2.2.2.2.2.2.2.2.2.1,y40.2.1.2.2.2.2.2.1.2.2.2.2.2.2.2.2.2.2.2.2.2.2.1,y40.2.1.2.2.2.2.2.1.2.2.2.2.2.2.2.2.2.2.2.2.2.2.2.1,()),()),())))) (
           none)) (
          none)
       | .inr z41=>
         cond (!(decide (0≤z41.1.1))) (
          cond ((decide (0≤v2))&&(decide (v2<(z41.2.1.2.2.1.length:Int)))) (
           cond (decide ((ae v2)<z41.2.1.2.2.1.length)) (
            ((f75 (rd aZ z41.2.1.2.2.1 (ae v2)).1 (rd aZ z41.2.1.2.2.1 (ae v2)).2.1 (rd aZ z41.2.1.2.2.1 (ae v2)).2.2.1 (rd aZ z41.2.1.2.2.1 (ae v2)).2.2.2.1 (rd aZ z41.2.1.2.2.1 (ae v2)).2.2.2.2)).bind fun y43=>
            cond (bg z41.2.1.2.1 (y43.1.1,y43.1.2.1,y43.1.2.2)) (
             cond ((decide (0≤(aM z41.2.1.2.1 (y43.1.1,y43.1.2.1,y43.1.2.2))))&&(decide ((aM z41.2.1.2.1 (y43.1.1,y43.1.2.1,y43.1.2.2))<(z41.2.1.2.2.1.length:Int)))) (
              cond (decide ((ae (aM z41.2.1.2.1 (y43.1.1,y43.1.2.1,y43.1.2.2)))<z41.2.1.2.2.1.length)) (
               some (R3.next (((),(),(),v1,(al .i64 (v2+1)),()),(((),(),()),(dN z41.2.1.2.1 (y43.1.1,y43.1.2.1,y43.1.2.2)),(z41.2.1.2.2.1.set (ae (aM z41.2.1.2.1 (y43.1.1,y43.1.2.1,y43.1.2.2))) ((rd aZ z41.2.1.2.2.1 (ae (aM z41.2.1.2.1 (y43.1.1,y43.1.2.1,y43.1.2.2)))).1,(rd aZ z41.2.1.2.2.1 (ae (aM z41.2.1.2.1 (y43.1.1,y43.1.2.1,y43.1.2.2)))).2.1,(rd aZ z41.2.1.2.2.1 (ae (aM z41.2.1.2.1 (y43.1.1,y43.1.2.1,y43.1.2.2)))).2.2.1,(rd aZ z41.2.1.2.2.1 (ae (aM z41.2.1.2.1 (y43.1.1,y43.1.2.1,y43.1.2.2)))).2.2.2.1,z41.2.1.2.2.2.2.2.1.2.2.2.2.2.2.2.2.2.2.2.2.1)),(z41.2.1.2.2.2.1.1,z41.2.1.2.2.2.1.2.1,z41.2.1.2.2.2.1.2.2.1,()),(z41.2.1.2.2.2.2.1.1,z41.2.1.2.2.2.2.1.2.1,z41.2.1.2.2.2.2.1.2.2.1,z41.2.1.2.2.2.2.1.2.2.2.1,z41.2.1.2.2.2.2.1.2.2.2.2.1,z41.2.1.2.2.2.2.1.2.2.2.2.2.1,z41.2.1.2.2.2.2.1.2.2.2.2.2.2.1,z41.2.1.2.2.2.2.1.2.2.2.2.2.2.2.1,z41.2.1.2.2.2.2.1.2.2.2.2.2.2.2.2.1,z41.2.1.2.2.2.2.1.2.2.2.2.2.2.2.2.2.1,z41.2.1.2.2.2.2.1.2.2.2.2.2.2.2.2.2.2.1,z41.2.1.2.2.2.2.1.2.2.2.2.2.2.2.2.2.2.2.1,z41.2.1.2.2.2.2.1.2.2.2.2.2.2.2.2.2.2.2.2.1,z41.2.1.2.2.2.2.1.2.2.2.2.2.2.2.2.2.2.2.2.2.1,z41.2.1.2.2.2.2.1.2.2.2.2.2.2.2.2.2.2.2.2.2.2.1,z41.2.1.2.2.2.2.1.2.2.2.2.2.2.2.2.2.2.2.2.2.2.2.1,()),(z41.2.1.2.2.2.2.2.1.1,z41.2.1.2.2.2.2.2.1.2.1,z41.2.1.2.2.2.2.2.1.2.2.1,z41.2.1.2.2.2.2.2.1.2.2.2.1,z41.2.1.2.2.2.2.2.1.2.2.2.2.1,z41.2.1.2.2.2.2.2.1.2.2.2.2.2.1,z41.2.1.2.2.2.2.2.1.2.2.2.2.2.2.1,z41.2.1.2.2.2.2.2.1.2.2.2.2.2.2.2.1,z41.2.1.2.2.2.2.2.1.2.2.2.2.2.2.2.2.1,z41.2.1.2.2.2.2.2.1.2.2.2.2.2.2.2.2.2.1,z41.2.1.2.2.2.2.2.1.2.2.2.2.2.2.2.2.2.2.1,z41.2.1.2.2.2.2.2.1.2.2.2.2.2.2.2.2.2.2.2.1,z41.2.1.2.2.2.2.2.1.2.2.2.2.2.2.2.2.2.2.2.2.1,z41.2.1.2.2.2.2.2.1.2.2.2.2.2.2.2.2.2.2.2.2.2.1,z41.2.1.2.2.2.2.2.1.2.2.2.2.2.2.2.2.2.2.2.2.2.2.1,z41.2.1.2.2.2.2.2.1.2.2.2.2.2.2.2.2.2.2.2.2.2.2.2.1,()),()),()))) (
               none)) (
              none)) (
             some (R3.next (((),(),(),v1,(al .i64 (v2+1)),()),(((),(),()),z41.2.1.2.1,z41.2.1.2.2.1,(z41.2.1.2.2.2.1.1,z41.2.1.2.2.2.1.2.1,z41.2.1.2.2.2.1.2.2.1,()),(z41.2.1.2.2.2.2.1.1,z41.2.1.2.2.2.2.1.2.1,z41.2.1.2.2.2.2.1.2.2.1,z41.2.1.2.2.2.2.1.2.2.2.1,z41.2.1.2.2.2.2.1.2.2.2.2.1,z41.2.1.2.2.2.2.1.2.2.2.2.2.1,z41.2.1.2.2.2.2.1.2.2.2.2.2.2.1,z41.2.1.2.2.2.2.1.2.2.2.2.2.2.2.1,z41.2.1.2.2.2.2.1.2.2.2.2.2.2.2.2.1,z41.2.1.2.2.2.2.1.2.2.2.2.2.2.2.2.2.1,z41.2.1.2.2.2.2.1.2.2.2.2.2.2.2.2.2.2.1,z41.2.1.2.2.2.2.1.2.2.2.2.2.2.2.2.2.2.2.1,z41.2.1.2.2.2.2.1.2.2.2.2.2.2.2.2.2.2.2.2.1,z41.2.1.2.2.2.2.1.2.2.2.2.2.2.2.2.2.2.2.2.2.1,z41.2.1.2.2.2.2.1.2.2.2.2.2.2.2.2.2.2.2.2.2.2.1,z41.2.1.2.2.2.2.1.2.2.2.2.2.2.2.2.2.2.2.2.2.2.2.1,()),(z41.2.1.2.2.2.2.2.1.1,z41.2.1.2.2.2.2.2.1.2.1,z41.2.1.2.2.2.2.2.1.2.2.1,z41.2.1.2.2.2.2.2.1.2.2.2.1,z41.2.1.2.2.2.2.2.1.2.2.2.2.1,z41.2.1.2.2.2.2.2.1.2.2.2.2.2.1,z41.2.1.2.2.2.2.2.1.2.2.2.2.2.2.1,z41.2.1.2.2.2.2.2.1.2.2.2.2.2.2.2.1,z41.2.1.2.2.2.2.2.1.2.2.2.2.2.2.2.2.1,z41.2.1.2.2.2.2.2.1.2.2.2.2.2.2.2.2.2.1,z41.2.1.2.2.2.2.2.1.2.2.2.2.2.2.2.2.2.2.1,z41.2.1.2.2.2.2.2.1.2.2.2.2.2.2.2.2.2.2.2.1,z41.2.1.2.2.2.2.2.1.2.2.2.2.2.2.2.2.2.2.2.2.1,z41.2.1.2.2.2.2.2.1.2.2.2.2.2.2.2.2.2.2.2.2.2.1,z41.2.1.2.2.2.2.2.1.2.2.2.2.2.2.2.2.2.2.2.2.2.2.1,z41.2.1.2.2.2.2.2.1.2.2.2.2.2.2.2.2.2.2.2.2.2.2.2.1,()),()),())))) (
            none)) (
           none)) (
          some (R3.next (((),(),(),v1,(al .i64 (v2+1)),()),(((),(),()),z41.2.1.2.1,z41.2.1.2.2.1,(z41.2.1.2.2.2.1.1,z41.2.1.2.2.2.1.2.1,z41.2.1.2.2.2.1.2.2.1,()),(z41.2.1.2.2.2.2.1.1,z41.2.1.2.2.2.2.1.2.1,z41.2.1.2.2.2.2.1.2.2.1,z41.2.1.2.2.2.2.1.2.2.2.1,z41.2.1.2.2.2.2.1.2.2.2.2.1,z41.2.1.2.2.2.2.1.2.2.2.2.2.1,z41.2.1.2.2.2.2.1.2.2.2.2.2.2.1,z41.2.1.2.2.2.2.1.2.2.2.2.2.2.2.1,z41.2.1.2.2.2.2.1.2.2.2.2.2.2.2.2.1,z41.2.1.2.2.2.2.1.2.2.2.2.2.2.2.2.2.1,z41.2.1.2.2.2.2.1.2.2.2.2.2.2.2.2.2.2.1,z41.2.1.2.2.2.2.1.2.2.2.2.2.2.2.2.2.2.2.1,z41.2.1.2.2.2.2.1.2.2.2.2.2.2.2.2.2.2.2.2.1,z41.2.1.2.2.2.2.1.2.2.2.2.2.2.2.2.2.2.2.2.2.1,z41.2.1.2.2.2.2.1.2.2.2.2.2.2.2.2.2.2.2.2.2.2.1,z41.2.1.2.2.2.2.1.2.2.2.2.2.2.2.2.2.2.2.2.2.2.2.1,()),(z41.2.1.2.2.2.2.2.1.1,z41.2.1.2.2.2.2.2.1.2.1,z41.2.1.2.2.2.2.2.1.2.2.1,z41.2.1.2.2.2.2.2.1.2.2.2.1,z41.2.1.2.2.2.2.2.1.2.2.2.2.1,z41.2.1.2.2.2.2.2.1.2.2.2.2.2.1,z41.2.1.2.2.2.2.2.1.2.2.2.2.2.2.1,z41.2.1.2.2.2.2.2.1.2.2.2.2.2.2.2.1,z41.2.1.2.2.2.2.2.1.2.2.2.2.2.2.2.2.1,z41.2.1.2.2.2.2.2.1.2.2.2.2.2.2.2.2.2.1,z41.2.1.2.2.2.2.2.1.2.2.2.2.2.2.2.2.2.2.1,z41.2.1.2.2.2.2.2.1.2.2.2.2.2.2.2.2.2.2.2.1,z41.2.1.2.2.2.2.2.1.2.2.2.2.2.2.2.2.2.2.2.2.1,z41.2.1.2.2.2.2.2.1.2.2.2.2.2.2.2.2.2.2.2.2.2.1,z41.2.1.2.2.2.2.2.1.2.2.2.2.2.2.2.2.2.2.2.2.2.2.1,z41.2.1.2.2.2.2.2.1.2.2.2.2.2.2.2.2.2.2.2.2.2.2.2.1,()),()),())))) (
       none)) (
      none)) (
     some (R3.next (((),(),(),v1,(al .i64 (v2+1)),()),(((),(),()),v3,v4,(v5,v6,v7,()),(v8,v9,v10,v11,v12,v13,v14,v15,v16,v17,v18,v19,v20,v21,v22,v23,()),(v24,v25,v26,v27,v28,v29,v30,v31,v32,v33,v34,v35,v36,v37,v38,v39,()),()),())))) (
    none)) (
   none)) (
  some (R3.out (((),(),()),(((),(),()),v3,v4,(v5,v6,v7,()),(v8,v9,v10,v11,v12,v13,v14,v15,v16,v17,v18,v19,v20,v21,v22,v23,()),(v24,v25,v26,v27,v28,v29,v30,v31,v32,v33,v34,v35,v36,v37,v38,v39,()),()),())))
noncomputable def dZ (z:ko):Option (R3 ko xd w6):=pH z.1.2.2.2.1 z.1.2.2.2.2.1 z.2.1.2.1 z.2.1.2.2.1 z.2.1.2.2.2.1.1 z.2.1.2.2.2.1.2.1 z.2.1.2.2.2.1.2.2.1 z.2.1.2.2.2.2.1.1 z.2.1.2.2.2.2.1.2.1 z.2.1.2.2.2.2.1.2.2.1 z.2.1.2.2.2.2.1.2.2.2.1 z.2.1.2.2.2.2.1.2.2.2.2.1 z.2.1.2.2.2.2.1.2.2.2.2.2.1 z.2.1.2.2.2.2.1.2.2.2.2.2.2.1 z.2.1.2.2.2.2.1.2.2.2.2.2.2.2.1 z.2.1.2.2.2.2.1.2.2.2.2.2.2.2.2.1 z.2.1.2.2.2.2.1.2.2.2.2.2.2.2.2.2.1 z.2.1.2.2.2.2.1.2.2.2.2.2.2.2.2.2.2.1 z.2.1.2.2.2.2.1.2.2.2.2.2.2.2.2.2.2.2.1 z.2.1.2.2.2.2.1.2.2.2.2.2.2.2.2.2.2.2.2.1 z.2.1.2.2.2.2.1.2.2.2.2.2.2.2.2.2.2.2.2.2.1 z.2.1.2.2.2.2.1.2.2.2.2.2.2.2.2.2.2.2.2.2.2.1 z.2.1.2.2.2.2.1.2.2.2.2.2.2.2.2.2.2.2.2.2.2.2.1 z.2.1.2.2.2.2.2.1.1 z.2.1.2.2.2.2.2.1.2.1 z.2.1.2.2.2.2.2.1.2.2.1 z.2.1.2.2.2.2.2.1.2.2.2.1 z.2.1.2.2.2.2.2.1.2.2.2.2.1 z.2.1.2.2.2.2.2.1.2.2.2.2.2.1 z.2.1.2.2.2.2.2.1.2.2.2.2.2.2.1 z.2.1.2.2.2.2.2.1.2.2.2.2.2.2.2.1 z.2.1.2.2.2.2.2.1.2.2.2.2.2.2.2.2.1 z.2.1.2.2.2.2.2.1.2.2.2.2.2.2.2.2.2.1 z.2.1.2.2.2.2.2.1.2.2.2.2.2.2.2.2.2.2.1 z.2.1.2.2.2.2.2.1.2.2.2.2.2.2.2.2.2.2.2.1 z.2.1.2.2.2.2.2.1.2.2.2.2.2.2.2.2.2.2.2.2.1 z.2.1.2.2.2.2.2.1.2.2.2.2.2.2.2.2.2.2.2.2.2.1 z.2.1.2.2.2.2.2.1.2.2.2.2.2.2.2.2.2.2.2.2.2.2.1 z.2.1.2.2.2.2.2.1.2.2.2.2.2.2.2.2.2.2.2.2.2.2.2.1
abbrev kC:Type:=TF×(l9×sx×br×(Int×aR×Int×Unit)×JK×Unit)×br×Unit
abbrev wC:Type:=(Unit)×(l9×sx×br×(Int×aR×Int×Unit)×JK×Unit)×br×Unit
abbrev vF:Type:=Unit×Wx×Unit
noncomputable def oE (v1:br)(v2 v3:Int)(v4:sx)(v5:br)(v6:Int)(v7:aR)(v8 v9 v10 v11 v12 v13 v14 v15 v16 v17 v18 v19:Int)(v20:Bool)(v21:Int)(v22:aQ)(v23:br)(v24:aQ)(v25:br):Option (R3 kC wC vF):=
 cond (decide (v3<v2)) (
  cond ((decide (0≤v3))&&(decide (v3<(v1.length:Int)))) (
   ((f75 (rd aZ v1 (ae v3)).1 (rd aZ v1 (ae v3)).2.1 (rd aZ v1 (ae v3)).2.2.1 (rd aZ v1 (ae v3)).2.2.2.1 (-1))).bind fun y26=>
   cond (!(bg v4 (y26.1.1,y26.1.2.1,y26.1.2.2))) (
    ((f75 (rd aZ v1 (ae v3)).1 (rd aZ v1 (ae v3)).2.1 (rd aZ v1 (ae v3)).2.2.1 (rd aZ v1 (ae v3)).2.2.2.1 (-1))).bind fun y27=>
    cond ((decide (((v25.length+1) * 40)≤140737488355328))&&(decide ((v25.length+1)≤9223372036854775807))) (
     some (R3.next (((),v1,v2,(al .i64 (v3+1)),()),(((),(),()),(cU v4 (y27.1.1,y27.1.2.1,y27.1.2.2) (v25.length:Int)),v5,(v6,v7,v8,()),(v9,v10,v11,v12,v13,v14,v15,v16,v17,v18,v19,v20,v21,v22,v23,v24,()),()),(v25++[((rd aZ v1 (ae v3)).1,(rd aZ v1 (ae v3)).2.1,(rd aZ v1 (ae v3)).2.2.1,(rd aZ v1 (ae v3)).2.2.2.1,(-1))]),()))) (
     none)) (
    some (R3.next (((),v1,v2,(al .i64 (v3+1)),()),(((),(),()),v4,v5,(v6,v7,v8,()),(v9,v10,v11,v12,v13,v14,v15,v16,v17,v18,v19,v20,v21,v22,v23,v24,()),()),v25,())))) (
   none)) (
  some (R3.out ((),(((),(),()),v4,v5,(v6,v7,v8,()),(v9,v10,v11,v12,v13,v14,v15,v16,v17,v18,v19,v20,v21,v22,v23,v24,()),()),v25,())))
noncomputable def de (z:kC):Option (R3 kC wC vF):=oE z.1.2.1 z.1.2.2.1 z.1.2.2.2.1 z.2.1.2.1 z.2.1.2.2.1 z.2.1.2.2.2.1.1 z.2.1.2.2.2.1.2.1 z.2.1.2.2.2.1.2.2.1 z.2.1.2.2.2.2.1.1 z.2.1.2.2.2.2.1.2.1 z.2.1.2.2.2.2.1.2.2.1 z.2.1.2.2.2.2.1.2.2.2.1 z.2.1.2.2.2.2.1.2.2.2.2.1 z.2.1.2.2.2.2.1.2.2.2.2.2.1 z.2.1.2.2.2.2.1.2.2.2.2.2.2.1 z.2.1.2.2.2.2.1.2.2.2.2.2.2.2.1 z.2.1.2.2.2.2.1.2.2.2.2.2.2.2.2.1 z.2.1.2.2.2.2.1.2.2.2.2.2.2.2.2.2.1 z.2.1.2.2.2.2.1.2.2.2.2.2.2.2.2.2.2.1 z.2.1.2.2.2.2.1.2.2.2.2.2.2.2.2.2.2.2.1 z.2.1.2.2.2.2.1.2.2.2.2.2.2.2.2.2.2.2.2.1 z.2.1.2.2.2.2.1.2.2.2.2.2.2.2.2.2.2.2.2.2.1 z.2.1.2.2.2.2.1.2.2.2.2.2.2.2.2.2.2.2.2.2.2.1 z.2.1.2.2.2.2.1.2.2.2.2.2.2.2.2.2.2.2.2.2.2.2.1 z.2.2.1
abbrev Bp:Type:=(Unit×cZ×Int×Int×BN×Int×Int×Unit)×(l9×sx×Unit)×br×Unit
abbrev Oj:Type:=(Unit×cZ×Int×Int×Unit)×(l9×sx×Unit)×br×Unit
abbrev Ny:Type:=Unit×Unit×Unit
noncomputable def Hy (v1:cZ)(v2 v3:Int)(v4:BN)(v5 v6:Int)(v7:sx)(v8:br):Option (R3 Bp Oj Ny):=
 cond (decide (v6<v5)) (
  cond ((decide (0≤v6))&&(decide (v6<(v4.length:Int)))) (
   cond (decide ((rd cG v4 (ae v6)).1=0)) (
    ((f75 (rd cG v4 (ae v6)).2.2.1 (rd cG v4 (ae v6)).2.2.2.1 (rd cG v4 (ae v6)).2.2.2.2.1 (rd cG v4 (ae v6)).2.1 (-1))).bind fun y9=>
    cond ((decide (((v8.length+1) * 40)≤140737488355328))&&(decide ((v8.length+1)≤9223372036854775807))) (
     some (R3.next (((),v1,v2,v3,v4,v5,(al .i64 (v6+1)),()),(((),(),()),(cU v7 (y9.1.1,y9.1.2.1,y9.1.2.2) (v8.length:Int)),()),(v8++[((rd cG v4 (ae v6)).2.2.1,(rd cG v4 (ae v6)).2.2.2.1,(rd cG v4 (ae v6)).2.2.2.2.1,(rd cG v4 (ae v6)).2.1,(-1))]),()))) (
     none)) (
    cond (decide ((rd cG v4 (ae v6)).1=1)) (
     cond (bg v7 ((rd cG v4 (ae v6)).2.2.1,(rd cG v4 (ae v6)).2.2.2.1,(rd cG v4 (ae v6)).2.2.2.2.1)) (
      cond ((decide (0≤(aM v7 ((rd cG v4 (ae v6)).2.2.1,(rd cG v4 (ae v6)).2.2.2.1,(rd cG v4 (ae v6)).2.2.2.2.1))))&&(decide ((aM v7 ((rd cG v4 (ae v6)).2.2.1,(rd cG v4 (ae v6)).2.2.2.1,(rd cG v4 (ae v6)).2.2.2.2.1))<(v8.length:Int)))) (
       cond (decide ((ae (aM v7 ((rd cG v4 (ae v6)).2.2.1,(rd cG v4 (ae v6)).2.2.2.1,(rd cG v4 (ae v6)).2.2.2.2.1)))<v8.length)) (
        some (R3.next (((),v1,v2,v3,v4,v5,(al .i64 (v6+1)),()),(((),(),()),(dN v7 ((rd cG v4 (ae v6)).2.2.1,(rd cG v4 (ae v6)).2.2.2.1,(rd cG v4 (ae v6)).2.2.2.2.1)),()),(v8.set (ae (aM v7 ((rd cG v4 (ae v6)).2.2.1,(rd cG v4 (ae v6)).2.2.2.1,(rd cG v4 (ae v6)).2.2.2.2.1))) ((rd aZ v8 (ae (aM v7 ((rd cG v4 (ae v6)).2.2.1,(rd cG v4 (ae v6)).2.2.2.1,(rd cG v4 (ae v6)).2.2.2.2.1)))).1,(rd aZ v8 (ae (aM v7 ((rd cG v4 (ae v6)).2.2.1,(rd cG v4 (ae v6)).2.2.2.1,(rd cG v4 (ae v6)).2.2.2.2.1)))).2.1,(rd aZ v8 (ae (aM v7 ((rd cG v4 (ae v6)).2.2.1,(rd cG v4 (ae v6)).2.2.2.1,(rd cG v4 (ae v6)).2.2.2.2.1)))).2.2.1,(rd aZ v8 (ae (aM v7 ((rd cG v4 (ae v6)).2.2.1,(rd cG v4 (ae v6)).2.2.2.1,(rd cG v4 (ae v6)).2.2.2.2.1)))).2.2.2.1,(rd cG v4 (ae v6)).2.1)),()))) (
        none)) (
       none)) (
      some (R3.next (((),v1,v2,v3,v4,v5,(al .i64 (v6+1)),()),(((),(),()),v7,()),v8,())))) (
     some (R3.next (((),v1,v2,v3,v4,v5,(al .i64 (v6+1)),()),(((),(),()),v7,()),v8,()))))) (
   none)) (
  some (R3.out (((),v1,v2,v3,()),(((),(),()),v7,()),v8,())))
noncomputable def mw (z:Bp):Option (R3 Bp Oj Ny):=Hy z.1.2.1 z.1.2.2.1 z.1.2.2.2.1 z.1.2.2.2.2.1 z.1.2.2.2.2.2.1 z.1.2.2.2.2.2.2.1 z.2.1.2.1 z.2.2.1
abbrev Vw:Type:=pq×(l9×sx×Unit)×br×Unit
abbrev UM:Type:=Unit×Unit×Unit
noncomputable def Ko (v1:cZ)(v2 v3:Int)(v4:sx)(v5:br):Option (R3 Ka Vw UM):=
 cond (decide (v3<v2)) (
  cond ((decide (0≤v3))&&(decide (v3<(v1.length:Int)))) (
   ((f39 (rd bL v1 (ae v3)).2.1)).bind fun y6=>
   cond (!y6.2.2.1) (
    some (R3.next (((),v1,v2,(al .i64 (v3+1)),()),(((),(),()),v4,()),v5,()))) (
    ((iter az dZ (((),(),(),(v5.length:Int),0,()),(((),(),()),v4,v5,((rd bL v1 (ae v3)).1,(rd bL v1 (ae v3)).2.1,(rd bL v1 (ae v3)).2.2,()),(y6.1.1.1.1,y6.1.1.1.2,y6.1.1.2.1.1,y6.1.1.2.1.2,y6.1.1.2.2.1,y6.1.1.2.2.2.1,y6.1.1.2.2.2.2.1,y6.1.1.2.2.2.2.2,y6.1.2.1.1,y6.1.2.1.2.1,y6.1.2.1.2.2.1,y6.1.2.1.2.2.2,y6.1.2.2.1,y6.1.2.2.2.1,y6.1.2.2.2.2.1,y6.1.2.2.2.2.2,()),(y6.1.1.1.1,y6.1.1.1.2,y6.1.1.2.1.1,y6.1.1.2.1.2,y6.1.1.2.2.1,y6.1.1.2.2.2.1,y6.1.1.2.2.2.2.1,y6.1.1.2.2.2.2.2,y6.1.2.1.1,y6.1.2.1.2.1,y6.1.2.1.2.2.1,y6.1.2.1.2.2.2,y6.1.2.2.1,y6.1.2.2.2.1,y6.1.2.2.2.2.1,y6.1.2.2.2.2.2,()),()),()))).bind fun r=>match r with
    | .inl y7=>
      ((iter az de (((),y7.2.1.2.2.2.2.2.1.2.2.2.2.2.2.2.2.2.2.2.2.2.2.1,(y7.2.1.2.2.2.2.2.1.2.2.2.2.2.2.2.2.2.2.2.2.2.2.1.length:Int),0,()),(((),(),()),y7.2.1.2.1,[],(y7.2.1.2.2.2.1.1,y7.2.1.2.2.2.1.2.1,y7.2.1.2.2.2.1.2.2.1,()),(y7.2.1.2.2.2.2.1.1,y7.2.1.2.2.2.2.1.2.1,y7.2.1.2.2.2.2.1.2.2.1,y7.2.1.2.2.2.2.1.2.2.2.1,y7.2.1.2.2.2.2.1.2.2.2.2.1,y7.2.1.2.2.2.2.1.2.2.2.2.2.1,y7.2.1.2.2.2.2.1.2.2.2.2.2.2.1,y7.2.1.2.2.2.2.1.2.2.2.2.2.2.2.1,y7.2.1.2.2.2.2.1.2.2.2.2.2.2.2.2.1,y7.2.1.2.2.2.2.1.2.2.2.2.2.2.2.2.2.1,y7.2.1.2.2.2.2.1.2.2.2.2.2.2.2.2.2.2.1,y7.2.1.2.2.2.2.1.2.2.2.2.2.2.2.2.2.2.2.1,y7.2.1.2.2.2.2.1.2.2.2.2.2.2.2.2.2.2.2.2.1,y7.2.1.2.2.2.2.1.2.2.2.2.2.2.2.2.2.2.2.2.2.1,y7.2.1.2.2.2.2.1.2.2.2.2.2.2.2.2.2.2.2.2.2.2.1,y7.2.1.2.2.2.2.1.2.2.2.2.2.2.2.2.2.2.2.2.2.2.2.1,()),()),y7.2.1.2.2.1,()))).bind fun r=>match r with
      | .inl y9=>
        ((f41 y9.2.1.2.2.2.1.2.1)).bind fun y11=>
        ((iter az mw (((),v1,v2,v3,y11.1,(y11.1.length:Int),0,()),(((),(),()),y9.2.1.2.1,()),y9.2.2.1,()))).bind fun r=>match r with
        | .inl y12=>
          some (R3.next (((),y12.1.2.1,y12.1.2.2.1,(al .i64 (y12.1.2.2.2.1+1)),()),(((),(),()),y12.2.1.2.1,()),y12.2.2.1,()))
        | .inr z13=>
          some (R3.ret ((),(),()))
      | .inr z10=>
        none
    | .inr z8=>
      none)) (
   none)) (
  some (R3.out (((),()),(((),(),()),v4,()),v5,())))
noncomputable def nh (z:Ka):Option (R3 Ka Vw UM):=Ko z.1.2.1 z.1.2.2.1 z.1.2.2.2.1 z.2.1.2.1 z.2.2.1
noncomputable def f19 (v1:Int)(v2:cZ):Option (br×Unit):=
 ((f34 v1 v2)).bind fun y3=>
 cond (!y3.1) (
  some ([],())) (
  ((iter az nh (((),v2,(v2.length:Int),0,()),(((),(),()),[],()),[],()))).bind fun r=>match r with
  | .inl y4=>
    some (y4.2.2.1,())
  | .inr z5=>
    none)
noncomputable def f8  : Option ct:=
 (f21).bind fun y1=>
 ((f22 y1.1.1.1 y1.1.1.2 y1.1.2.1 y1.1.2.2 [(2,0,0,1,0,0,0,0,false),(0,3,0,0,0,0,0,0,false),(1,7,0,0,0,0,0,0,false)])).bind fun y2=>
 ((f19 y2.1.1.1 y2.1.1.2)).bind fun y3=>
 ((f23 y2.1.1.1 y2.1.1.2)).bind fun y4=>
 cond (decide (y2.2.1=0)) (
  cond y4.2.1 (
   cond (decide ((y3.1.length:Int)=1)) (
    cond (decide (0<(y3.1.length:Int))) (
     cond ((decide ((rd aZ y3.1 0).1=0))&&((decide ((rd aZ y3.1 0).2.1=0))&&((decide ((rd aZ y3.1 0).2.2.1=0))&&((decide ((rd aZ y3.1 0).2.2.2.1=3))&&((decide ((rd aZ y3.1 0).2.2.2.2=7))&&true))))) (
      ((f14 y4.1.1.1 y4.1.1.2 y4.1.2.1.1 y4.1.2.1.2 y4.1.2.2.1 y4.1.2.2.2.1 y4.1.2.2.2.2.1 y4.1.2.2.2.2.2 y3.1 0 1080 6)).bind fun y5=>
      cond (decide (y5.1=0)) (
       ((f14 y4.1.1.1 y4.1.1.2 y4.1.2.1.1 y4.1.2.1.2 y4.1.2.2.1 y4.1.2.2.2.1 y4.1.2.2.2.2.1 y4.1.2.2.2.2.2 y3.1 0 1080 7)).bind fun y6=>
       cond (decide (y6.1=(-1))) (
        ((f12 y3.1 y3.1)).bind fun y7=>
        cond y7.1 (
         ((f11 y3.1 0)).bind fun y8=>
         cond (decide ((y8.1.length:Int)=1)) (
          ((f10 y3.1 7 9)).bind fun y9=>
          some ((decide ((y9.1.length:Int)=0)),())) (
          some (false,()))) (
         some (false,()))) (
        some (false,()))) (
       some (false,()))) (
      some (false,()))) (
     none)) (
    some (false,()))) (
   some (false,()))) (
  some (false,()))
end Go.Proofs.Zz
