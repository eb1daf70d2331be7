/- Pure18a, Pure18b, Pure18c, Pure18d, Pure18e, Pure18f. -/
import Derived.Test.YtckgffnmfgjehaaGreatFG
namespace Go.Proofs.Zz
open Go Go.Sy
set_option linter.unusedVariables false
set_option maxRecDepth 100000
abbrev bn:Type:=List (Int×Int×Int×Int×Int)
abbrev aW:Type:=List (Int×Int×Int)
abbrev Eb:Type:=Int×Int×Int×Int×Int×Int×Int×Int×Int×Int×Int×Bool×Int×aW×bn×aW×Unit
abbrev Rm:Type:=Int×Int×Int×Int×Int×Int×Int×Int×Int×Int×Int×Bool×Int×Unit×Unit×Unit×Unit
abbrev aR:Type:=List Int
abbrev pO:Type:=aR×Unit
abbrev bh:Type:=Int×Unit
abbrev V8:Type:=Rm×(aR×aR×aR×aR×aR×Unit)×Rm×pO×bh×(Unit×Unit×Unit×Unit×Unit×Unit×Unit×Unit×Unit×Unit×Unit×Unit×Unit×Unit×Unit×Unit×Unit×Unit×Unit×Unit×Unit×Unit×Unit×Unit×Unit×Unit×Unit×Unit×Unit×Unit×Unit×Unit×Unit×Unit×Unit×Unit×Unit×Unit×Unit×Unit×Unit×Unit×Unit×Unit×Unit×Unit×Unit×Unit×Unit×Unit×Unit×Unit×Unit×Unit×Unit×Unit×Unit×Unit×Unit×Unit×Unit×Unit×Unit×Unit×Unit×Unit×Unit×Unit×Unit×Unit×Unit×Unit×Unit×Unit×Unit×Unit×Unit×Unit×Unit×Unit×Unit×Unit×Unit×Unit×Unit×Unit×Unit×Unit×Unit×Unit×Unit×Unit×Unit×Unit×Unit×Unit×Unit×Unit×Unit×Unit×Unit×Unit×Unit×Unit×Unit×Unit×Unit×Unit×Unit×Unit×Unit×Unit×Unit×Unit×Unit×Unit×Unit×Unit×Unit×Unit×Unit×Unit×Unit×Unit×Unit×Unit×Unit×Unit×Unit×Unit×Unit×Unit×Unit×Unit×Unit×Unit×Unit×Unit×Unit×Unit×Unit×Unit×Unit×Unit×Unit×Unit×Unit×Unit×Unit×Unit×Unit×Unit×Unit×Unit×Unit×Unit×Unit×Unit×Unit×Unit×Unit×Unit×Unit×Unit×Unit×Unit×Unit×Unit×Unit×Unit×Unit×Unit×Unit×Unit×Unit×Unit×Unit×Unit×Unit×Unit×Unit×Unit×Unit×Unit×Unit×Unit×Unit×Unit×Unit×Unit×Unit×Unit×Unit×Unit×Unit×Unit×Unit×Unit×Unit×Unit×Unit×Unit×Unit×Unit×Unit×Unit×Unit×Unit×Unit×Unit×Unit×Unit×Unit×Unit×Unit×Unit×Unit×Unit×Unit×Unit×Unit×Unit×Unit×Unit×Unit×Unit×Unit×Unit×Unit×Unit×Unit×Unit×Unit×Unit×Unit×Unit×Unit×Unit)×Unit
abbrev dL:Type:=List (Int×aR×Int)
abbrev VB:Type:=(Int×Int×Int×Int×Int×Int×Int×Int×Unit)×bh×bh×bh×bh×(bn×Unit)×(Unit×Unit×Unit×Unit×Unit×Unit×Unit×Unit×Unit×Unit×Unit×Unit×Unit×Unit×Unit×Unit×Unit×Unit×Unit×Unit×Unit×Unit×Unit×Unit×Unit×Unit×Unit×Unit×Unit×Unit×Unit×Unit×Unit×Unit×Unit×Unit×Unit×Unit×Unit×Unit×Unit×Unit×Unit×Unit×Unit×Unit×Unit×Unit×Unit×Unit×Unit×Unit×Unit×Unit×Unit×Unit×Unit×Unit×Unit×Unit×Unit×Unit)×Unit
abbrev uX:Type:=List (Int×Int×Int×Int×Int×Int×Int×Int×Bool)
abbrev pG:Type:=Int×Int
abbrev K4:Type:=(pG×pG×Int×Int×Int×Int)×(Int×Int×Int×Bool)×Int×aW×bn×aW
abbrev bZ:Type:=Bool×Unit
abbrev QU:Type:=(Int×dL×Unit)×(Int×Int×Int×Int×Int×Int×Int×Int×Unit)×bZ×(dL×Unit)×(Unit×Unit×Unit×Unit×Unit×Unit×Unit×Unit×Unit×Unit×Unit×Unit×Unit×Unit×Unit×Unit×Unit×Unit×Unit×Unit×Unit×Unit×Unit×Unit×Unit×Unit×Unit×Unit×Unit×Unit)×Unit
abbrev pH:Type:=Unit×Unit
abbrev PA:Type:=pH×bZ×pO×(Unit×Unit×Unit×Unit×Unit×Unit×Unit×Unit×Unit×Unit×Unit×Unit×Unit×Unit×Unit×Unit×Unit×Unit×Unit×Unit×Unit×Unit×Unit×Unit×Unit×Unit×Unit)×Unit
abbrev HZ:Type:=Int×Int×Int×Int×Int×Int×Int×Int×Int×Int×Int×Bool×Int×aW×bn×aW×Int×Int×Unit
abbrev nM:Type:=List ((Int×Int×Int)×Int)
abbrev zN:Type:=Int×Int×Int×Unit
abbrev Bn:Type:=Int×Int×Unit
abbrev xC:Type:=Bn×pH×Unit
abbrev jv:Type:=Unit×Unit×Unit
abbrev Tr:Type:=Unit×Unit×Unit×Unit×Unit×Unit×Unit×Unit×Unit×Unit×Unit×Unit×Unit×Unit×Unit×Unit×Unit×Unit×Unit×Unit×Unit×Unit×Unit×Unit×Unit×Unit×Unit×Unit×Unit×Unit×Unit×Unit×Unit×Unit×Unit×Unit×Unit×Unit
abbrev SM:Type:=Int×Int×Int×Int×Int×Int×aR×Unit
abbrev N4:Type:=jv×nM×bn×(Int×aR×Int×Unit)×Eb×Eb×(Int×Int×Int×Int×Int×Unit)×Unit
abbrev jA:Type:=bh×Unit
abbrev E5:Type:=Unit×Unit×Int×Int×Unit
abbrev sO:Type:=aR×Bool×Unit
abbrev ux:Type:=Int×Unit×Unit
abbrev TT:Type:=Int×Int×Int×Int×Int×Int×Int×Int×Int×Int×Int×Bool×Int×Unit×Unit×Unit×Int×Int×Unit
abbrev JP:Type:=aR×Unit×Int×Int×Unit
abbrev KW:Type:=Unit×bn×Int×Int×Unit
abbrev KC:Type:=bn×Unit×Int×Int×Unit
abbrev Q0:Type:=Unit×Int×Int×aR×Int×Int×Unit
abbrev OX:Type:=aR×Int×Int×Int×Int×Int×Unit
abbrev Qx:Type:=SM×(aW×Unit)×zN×zN×Unit
abbrev SX:Type:=(Int×dL×Int×Int×Unit)×(Int×Unit×Int×Int×Unit)×ux×Unit
abbrev ED:Type:=Rm×Rm×Unit
abbrev EJ:Type:=aW×Int×Unit
abbrev qu:Type:=Int×dL
abbrev vA:Type:=Eb×Unit
abbrev QD:Type:=SM×(aW×Unit)×zN×Unit
abbrev Sp:Type:=jv×nM×bn×(Int×aR×Int×Unit)×Eb×Eb×Unit
abbrev Ip:Type:=bh×aW×Unit
abbrev GN:Type:=zN×aW×Unit
abbrev aU:Ty:=.int .i64
abbrev b8:Ty:=.pair aU (.pair aU (.pair aU (.pair aU (.pair aU (.pair aU (.pair aU (.pair aU .bool)))))))
abbrev cr:Ty:=.pair aU (.pair aU aU)
abbrev aX:Ty:=.pair aU (.pair aU cr)
abbrev tw:Ty:=.int .u8
abbrev bT:Ty:=.pair aU (.pair (.row tw) aU)
abbrev kP:Type:=KW×(bh×bh×Unit)×bn×Unit
abbrev rB:Type:=(Unit)×(bh×bh×Unit)×bn×Unit
abbrev q9:Type:=Unit×jv×Unit
noncomputable def kC (v1:bn)(v2 v3 v4 v5:Int)(v6:bn):Option (R3 kP rB q9):=
 cond (decide (v3<v2)) (
  cond ((decide (0≤v3))&&(decide (v3<(v1.length:Int)))) (
   cond (decide ((rd aX v1 (Int.toNat v3)).2.2.2.1≤v5)) (
    cond (decide ((rd aX v1 (Int.toNat v3)).2.2.2.2=(-1))) (
     cond ((decide (((v6.length+1) * 40)≤140737488355328))&&(decide ((v6.length+1)≤9223372036854775807))) (
      some (R3.next (((),v1,v2,(IntKind.wrap .i64 (v3+1)),()),((v4,()),(v5,()),()),(v6++[((rd aX v1 (Int.toNat v3)).1,(rd aX v1 (Int.toNat v3)).2.1,(rd aX v1 (Int.toNat v3)).2.2.1,(rd aX v1 (Int.toNat v3)).2.2.2.1,(rd aX v1 (Int.toNat v3)).2.2.2.2)]),()))) (
      none)) (
     cond (decide (v4<(rd aX v1 (Int.toNat v3)).2.2.2.2)) (
      cond ((decide (((v6.length+1) * 40)≤140737488355328))&&(decide ((v6.length+1)≤9223372036854775807))) (
       some (R3.next (((),v1,v2,(IntKind.wrap .i64 (v3+1)),()),((v4,()),(v5,()),()),(v6++[((rd aX v1 (Int.toNat v3)).1,(rd aX v1 (Int.toNat v3)).2.1,(rd aX v1 (Int.toNat v3)).2.2.1,(rd aX v1 (Int.toNat v3)).2.2.2.1,(rd aX v1 (Int.toNat v3)).2.2.2.2)]),()))) (
       none)) (
      some (R3.next (((),v1,v2,(IntKind.wrap .i64 (v3+1)),()),((v4,()),(v5,()),()),v6,()))))) (
    some (R3.next (((),v1,v2,(IntKind.wrap .i64 (v3+1)),()),((v4,()),(v5,()),()),v6,())))) (
   none)) (
  some (R3.out ((),((v4,()),(v5,()),()),v6,())))
noncomputable def dK (z:kP):Option (R3 kP rB q9):=kC z.1.2.1 z.1.2.2.1 z.1.2.2.2.1 z.2.1.1.1 z.2.1.2.1.1 z.2.2.1
noncomputable def f10 (v1:bn)(v2 v3:Int):Option (bn×Unit):=
 ((iter aI dK (((),v1,(v1.length:Int),0,()),((v2,()),(v3,()),()),[],()))).bind fun r=>match r with
 | .inl y4=>
   some (y4.2.2.1,())
 | .inr z5=>
   none
abbrev j8:Type:=KW×jA×bn×Unit
abbrev rT:Type:=(Unit)×jA×bn×Unit
abbrev qx:Type:=Unit×pH×Unit
noncomputable def j5 (v1:bn)(v2 v3 v4:Int)(v5:bn):Option (R3 j8 rT qx):=
 cond (decide (v3<v2)) (
  cond ((decide (0≤v3))&&(decide (v3<(v1.length:Int)))) (
   cond (decide ((rd aX v1 (Int.toNat v3)).1=v4)) (
    cond ((decide (((v5.length+1) * 40)≤140737488355328))&&(decide ((v5.length+1)≤9223372036854775807))) (
     some (R3.next (((),v1,v2,(IntKind.wrap .i64 (v3+1)),()),((v4,()),()),(v5++[((rd aX v1 (Int.toNat v3)).1,(rd aX v1 (Int.toNat v3)).2.1,(rd aX v1 (Int.toNat v3)).2.2.1,(rd aX v1 (Int.toNat v3)).2.2.2.1,(rd aX v1 (Int.toNat v3)).2.2.2.2)]),()))) (
     none)) (
    some (R3.next (((),v1,v2,(IntKind.wrap .i64 (v3+1)),()),((v4,()),()),v5,())))) (
   none)) (
  some (R3.out ((),((v4,()),()),v5,())))
noncomputable def dI (z:j8):Option (R3 j8 rT qx):=j5 z.1.2.1 z.1.2.2.1 z.1.2.2.2.1 z.2.1.1.1 z.2.2.1
noncomputable def f11 (v1:bn)(v2:Int):Option (bn×Unit):=
 ((iter aI dI (((),v1,(v1.length:Int),0,()),((v2,()),()),[],()))).bind fun r=>match r with
 | .inl y3=>
   some (y3.2.2.1,())
 | .inr z4=>
   none
abbrev Gk:Type:=(bn×bn×Int×Int×Unit)×(Unit)×(Unit)
abbrev NW:Type:=(Unit)×(Unit)×(Unit)
abbrev MB:Type:=bZ×(Unit)×(Unit)
noncomputable def Kh (v1 v2:bn)(v3 v4:Int):Option (R3 Gk NW MB):=
 cond (decide (v4<v3)) (
  cond ((decide (0≤v4))&&(decide (v4<(v1.length:Int)))) (
   cond ((decide (0≤v4))&&(decide (v4<(v2.length:Int)))) (
    cond (!((decide ((rd aX v1 (Int.toNat v4)).1=(rd aX v2 (Int.toNat v4)).1))&&((decide ((rd aX v1 (Int.toNat v4)).2.1=(rd aX v2 (Int.toNat v4)).2.1))&&((decide ((rd aX v1 (Int.toNat v4)).2.2.1=(rd aX v2 (Int.toNat v4)).2.2.1))&&((decide ((rd aX v1 (Int.toNat v4)).2.2.2.1=(rd aX v2 (Int.toNat v4)).2.2.2.1))&&((decide ((rd aX v1 (Int.toNat v4)).2.2.2.2=(rd aX v2 (Int.toNat v4)).2.2.2.2))&&true)))))) (
     some (R3.ret ((false,()),(),()))) (
     some (R3.next ((v1,v2,v3,(IntKind.wrap .i64 (v4+1)),()),(),())))) (
    none)) (
   none)) (
  some (R3.out ((),(),())))
noncomputable def um (z:Gk):Option (R3 Gk NW MB):=Kh z.1.1 z.1.2.1 z.1.2.2.1 z.1.2.2.2.1
noncomputable def f27 (v1 v2:bn):Option bZ:=
 cond (!(decide ((v1.length:Int)=(v2.length:Int)))) (
  some (false,())) (
  ((iter aI um ((v1,v2,(v1.length:Int),0,()),(),()))).bind fun r=>match r with
  | .inl y3=>
    some (true,())
  | .inr z4=>
    some (z4.1.1,()))
noncomputable def f12 (v1 v2:bn):Option bZ:=
 ((f27 v1 v2)).bind fun y3=>
 some (y3.1,())
noncomputable def f51 (v1 v2 v3:Int):Option bZ:=
 cond (decide (v2≤v1)) (
  some ((decide (v1≤v3)),())) (
  some (false,()))
noncomputable def f61 (v1 v2:Int):Option bZ:=
 cond (decide (0≤v2)) (
  cond (decide (v2≤32)) (
   cond (decide (0≤v1)) (
    cond (decide (v1<4294967296)) (
     cond (!(decide ((IntKind.wrap .i64 (32-v2))<0))) (
      some ((decide ((aN .and .i64 v1 (IntKind.wrap .i64 ((IntKind.wrap .i64 (1 * ((2:Int) ^ ((min (Int.toNat (IntKind.wrap .i64 (32-v2))) 64):Nat))))-1)))=0)),())) (
      none)) (
     some (false,()))) (
    some (false,()))) (
   some (false,()))) (
  some (false,()))
noncomputable def f29 (v1 v2:Int):Option bh:=
 ((f61 v1 v2)).bind fun y3=>
 cond (!y3.1) (
  some (0,())) (
  cond (!(decide ((IntKind.wrap .i64 (32-v2))<0))) (
   some ((IntKind.wrap .i64 (1 * ((2:Int) ^ ((min (Int.toNat (IntKind.wrap .i64 (32-v2))) 64):Nat)))),())) (
   none))
noncomputable def f90 (v1 v2 v3:Int):Option bh:=
 ((f61 v1 v2)).bind fun y4=>
 cond (!y4.1) (
  some ((-1),())) (
  cond (decide (v3<0)) (
   some ((-1),())) (
   cond (decide (4294967296≤v3)) (
    some ((-1),())) (
    cond (!(decide ((IntKind.wrap .i64 (32-v2))<0))) (
     cond (!(decide ((Int.fdiv (aN .xor .i64 v3 v1) ((2:Int) ^ ((min (Int.toNat (IntKind.wrap .i64 (32-v2))) 64):Nat)))=0))) (
      some ((-1),())) (
      some ((IntKind.wrap .i64 (v3-v1)),()))) (
     none))))
noncomputable def f54 (v1 v2 v3 v4:Int):Option bZ:=
 ((f61 v1 v2)).bind fun y5=>
 cond y5.1 (
  ((f61 v3 v4)).bind fun y6=>
  cond y6.1 (
   ((f90 v1 v2 v3)).bind fun y7=>
   cond (!(decide (y7.1=(-1)))) (
    some (true,())) (
    ((f90 v3 v4 v1)).bind fun y8=>
    some ((!(decide (y8.1=(-1)))),()))) (
   some (false,()))) (
  some (false,()))
noncomputable def f30 (v1 v2 v3 v4 v5 v6 v7 v8:Int):Option bh:=
 ((f29 v1 v2)).bind fun y9=>
 ((f29 v3 v4)).bind fun y10=>
 cond (decide ((pT y9.1 y10.1)=0)) (
  some (0,())) (
  cond (!(decide (y10.1=0))) (
   some ((IntKind.wrap .i64 ((IntKind.wrap .i64 (Int.tdiv (IntKind.wrap .i64 (y9.1-1)) y10.1))+1)),())) (
   none))
noncomputable def f58 (v1 v2 v3 v4 v5 v6 v7 v8:Int):Option bh:=
 some ((IntKind.wrap .i64 ((IntKind.wrap .i64 ((IntKind.wrap .i64 (v6-v5))+1))-v7)),())
noncomputable def f28 (v1 v2 v3 v4 v5 v6 v7 v8:Int):Option bZ:=
 ((f29 v1 v2)).bind fun y9=>
 ((f51 y9.1 1 32)).bind fun y10=>
 cond y10.1 (
  ((f29 v3 v4)).bind fun y11=>
  ((f51 y11.1 1 4)).bind fun y12=>
  cond (!y12.1) (
   some (false,())) (
   ((f54 v1 v2 v3 v4)).bind fun y13=>
   cond (!(!y13.1)) (
    some (false,())) (
    ((f51 v5 1 v6)).bind fun y14=>
    cond y14.1 (
     cond (!(decide (v6≤65535))) (
      some (false,())) (
      ((f51 v7 0 (IntKind.wrap .i64 (v6-v5)))).bind fun y15=>
      cond y15.1 (
       ((f51 v8 1 65535)).bind fun y16=>
       cond y16.1 (
        cond (!(decide (v8=0))) (
         cond (!(decide ((IntKind.wrap .i64 (Int.tdiv v7 v8))≤8))) (
          some (false,())) (
          ((f58 v1 v2 v3 v4 v5 v6 v7 v8)).bind fun y17=>
          ((f30 v1 v2 v3 v4 v5 v6 v7 v8)).bind fun y18=>
          cond (!(decide (y18.1≤y17.1))) (
           some (false,())) (
           some (true,())))) (
         none)) (
        some (false,()))) (
       some (false,())))) (
     some (false,()))))) (
  some (false,()))
noncomputable def f31 (v1 v2 v3 v4 v5 v6 v7 v8:Int):Option bh:=
 ((f28 v1 v2 v3 v4 v5 v6 v7 v8)).bind fun y9=>
 cond (!y9.1) (
  some (0,())) (
  ((f58 v1 v2 v3 v4 v5 v6 v7 v8)).bind fun y10=>
  ((f30 v1 v2 v3 v4 v5 v6 v7 v8)).bind fun y11=>
  cond (!(decide (y11.1=0))) (
   some ((IntKind.wrap .i64 (Int.tdiv y10.1 y11.1)),())) (
   none))
noncomputable def f13 (v1 v2 v3 v4 v5 v6 v7 v8 v9:Int):Option ((Int×Int×Int)×Bool×Unit):=
 ((f28 v1 v2 v3 v4 v5 v6 v7 v8)).bind fun y10=>
 cond (!y10.1) (
  some ((0,0,0),false,())) (
  cond (decide (v9<0)) (
   some ((0,0,0),false,())) (
   ((f29 v1 v2)).bind fun y11=>
   cond (decide (y11.1≤v9)) (
    some ((0,0,0),false,())) (
    ((f30 v1 v2 v3 v4 v5 v6 v7 v8)).bind fun y12=>
    ((f31 v1 v2 v3 v4 v5 v6 v7 v8)).bind fun y13=>
    cond (!(decide (y12.1=0))) (
     cond (!(decide (y12.1=0))) (
      some (((IntKind.wrap .i64 (Int.tdiv v9 y12.1)),(IntKind.wrap .i64 (v5+(IntKind.wrap .i64 ((Int.tmod v9 y12.1) * y13.1)))),(IntKind.wrap .i64 ((IntKind.wrap .i64 ((IntKind.wrap .i64 (v5+(IntKind.wrap .i64 ((Int.tmod v9 y12.1) * y13.1))))+y13.1))-1))),true,())) (
      none)) (
     none))))
noncomputable def f15 (v1 v2 v3 v4 v5 v6 v7 v8 v9 v10:Int):Option bh:=
 ((f28 v1 v2 v3 v4 v5 v6 v7 v8)).bind fun y11=>
 cond (!y11.1) (
  some ((-1),())) (
  cond (decide (v9<0)) (
   some ((-1),())) (
   ((f29 v3 v4)).bind fun y12=>
   cond (decide (y12.1≤v9)) (
    some ((-1),())) (
    cond (decide (v10<v5)) (
     some ((-1),())) (
     cond (decide (v6<v10)) (
      some ((-1),())) (
      ((f30 v1 v2 v3 v4 v5 v6 v7 v8)).bind fun y13=>
      ((f31 v1 v2 v3 v4 v5 v6 v7 v8)).bind fun y14=>
      cond (!(decide (y14.1=0))) (
       ((f13 v1 v2 v3 v4 v5 v6 v7 v8 (IntKind.wrap .i64 ((IntKind.wrap .i64 (v9 * y13.1))+(IntKind.wrap .i64 (Int.tdiv (IntKind.wrap .i64 (v10-v5)) y14.1)))))).bind fun y15=>
       cond (decide (y13.1≤(IntKind.wrap .i64 (Int.tdiv (IntKind.wrap .i64 (v10-v5)) y14.1)))) (
        some ((-1),())) (
        cond (!y15.2.1) (
         some ((-1),())) (
         cond ((decide (y15.1.1=0))&&((decide (y15.1.2.1=0))&&((decide (y15.1.2.2=0))&&true))) (
          some ((-1),())) (
          some ((IntKind.wrap .i64 ((IntKind.wrap .i64 (v9 * y13.1))+(IntKind.wrap .i64 (Int.tdiv (IntKind.wrap .i64 (v10-v5)) y14.1)))),()))))) (
       none))))))
noncomputable def f33 (v1 v2 v3 v4 v5 v6 v7 v8:Int):Option bh:=
 ((f28 v1 v2 v3 v4 v5 v6 v7 v8)).bind fun y9=>
 cond (!y9.1) (
  some (0,())) (
  cond (!(decide (v8=0))) (
   some ((IntKind.wrap .i64 (Int.tdiv v7 v8)),())) (
   none))
noncomputable def f16 (v1 v2 v3 v4 v5 v6 v7 v8 v9 v10:Int):Option bh:=
 ((f28 v1 v2 v3 v4 v5 v6 v7 v8)).bind fun y11=>
 cond (!y11.1) (
  some ((-1),())) (
  cond (decide (v9<0)) (
   some ((-1),())) (
   ((f29 v3 v4)).bind fun y12=>
   cond (decide (y12.1≤v9)) (
    some ((-1),())) (
    cond (decide (v10<(IntKind.wrap .i64 ((IntKind.wrap .i64 (v6-v7))+1)))) (
     some ((-1),())) (
     cond (decide (v6<v10)) (
      some ((-1),())) (
      cond (!(decide (v8=0))) (
       ((f33 v1 v2 v3 v4 v5 v6 v7 v8)).bind fun y13=>
       cond (decide ((IntKind.wrap .i64 (Int.tdiv (IntKind.wrap .i64 (v10-(IntKind.wrap .i64 ((IntKind.wrap .i64 (v6-v7))+1)))) v8))<y13.1)) (
        some ((IntKind.wrap .i64 (Int.tdiv (IntKind.wrap .i64 (v10-(IntKind.wrap .i64 ((IntKind.wrap .i64 (v6-v7))+1)))) v8)),())) (
        some ((-1),()))) (
       none))))))
abbrev dN:Type:=(Unit×Unit×Int×Unit)×VB×(Unit)
abbrev r5:Type:=(Unit)×VB×(Unit)
abbrev r4:Type:=(Unit)×VB×(Unit)
noncomputable def kF (v1 v2 v3 v4 v5 v6 v7 v8 v9 v10 v11 v12 v13:Int)(v14:bn):Option (R3 dN r5 r4):=
 cond (decide (0≤v1)) (
  cond ((decide (0≤v1))&&(decide (v1<(v14.length:Int)))) (
   cond (decide ((rd aX v14 (Int.toNat v1)).2.1=v10)) (
    cond (decide ((rd aX v14 (Int.toNat v1)).2.2.1=v13)) (
     cond (decide ((rd aX v14 (Int.toNat v1)).2.2.2.1≤v11)) (
      cond (decide ((rd aX v14 (Int.toNat v1)).2.2.2.2=(-1))) (
       some (R3.ret ((),((v2,v3,v4,v5,v6,v7,v8,v9,()),(v10,()),(v11,()),((rd aX v14 (Int.toNat v1)).1,()),(v13,()),(v14,()),((),(),(),(),(),(),(),(),(),(),(),(),(),(),(),(),(),(),(),(),(),(),(),(),(),(),(),(),(),(),(),(),(),(),(),(),(),(),(),(),(),(),(),(),(),(),(),(),(),(),(),(),(),(),(),(),(),(),(),(),(),()),()),()))) (
       cond (decide (v11<(rd aX v14 (Int.toNat v1)).2.2.2.2)) (
        some (R3.ret ((),((v2,v3,v4,v5,v6,v7,v8,v9,()),(v10,()),(v11,()),((rd aX v14 (Int.toNat v1)).1,()),(v13,()),(v14,()),((),(),(),(),(),(),(),(),(),(),(),(),(),(),(),(),(),(),(),(),(),(),(),(),(),(),(),(),(),(),(),(),(),(),(),(),(),(),(),(),(),(),(),(),(),(),(),(),(),(),(),(),(),(),(),(),(),(),(),(),(),()),()),()))) (
        some (R3.next (((),(),(IntKind.wrap .i64 (v1-1)),()),((v2,v3,v4,v5,v6,v7,v8,v9,()),(v10,()),(v11,()),(v12,()),(v13,()),(v14,()),((),(),(),(),(),(),(),(),(),(),(),(),(),(),(),(),(),(),(),(),(),(),(),(),(),(),(),(),(),(),(),(),(),(),(),(),(),(),(),(),(),(),(),(),(),(),(),(),(),(),(),(),(),(),(),(),(),(),(),(),(),()),()),()))))) (
      some (R3.next (((),(),(IntKind.wrap .i64 (v1-1)),()),((v2,v3,v4,v5,v6,v7,v8,v9,()),(v10,()),(v11,()),(v12,()),(v13,()),(v14,()),((),(),(),(),(),(),(),(),(),(),(),(),(),(),(),(),(),(),(),(),(),(),(),(),(),(),(),(),(),(),(),(),(),(),(),(),(),(),(),(),(),(),(),(),(),(),(),(),(),(),(),(),(),(),(),(),(),(),(),(),(),()),()),())))) (
     some (R3.next (((),(),(IntKind.wrap .i64 (v1-1)),()),((v2,v3,v4,v5,v6,v7,v8,v9,()),(v10,()),(v11,()),(v12,()),(v13,()),(v14,()),((),(),(),(),(),(),(),(),(),(),(),(),(),(),(),(),(),(),(),(),(),(),(),(),(),(),(),(),(),(),(),(),(),(),(),(),(),(),(),(),(),(),(),(),(),(),(),(),(),(),(),(),(),(),(),(),(),(),(),(),(),()),()),())))) (
    some (R3.next (((),(),(IntKind.wrap .i64 (v1-1)),()),((v2,v3,v4,v5,v6,v7,v8,v9,()),(v10,()),(v11,()),(v12,()),(v13,()),(v14,()),((),(),(),(),(),(),(),(),(),(),(),(),(),(),(),(),(),(),(),(),(),(),(),(),(),(),(),(),(),(),(),(),(),(),(),(),(),(),(),(),(),(),(),(),(),(),(),(),(),(),(),(),(),(),(),(),(),(),(),(),(),()),()),())))) (
   none)) (
  some (R3.out ((),((v2,v3,v4,v5,v6,v7,v8,v9,()),(v10,()),(v11,()),(v12,()),(v13,()),(v14,()),((),(),(),(),(),(),(),(),(),(),(),(),(),(),(),(),(),(),(),(),(),(),(),(),(),(),(),(),(),(),(),(),(),(),(),(),(),(),(),(),(),(),(),(),(),(),(),(),(),(),(),(),(),(),(),(),(),(),(),(),(),()),()),())))
noncomputable def b9 (z:dN):Option (R3 dN r5 r4):=kF z.1.2.2.1 z.2.1.1.1 z.2.1.1.2.1 z.2.1.1.2.2.1 z.2.1.1.2.2.2.1 z.2.1.1.2.2.2.2.1 z.2.1.1.2.2.2.2.2.1 z.2.1.1.2.2.2.2.2.2.1 z.2.1.1.2.2.2.2.2.2.2.1 z.2.1.2.1.1 z.2.1.2.2.1.1 z.2.1.2.2.2.1.1 z.2.1.2.2.2.2.1.1 z.2.1.2.2.2.2.2.1.1
noncomputable def f14 (v1 v2 v3 v4 v5 v6 v7 v8:Int)(v9:bn)(v10 v11 v12:Int):Option bh:=
 ((f15 v1 v2 v3 v4 v5 v6 v7 v8 v10 v11)).bind fun y13=>
 cond (!(decide (y13.1=(-1)))) (
  some (y13.1,())) (
  ((f16 v1 v2 v3 v4 v5 v6 v7 v8 v10 v11)).bind fun y14=>
  cond (decide (y14.1=(-1))) (
   some ((-1),())) (
   ((iter aI b9 (((),(),(IntKind.wrap .i64 ((v9.length:Int)-1)),()),((v1,v2,v3,v4,v5,v6,v7,v8,()),(v10,()),(v12,()),(0,()),(y14.1,()),(v9,()),((),(),(),(),(),(),(),(),(),(),(),(),(),(),(),(),(),(),(),(),(),(),(),(),(),(),(),(),(),(),(),(),(),(),(),(),(),(),(),(),(),(),(),(),(),(),(),(),(),(),(),(),(),(),(),(),(),(),(),(),(),()),()),()))).bind fun r=>match r with
   | .inl y15=>
     some ((-1),())
   | .inr z16=>
     some (z16.2.1.2.2.2.1.1,())))
abbrev IA:Type:=(Int×dL×Int×Int×Unit)×(Unit)×(Unit)
abbrev MS:Type:=bh×(Unit)×(Unit)
abbrev Nx:Type:=Unit×Unit×Unit
noncomputable def Tn (v1:Int)(v2:dL)(v3 v4:Int):Option (R3 IA MS Nx):=
 cond (decide (v4<v3)) (
  cond ((decide (0≤v4))&&(decide (v4<(v2.length:Int)))) (
   some (R3.next (((IntKind.wrap .i64 (v1+(((rd bT v2 (Int.toNat v4)).2.1.length:Nat):Int))),v2,v3,(IntKind.wrap .i64 (v4+1)),()),(),()))) (
   none)) (
  some (R3.out ((v1,()),(),())))
noncomputable def Ny (z:IA):Option (R3 IA MS Nx):=Tn z.1.1 z.1.2.1 z.1.2.2.1 z.1.2.2.2.1
noncomputable def f63 (v1:dL):Option bh:=
 ((iter aI Ny ((0,v1,(v1.length:Int),0,()),(),()))).bind fun r=>match r with
 | .inl y2=>
   some (y2.1.1,())
 | .inr z3=>
   none
abbrev Iw:Type:=(Unit×Int×dL×Int×Int×Unit)×((Int×dL×Unit)×Unit)×(Unit)
abbrev NF:Type:=pH×((Int×dL×Unit)×Unit)×(Unit)
abbrev Nv:Type:=bZ×(Unit)×(Unit)
noncomputable def T9 (v1:Int)(v2:dL)(v3 v4 v5:Int)(v6:dL):Option (R3 Iw NF Nv):=
 cond (decide (v4<v3)) (
  cond ((decide (0≤v4))&&(decide (v4<(v2.length:Int)))) (
   cond (decide ((rd bT v2 (Int.toNat v4)).1≤v1)) (
    some (R3.ret ((false,()),(),()))) (
    cond (decide (1073741824<(rd bT v2 (Int.toNat v4)).1)) (
     some (R3.ret ((false,()),(),()))) (
     cond (decide ((rd bT v2 (Int.toNat v4)).2.2<0)) (
      some (R3.ret ((false,()),(),()))) (
      cond (decide ((((rd bT v2 (Int.toNat v4)).2.1.length:Nat):Int)<(rd bT v2 (Int.toNat v4)).2.2)) (
       some (R3.ret ((false,()),(),()))) (
       some (R3.next (((),(rd bT v2 (Int.toNat v4)).1,v2,v3,(IntKind.wrap .i64 (v4+1)),()),((v5,v6,()),()),()))))))) (
   none)) (
  some (R3.out (((),()),((v5,v6,()),()),())))
noncomputable def Nt (z:Iw):Option (R3 Iw NF Nv):=T9 z.1.2.1 z.1.2.2.1 z.1.2.2.2.1 z.1.2.2.2.2.1 z.2.1.1.1 z.2.1.1.2.1
noncomputable def f34 (v1:Int)(v2:dL):Option bZ:=
 ((iter aI Nt (((),0,v2,(v2.length:Int),0,()),((v1,v2,()),()),()))).bind fun r=>match r with
 | .inl y3=>
   cond (decide (0≤y3.2.1.1.1)) (
    cond (decide (y3.2.1.1.1≤65536)) (
     cond (decide ((y3.2.1.1.2.1.length:Int)≤12)) (
      ((f63 y3.2.1.1.2.1)).bind fun y5=>
      some ((decide (y5.1≤y3.2.1.1.1)),())) (
      some (false,()))) (
     some (false,()))) (
    some (false,()))
 | .inr z4=>
   some (z4.1.1,())
noncomputable def f133 (v1:Int):Option bZ:=
 some ((decide (v1<128)),())
abbrev jc:Type:=JP×(Unit)×(Unit)
abbrev oQ:Type:=(Unit)×(Unit)×(Unit)
abbrev oN:Type:=bh×(Unit)×(Unit)
noncomputable def zR (v1:aR)(v2 v3:Int):Option (R3 jc oQ oN):=
 cond (decide (v3<v2)) (
  cond ((decide (0≤v3))&&(decide (v3<(v1.length:Int)))) (
   ((f133 (rd tw v1 (Int.toNat v3)))).bind fun y4=>
   cond y4.1 (
    some (R3.ret ((v3,()),(),()))) (
    some (R3.next ((v1,(),v2,(IntKind.wrap .i64 (v3+1)),()),(),())))) (
   none)) (
  some (R3.out ((),(),())))
noncomputable def o6 (z:jc):Option (R3 jc oQ oN):=zR z.1.1 z.1.2.2.1 z.1.2.2.2.1
noncomputable def f97 (v1:aR):Option bZ:=
 cond (decide ((v1.length:Int)<6)) (
  ((iter aI o6 ((v1,(),(v1.length:Int),0,()),(),()))).bind fun r=>match r with
  | .inl y2=>
    some (true,())
  | .inr z3=>
    some ((!(decide (0≤z3.1.1))),())) (
  some (false,()))
noncomputable def f120 (v1:Int):Option bZ:=
 cond (decide (0≤v1)) (
  some ((decide (v1≤1099511627776)),())) (
  some (false,()))
abbrev I7:Type:=(Int×Int×aR×Int×Int×Unit)×(Unit)×(Unit)
abbrev M5:Type:=(Unit)×(Unit)×(Unit)
abbrev NC:Type:=Bn×(Unit)×(Unit)
noncomputable def TV (v1 v2:Int)(v3:aR)(v4 v5:Int):Option (R3 I7 M5 NC):=
 cond (decide (v5<v4)) (
  cond ((decide (0≤v5))&&(decide (v5<(v3.length:Int)))) (
   cond (!(decide ((IntKind.wrap .i64 (7 * v5))<0))) (
    cond (decide (128≤(rd tw v3 (Int.toNat v5)))) (
     some (R3.next ((v1,(aN .or .i64 v2 (IntKind.wrap .i64 ((IntKind.wrap .i64 (aN .andNot .u8 (rd tw v3 (Int.toNat v5)) 128)) * ((2:Int) ^ ((min (Int.toNat (IntKind.wrap .i64 (7 * v5))) 64):Nat))))),v3,v4,(IntKind.wrap .i64 (v5+1)),()),(),()))) (
     cond (decide ((rd tw v3 (Int.toNat v5))=0)) (
      cond (decide (0<v5)) (
       some (R3.out ((),(),()))) (
       ((f120 (aN .or .i64 v2 (IntKind.wrap .i64 ((IntKind.wrap .i64 (aN .andNot .u8 (rd tw v3 (Int.toNat v5)) 128)) * ((2:Int) ^ ((min (Int.toNat (IntKind.wrap .i64 (7 * v5))) 64):Nat))))))).bind fun y6=>
       cond (!y6.1) (
        some (R3.out ((),(),()))) (
        some (R3.ret (((aN .or .i64 v2 (IntKind.wrap .i64 ((IntKind.wrap .i64 (aN .andNot .u8 (rd tw v3 (Int.toNat v5)) 128)) * ((2:Int) ^ ((min (Int.toNat (IntKind.wrap .i64 (7 * v5))) 64):Nat))))),(IntKind.wrap .i64 ((IntKind.wrap .i64 (v1+v5))+1)),()),(),()))))) (
      ((f120 (aN .or .i64 v2 (IntKind.wrap .i64 ((IntKind.wrap .i64 (aN .andNot .u8 (rd tw v3 (Int.toNat v5)) 128)) * ((2:Int) ^ ((min (Int.toNat (IntKind.wrap .i64 (7 * v5))) 64):Nat))))))).bind fun y7=>
      cond (!y7.1) (
       some (R3.out ((),(),()))) (
       some (R3.ret (((aN .or .i64 v2 (IntKind.wrap .i64 ((IntKind.wrap .i64 (aN .andNot .u8 (rd tw v3 (Int.toNat v5)) 128)) * ((2:Int) ^ ((min (Int.toNat (IntKind.wrap .i64 (7 * v5))) 64):Nat))))),(IntKind.wrap .i64 ((IntKind.wrap .i64 (v1+v5))+1)),()),(),())))))) (
    none)) (
   none)) (
  some (R3.out ((),(),())))
noncomputable def NT (z:I7):Option (R3 I7 M5 NC):=TV z.1.1 z.1.2.1 z.1.2.2.1 z.1.2.2.2.1 z.1.2.2.2.2.1
noncomputable def f98 (v1:aR)(v2:Int):Option Bn:=
 cond (decide (v2<0)) (
  some (0,(-1),())) (
  cond (decide ((v1.length:Int)<v2)) (
   some (0,(-1),())) (
   cond (((decide (0≤v2))&&(decide (v2≤(pT (v1.length:Int) (IntKind.wrap .i64 (v2+(pT 6 (IntKind.wrap .i64 ((v1.length:Int)-v2)))))))))&&(decide ((pT (v1.length:Int) (IntKind.wrap .i64 (v2+(pT 6 (IntKind.wrap .i64 ((v1.length:Int)-v2))))))≤(v1.length:Int)))) (
    ((iter aI NT ((v2,0,(List.drop (Int.toNat v2) (List.take (Int.toNat (pT (v1.length:Int) (IntKind.wrap .i64 (v2+(pT 6 (IntKind.wrap .i64 ((v1.length:Int)-v2))))))) v1)),(((List.drop (Int.toNat v2) (List.take (Int.toNat (pT (v1.length:Int) (IntKind.wrap .i64 (v2+(pT 6 (IntKind.wrap .i64 ((v1.length:Int)-v2))))))) v1)).length:Nat):Int),0,()),(),()))).bind fun r=>match r with
    | .inl y3=>
      some (0,(-1),())
    | .inr z4=>
      some (z4.1.1,z4.1.2.1,())) (
    none)))
abbrev BW:Type:=(aR×aR×Int×Int×Unit)×(Unit)×(Unit)
abbrev Kj:Type:=(Unit)×(Unit)×(Unit)
abbrev Hp:Type:=bZ×(Unit)×(Unit)
noncomputable def OW (v1 v2:aR)(v3 v4:Int):Option (R3 BW Kj Hp):=
 cond (decide (v4<v3)) (
  cond ((decide (0≤v4))&&(decide (v4<(v1.length:Int)))) (
   cond ((decide (0≤v4))&&(decide (v4<(v2.length:Int)))) (
    cond (!(decide ((rd tw v1 (Int.toNat v4))=(rd tw v2 (Int.toNat v4))))) (
     some (R3.ret ((false,()),(),()))) (
     some (R3.next ((v1,v2,v3,(IntKind.wrap .i64 (v4+1)),()),(),())))) (
    none)) (
   none)) (
  some (R3.out ((),(),())))
noncomputable def Ij (z:BW):Option (R3 BW Kj Hp):=OW z.1.1 z.1.2.1 z.1.2.2.1 z.1.2.2.2.1
noncomputable def f134 (v1 v2:aR):Option bZ:=
 cond (!(decide ((v1.length:Int)=(v2.length:Int)))) (
  some (false,())) (
  ((iter aI Ij ((v1,v2,(v1.length:Int),0,()),(),()))).bind fun r=>match r with
  | .inl y3=>
    some (true,())
  | .inr z4=>
    some (z4.1.1,()))
noncomputable def f135 (v1:Int):Option pO:=
 some ([(IntKind.wrap .u8 (Int.fdiv v1 16777216)),(IntKind.wrap .u8 (Int.fdiv v1 65536)),(IntKind.wrap .u8 (Int.fdiv v1 256)),(IntKind.wrap .u8 v1)],())
abbrev gD:Type:=(Unit×aR×Int×Int×Unit)×jA×(Unit)
abbrev ir:Type:=(Unit×Int×aR×Int×Int×Int×Unit)×jA×(Unit)
abbrev nC:Type:=(Unit×aR×Int×Int×Unit)×jA×(Unit)
abbrev mP:Type:=Unit×pH×Unit
noncomputable def vC (v1:Int)(v2:aR)(v3 v4 v5 v6:Int):Option (R3 ir nC mP):=
 cond (decide (v5<8)) (
  cond (!(decide ((IntKind.wrap .i64 (7-v5))<0))) (
   cond (!((decide ((Int.fdiv v6 2147483648)=1)) == (decide ((aN .and .u8 (Int.fdiv v1 ((2:Int) ^ ((min (Int.toNat (IntKind.wrap .i64 (7-v5))) 8):Nat))) 1)=1)))) (
    some (R3.next (((),v1,v2,v3,v4,(IntKind.wrap .i64 (v5+1)),()),(((aN .xor .u32 (IntKind.wrap .u32 (v6 * 2)) 79764919),()),()),()))) (
    some (R3.next (((),v1,v2,v3,v4,(IntKind.wrap .i64 (v5+1)),()),(((IntKind.wrap .u32 (v6 * 2)),()),()),())))) (
   none)) (
  some (R3.out (((),v2,v3,v4,()),((v6,()),()),())))
noncomputable def lg (z:ir):Option (R3 ir nC mP):=vC z.1.2.1 z.1.2.2.1 z.1.2.2.2.1 z.1.2.2.2.2.1 z.1.2.2.2.2.2.1 z.2.1.1.1
abbrev mz:Type:=(Unit)×jA×(Unit)
abbrev lR:Type:=Unit×pH×Unit
noncomputable def ve (v1:aR)(v2 v3 v4:Int):Option (R3 gD mz lR):=
 cond (decide (v3<v2)) (
  cond ((decide (0≤v3))&&(decide (v3<(v1.length:Int)))) (
   ((iter aI lg (((),(rd tw v1 (Int.toNat v3)),v1,v2,v3,0,()),((v4,()),()),()))).bind fun r=>match r with
   | .inl y5=>
     some (R3.next (((),y5.1.2.1,y5.1.2.2.1,(IntKind.wrap .i64 (y5.1.2.2.2.1+1)),()),((y5.2.1.1.1,()),()),()))
   | .inr z6=>
     some (R3.ret ((),((),()),()))) (
   none)) (
  some (R3.out ((),((v4,()),()),())))
noncomputable def mB (z:gD):Option (R3 gD mz lR):=ve z.1.2.1 z.1.2.2.1 z.1.2.2.2.1 z.2.1.1.1
noncomputable def f172 (v1:Int)(v2:aR):Option bh:=
 ((iter aI mB (((),v2,(v2.length:Int),0,()),(((aN .xor .u32 v1 4294967295),()),()),()))).bind fun r=>match r with
 | .inl y3=>
   some ((aN .xor .u32 y3.2.1.1.1 4294967295),())
 | .inr z4=>
   none
noncomputable def f136 (v1:aR):Option bh:=
 ((f172 0 v1)).bind fun y2=>
 some (y2.1,())
noncomputable def f99 (v1:aR):Option sO:=
 cond (decide ((IntKind.wrap .i64 ((v1.length:Int)-4))<0)) (
  some ([],false,())) (
  cond (((decide (0≤(IntKind.wrap .i64 ((v1.length:Int)-4))))&&(decide ((IntKind.wrap .i64 ((v1.length:Int)-4))≤(v1.length:Int))))&&(decide ((v1.length:Int)≤(v1.length:Int)))) (
   cond ((decide (0≤(IntKind.wrap .i64 ((v1.length:Int)-4))))&&(decide ((IntKind.wrap .i64 ((v1.length:Int)-4))≤(v1.length:Int)))) (
    ((f136 (List.drop 0 (List.take (Int.toNat (IntKind.wrap .i64 ((v1.length:Int)-4))) v1)))).bind fun y2=>
    ((f135 y2.1)).bind fun y3=>
    ((f134 (List.drop (Int.toNat (IntKind.wrap .i64 ((v1.length:Int)-4))) (List.take (Int.toNat (v1.length:Int)) v1)) y3.1)).bind fun y4=>
    cond (!y4.1) (
     some ([],false,())) (
     cond ((decide (0≤(IntKind.wrap .i64 ((v1.length:Int)-4))))&&(decide ((IntKind.wrap .i64 ((v1.length:Int)-4))≤(v1.length:Int)))) (
      ((dO (List.drop 0 (List.take (Int.toNat (IntKind.wrap .i64 ((v1.length:Int)-4))) v1)))).bind fun y5=>
      some (y5.1,true,())) (
      none))) (
    none)) (
   none))
noncomputable def f70 (v1:aR)(v2:Int):Option ((Int×aR)×Int×Int×Unit):=
 cond (decide (v2<0)) (
  some ((0,[]),0,2,())) (
  cond (decide ((v1.length:Int)<v2)) (
   some ((0,[]),0,2,())) (
   cond (decide (v2=(v1.length:Int))) (
    some ((0,[]),0,4,())) (
    cond (((decide (0≤(IntKind.wrap .i64 (v2+1))))&&(decide ((IntKind.wrap .i64 (v2+1))≤(v1.length:Int))))&&(decide ((v1.length:Int)≤(v1.length:Int)))) (
     ((f97 (List.drop (Int.toNat (IntKind.wrap .i64 (v2+1))) (List.take (Int.toNat (v1.length:Int)) v1)))).bind fun y3=>
     cond y3.1 (
      some ((0,[]),0,4,())) (
      ((f98 v1 (IntKind.wrap .i64 (v2+1)))).bind fun y4=>
      cond (decide (y4.2.1=(-1))) (
       some ((0,[]),0,2,())) (
       cond (decide (1000<y4.1)) (
        some ((0,[]),0,2,())) (
        cond (decide ((v1.length:Int)<(IntKind.wrap .i64 ((IntKind.wrap .i64 (y4.2.1+y4.1))+4)))) (
         some ((0,[]),0,4,())) (
         cond ((((decide (0≤v2))&&(decide (v2≤(IntKind.wrap .i64 ((IntKind.wrap .i64 (y4.2.1+y4.1))+4)))))&&(decide ((IntKind.wrap .i64 ((IntKind.wrap .i64 (y4.2.1+y4.1))+4))≤(IntKind.wrap .i64 ((IntKind.wrap .i64 (y4.2.1+y4.1))+4)))))&&(decide ((IntKind.wrap .i64 ((IntKind.wrap .i64 (y4.2.1+y4.1))+4))≤(v1.length:Int)))) (
          ((f99 (List.drop (Int.toNat v2) (List.take (Int.toNat (IntKind.wrap .i64 ((IntKind.wrap .i64 (y4.2.1+y4.1))+4))) v1)))).bind fun y5=>
          cond (!y5.2.1) (
           some ((0,[]),0,3,())) (
           cond (decide (0<(y5.1.length:Int))) (
            cond (((decide (0≤(IntKind.wrap .i64 (y4.2.1-v2))))&&(decide ((IntKind.wrap .i64 (y4.2.1-v2))≤(y5.1.length:Int))))&&(decide ((y5.1.length:Int)≤(y5.1.length:Int)))) (
             some (((IntKind.wrap .i64 (rd tw y5.1 0)),(List.drop (Int.toNat (IntKind.wrap .i64 (y4.2.1-v2))) (List.take (Int.toNat (y5.1.length:Int)) y5.1))),(IntKind.wrap .i64 ((IntKind.wrap .i64 (y4.2.1+y4.1))+4)),0,())) (
             none)) (
            none))) (
          none)))))) (
     none))))
noncomputable def f107 (v1 v2 v3:Int):Option bZ:=
 cond (decide (v2≤v1)) (
  some ((decide (v1≤v3)),())) (
  some (false,()))
noncomputable def f106 (v1 v2 v3:Int)(v4:Bool):Option bZ:=
 ((f107 v1 1 8)).bind fun y5=>
 cond y5.1 (
  ((f107 v2 1 1048576)).bind fun y6=>
  cond y6.1 (
   ((f107 v3 0 1048576)).bind fun y7=>
   some (y7.1,())) (
   some (false,()))) (
  some (false,()))
noncomputable def f145 (v1 v2 v3 v4 v5 v6:Int):Option bZ:=
 cond (decide (v1<(IntKind.wrap .i64 (v4+v5)))) (
  some ((decide (v4<(IntKind.wrap .i64 (v1+v2)))),())) (
  some (false,()))
noncomputable def f146 (v1 v2 v3 v4:Int):Option bZ:=
 cond (decide (0≤v1)) (
  cond (decide (1≤v2)) (
   cond (decide (v1<v4)) (
    cond (decide (v2≤(IntKind.wrap .i64 (v4-v1)))) (
     cond (decide (0≤v3)) (
      some ((decide (v3<2)),())) (
      some (false,()))) (
     some (false,()))) (
    some (false,()))) (
   some (false,()))) (
  some (false,()))
abbrev BA:Type:=(aW×Int×aW×Int×Int×Unit)×(Unit)×(Unit)
abbrev gJ:Type:=(aW×Unit×Int×Int×Unit)×(zN×Unit)×(Unit)
abbrev lY:Type:=(Unit)×(zN×Unit)×(Unit)
abbrev mo:Type:=bh×(zN×Unit)×(Unit)
noncomputable def wY (v1:aW)(v2 v3 v4 v5 v6:Int):Option (R3 gJ lY mo):=
 cond (decide (v3<v2)) (
  cond ((decide (0≤v3))&&(decide (v3<(v1.length:Int)))) (
   ((f145 v4 v5 v6 (rd cr v1 (Int.toNat v3)).1 (rd cr v1 (Int.toNat v3)).2.1 (rd cr v1 (Int.toNat v3)).2.2)).bind fun y7=>
   cond y7.1 (
    some (R3.ret ((v3,()),((v4,v5,v6,()),()),()))) (
    some (R3.next ((v1,(),v2,(IntKind.wrap .i64 (v3+1)),()),((v4,v5,v6,()),()),())))) (
   none)) (
  some (R3.out ((),((v4,v5,v6,()),()),())))
noncomputable def mX (z:gJ):Option (R3 gJ lY mo):=wY z.1.1 z.1.2.2.1 z.1.2.2.2.1 z.2.1.1.1 z.2.1.1.2.1 z.2.1.1.2.2.1
abbrev H7:Type:=(Unit)×(Unit)×(Unit)
abbrev Ka:Type:=bZ×(Unit)×(Unit)
noncomputable def QN (v1:aW)(v2:Int)(v3:aW)(v4 v5:Int):Option (R3 BA H7 Ka):=
 cond (decide (v5<v4)) (
  cond ((decide (0≤v5))&&(decide (v5<(v3.length:Int)))) (
   ((f146 (rd cr v3 (Int.toNat v5)).1 (rd cr v3 (Int.toNat v5)).2.1 (rd cr v3 (Int.toNat v5)).2.2 v2)).bind fun y6=>
   cond (!y6.1) (
    some (R3.ret ((false,()),(),()))) (
    cond ((decide (0≤v5))&&(decide (v5≤(v1.length:Int)))) (
     ((iter aI mX (((List.drop 0 (List.take (Int.toNat v5) v1)),(),(((List.drop 0 (List.take (Int.toNat v5) v1)).length:Nat):Int),0,()),(((rd cr v3 (Int.toNat v5)).1,(rd cr v3 (Int.toNat v5)).2.1,(rd cr v3 (Int.toNat v5)).2.2,()),()),()))).bind fun r=>match r with
     | .inl y7=>
       some (R3.next ((v1,v2,v3,v4,(IntKind.wrap .i64 (v5+1)),()),(),()))
     | .inr z8=>
       cond (decide (0≤z8.1.1)) (
        some (R3.ret ((false,()),(),()))) (
        some (R3.next ((v1,v2,v3,v4,(IntKind.wrap .i64 (v5+1)),()),(),())))) (
     none))) (
   none)) (
  some (R3.out ((),(),())))
noncomputable def Iv (z:BA):Option (R3 BA H7 Ka):=QN z.1.1 z.1.2.1 z.1.2.2.1 z.1.2.2.2.1 z.1.2.2.2.2.1
noncomputable def f108 (v1:aW)(v2:Int):Option bZ:=
 cond (decide (v2<0)) (
  some (false,())) (
  cond (decide (4<v2)) (
   some (false,())) (
   cond (decide (3<(v1.length:Int))) (
    some (false,())) (
    ((iter aI Iv ((v1,v2,v1,(v1.length:Int),0,()),(),()))).bind fun r=>match r with
    | .inl y3=>
      some (true,())
    | .inr z4=>
      some (z4.1.1,()))))
noncomputable def f109 (v1 v2 v3 v4 v5 v6 v7 v8 v9 v10 v11:Int)(v12:Bool)(v13:Int)(v14:aW)(v15:bn)(v16:aW):Option bh:=
 ((f29 v3 v4)).bind fun y17=>
 some (y17.1,())
noncomputable def f148 (v1 v2 v3 v4 v5 v6 v7 v8 v9 v10:Int):Option ((Int×Int×Int)×Bool×Unit):=
 cond (decide (v9<0)) (
  some ((0,0,0),false,())) (
  ((f29 v3 v4)).bind fun y11=>
  cond (decide (y11.1≤v9)) (
   some ((0,0,0),false,())) (
   cond (decide (v10<0)) (
    some ((0,0,0),false,())) (
    ((f33 v1 v2 v3 v4 v5 v6 v7 v8)).bind fun y12=>
    cond (decide (y12.1≤v10)) (
     some ((0,0,0),false,())) (
     some ((v9,(IntKind.wrap .i64 ((IntKind.wrap .i64 ((IntKind.wrap .i64 (v6-v7))+1))+(IntKind.wrap .i64 (v10 * v8)))),(IntKind.wrap .i64 ((IntKind.wrap .i64 ((IntKind.wrap .i64 ((IntKind.wrap .i64 ((IntKind.wrap .i64 (v6-v7))+1))+(IntKind.wrap .i64 (v10 * v8))))+v8))-1))),true,())))))
noncomputable def f177 (v1 v2 v3 v4:Int):Option bZ:=
 cond (decide (0≤v1)) (
  cond (decide (v1≤4)) (
   cond (decide (1≤v2)) (
    cond (decide (v2≤4)) (
     cond (decide (v1≤v4)) (
      some ((decide (v4<(IntKind.wrap .i64 (v1+v2)))),())) (
      some (false,()))) (
     some (false,()))) (
    some (false,()))) (
   some (false,()))) (
  some (false,()))
abbrev gR:Type:=(aW×Unit×Int×Int×Unit)×jA×(Unit)
abbrev mb:Type:=(Unit)×jA×(Unit)
abbrev mV:Type:=bh×jA×(Unit)
noncomputable def vY (v1:aW)(v2 v3 v4:Int):Option (R3 gR mb mV):=
 cond (decide (v3<v2)) (
  cond ((decide (0≤v3))&&(decide (v3<(v1.length:Int)))) (
   ((f177 (rd cr v1 (Int.toNat v3)).1 (rd cr v1 (Int.toNat v3)).2.1 (rd cr v1 (Int.toNat v3)).2.2 v4)).bind fun y5=>
   cond y5.1 (
    some (R3.ret ((v3,()),((v4,()),()),()))) (
    some (R3.next ((v1,(),v2,(IntKind.wrap .i64 (v3+1)),()),((v4,()),()),())))) (
   none)) (
  some (R3.out ((),((v4,()),()),())))
noncomputable def mC (z:gR):Option (R3 gR mb mV):=vY z.1.1 z.1.2.2.1 z.1.2.2.2.1 z.2.1.1.1
noncomputable def f149 (v1:aW)(v2:Int):Option bh:=
 ((iter aI mC ((v1,(),(v1.length:Int),0,()),((v2,()),()),()))).bind fun r=>match r with
 | .inl y3=>
   some ((-1),())
 | .inr z4=>
   some (z4.1.1,())
noncomputable def f150 (v1 v2 v3 v4:Int):Option bZ:=
 cond (decide (v3<v1)) (
  some (true,())) (
  cond (decide (v1=v3)) (
   some ((decide (v4<v2)),())) (
   some (false,())))
abbrev Dh:Type:=(Unit×Unit×bn×Int×Int×Unit)×(Eb×(List pG)×Unit)×(Unit)
abbrev F8:Type:=pH×vA×(Unit)
abbrev Ki:Type:=bZ×(Unit)×(Unit)
noncomputable def P6 (v1:bn)(v2 v3 v4 v5 v6 v7 v8 v9 v10 v11 v12 v13 v14:Int)(v15:Bool)(v16:Int)(v17:aW)(v18:bn)(v19:aW)(v20:(List pG)):Option (R3 Dh F8 Ki):=
 cond (decide (v3<v2)) (
  cond ((decide (0≤v3))&&(decide (v3<(v1.length:Int)))) (
   ((f13 v4 v5 v6 v7 v8 v9 v10 v11 (rd aX v1 (Int.toNat v3)).1)).bind fun y21=>
   ((f148 v4 v5 v6 v7 v8 v9 v10 v11 (rd aX v1 (Int.toNat v3)).2.1 (rd aX v1 (Int.toNat v3)).2.2.1)).bind fun y22=>
   cond (!y21.2.1) (
    some (R3.ret ((false,()),(),()))) (
    cond (!y22.2.1) (
     some (R3.ret ((false,()),(),()))) (
     ((f149 v17 (rd aX v1 (Int.toNat v3)).2.1)).bind fun y23=>
     cond (decide (y23.1=(-1))) (
      some (R3.ret ((false,()),(),()))) (
      cond v15 (
       cond (!(decide (y21.1.1=(rd aX v1 (Int.toNat v3)).2.1))) (
        some (R3.ret ((false,()),(),()))) (
        cond (decide (v12<(fk (oL v20 (rd aX v1 (Int.toNat v3)).1 (IntKind.wrap .i64 ((fk v20 (rd aX v1 (Int.toNat v3)).1)+1))) (rd aX v1 (Int.toNat v3)).1))) (
         some (R3.ret ((false,()),(),()))) (
         cond (decide ((rd aX v1 (Int.toNat v3)).2.2.2.1<0)) (
          some (R3.ret ((false,()),(),()))) (
          cond (decide ((rd aX v1 (Int.toNat v3)).2.2.2.2<(rd aX v1 (Int.toNat v3)).2.2.2.1)) (
           some (R3.ret ((false,()),(),()))) (
           cond (decide (v16<(rd aX v1 (Int.toNat v3)).2.2.2.2)) (
            some (R3.ret ((false,()),(),()))) (
            cond (decide ((rd aX v1 (Int.toNat v3)).2.2.2.2≤(IntKind.wrap .i64 (v16-v13)))) (
             some (R3.ret ((false,()),(),()))) (
             cond (decide (0<v3)) (
              cond ((decide (0≤(IntKind.wrap .i64 (v3-1))))&&(decide ((IntKind.wrap .i64 (v3-1))<(v18.length:Int)))) (
               cond ((decide (0≤(IntKind.wrap .i64 (v3-1))))&&(decide ((IntKind.wrap .i64 (v3-1))<(v18.length:Int)))) (
                ((f150 (rd aX v1 (Int.toNat v3)).2.1 (rd aX v1 (Int.toNat v3)).2.2.1 (rd aX v18 (Int.toNat (IntKind.wrap .i64 (v3-1)))).2.1 (rd aX v18 (Int.toNat (IntKind.wrap .i64 (v3-1)))).2.2.1)).bind fun y24=>
                cond (!y24.1) (
                 some (R3.ret ((false,()),(),()))) (
                 some (R3.next (((),(),v1,v2,(IntKind.wrap .i64 (v3+1)),()),((v4,v5,v6,v7,v8,v9,v10,v11,v12,v13,v14,v15,v16,v17,v18,v19,()),(oL v20 (rd aX v1 (Int.toNat v3)).1 (IntKind.wrap .i64 ((fk v20 (rd aX v1 (Int.toNat v3)).1)+1))),()),())))) (
                none)) (
               none)) (
              some (R3.next (((),(),v1,v2,(IntKind.wrap .i64 (v3+1)),()),((v4,v5,v6,v7,v8,v9,v10,v11,v12,v13,v14,v15,v16,v17,v18,v19,()),(oL v20 (rd aX v1 (Int.toNat v3)).1 (IntKind.wrap .i64 ((fk v20 (rd aX v1 (Int.toNat v3)).1)+1))),()),())))))))))) (
       cond (decide (v12<(fk (oL v20 (rd aX v1 (Int.toNat v3)).1 (IntKind.wrap .i64 ((fk v20 (rd aX v1 (Int.toNat v3)).1)+1))) (rd aX v1 (Int.toNat v3)).1))) (
        some (R3.ret ((false,()),(),()))) (
        cond (decide ((rd aX v1 (Int.toNat v3)).2.2.2.1<0)) (
         some (R3.ret ((false,()),(),()))) (
         cond (decide ((rd aX v1 (Int.toNat v3)).2.2.2.2<(rd aX v1 (Int.toNat v3)).2.2.2.1)) (
          some (R3.ret ((false,()),(),()))) (
          cond (decide (v16<(rd aX v1 (Int.toNat v3)).2.2.2.2)) (
           some (R3.ret ((false,()),(),()))) (
           cond (decide ((rd aX v1 (Int.toNat v3)).2.2.2.2≤(IntKind.wrap .i64 (v16-v13)))) (
            some (R3.ret ((false,()),(),()))) (
            cond (decide (0<v3)) (
             cond ((decide (0≤(IntKind.wrap .i64 (v3-1))))&&(decide ((IntKind.wrap .i64 (v3-1))<(v18.length:Int)))) (
              cond ((decide (0≤(IntKind.wrap .i64 (v3-1))))&&(decide ((IntKind.wrap .i64 (v3-1))<(v18.length:Int)))) (
               ((f150 (rd aX v1 (Int.toNat v3)).2.1 (rd aX v1 (Int.toNat v3)).2.2.1 (rd aX v18 (Int.toNat (IntKind.wrap .i64 (v3-1)))).2.1 (rd aX v18 (Int.toNat (IntKind.wrap .i64 (v3-1)))).2.2.1)).bind fun y25=>
               cond (!y25.1) (
                some (R3.ret ((false,()),(),()))) (
                some (R3.next (((),(),v1,v2,(IntKind.wrap .i64 (v3+1)),()),((v4,v5,v6,v7,v8,v9,v10,v11,v12,v13,v14,v15,v16,v17,v18,v19,()),(oL v20 (rd aX v1 (Int.toNat v3)).1 (IntKind.wrap .i64 ((fk v20 (rd aX v1 (Int.toNat v3)).1)+1))),()),())))) (
               none)) (
              none)) (
             some (R3.next (((),(),v1,v2,(IntKind.wrap .i64 (v3+1)),()),((v4,v5,v6,v7,v8,v9,v10,v11,v12,v13,v14,v15,v16,v17,v18,v19,()),(oL v20 (rd aX v1 (Int.toNat v3)).1 (IntKind.wrap .i64 ((fk v20 (rd aX v1 (Int.toNat v3)).1)+1))),()),()))))))))))))) (
   none)) (
  some (R3.out (((),()),((v4,v5,v6,v7,v8,v9,v10,v11,v12,v13,v14,v15,v16,v17,v18,v19,()),()),())))
noncomputable def JF (z:Dh):Option (R3 Dh F8 Ki):=P6 z.1.2.2.1 z.1.2.2.2.1 z.1.2.2.2.2.1 z.2.1.1.1 z.2.1.1.2.1 z.2.1.1.2.2.1 z.2.1.1.2.2.2.1 z.2.1.1.2.2.2.2.1 z.2.1.1.2.2.2.2.2.1 z.2.1.1.2.2.2.2.2.2.1 z.2.1.1.2.2.2.2.2.2.2.1 z.2.1.1.2.2.2.2.2.2.2.2.1 z.2.1.1.2.2.2.2.2.2.2.2.2.1 z.2.1.1.2.2.2.2.2.2.2.2.2.2.1 z.2.1.1.2.2.2.2.2.2.2.2.2.2.2.1 z.2.1.1.2.2.2.2.2.2.2.2.2.2.2.2.1 z.2.1.1.2.2.2.2.2.2.2.2.2.2.2.2.2.1 z.2.1.1.2.2.2.2.2.2.2.2.2.2.2.2.2.2.1 z.2.1.1.2.2.2.2.2.2.2.2.2.2.2.2.2.2.2.1 z.2.1.2.1
noncomputable def f110 (v1 v2 v3 v4 v5 v6 v7 v8 v9 v10 v11:Int)(v12:Bool)(v13:Int)(v14:aW)(v15:bn)(v16:aW):Option bZ:=
 ((iter aI JF (((),(),v15,(v15.length:Int),0,()),((v1,v2,v3,v4,v5,v6,v7,v8,v9,v10,v11,v12,v13,v14,v15,v16,()),[],()),()))).bind fun r=>match r with
 | .inl y17=>
   some ((decide ((y17.2.1.1.2.2.2.2.2.2.2.2.2.2.2.2.2.2.1.length:Int)≤32)),())
 | .inr z18=>
   some (z18.1.1,())
noncomputable def f189 (v1 v2 v3 v4 v5:Int):Option ((pG×Int×Int×Int×Int×Int)×Unit):=
 some (((v2,v3),v1,v2,v3,v4,v5),())
noncomputable def f179 (v1 v2 v3 v4 v5:Int):Option (pG×Unit):=
 ((f189 v1 v2 v3 v4 v5)).bind fun y6=>
 some ((y6.1.1.1,y6.1.1.2),())
abbrev ic:Type:=KC×xC×(Unit)
abbrev mQ:Type:=(Unit)×xC×(Unit)
abbrev lN:Type:=bh×xC×(Unit)
noncomputable def vB (v1:bn)(v2 v3 v4 v5:Int):Option (R3 ic mQ lN):=
 cond (decide (v3<v2)) (
  cond ((decide (0≤v3))&&(decide (v3<(v1.length:Int)))) (
   ((f179 (rd aX v1 (Int.toNat v3)).1 (rd aX v1 (Int.toNat v3)).2.1 (rd aX v1 (Int.toNat v3)).2.2.1 (rd aX v1 (Int.toNat v3)).2.2.2.1 (rd aX v1 (Int.toNat v3)).2.2.2.2)).bind fun y6=>
   cond ((decide (y6.1.1=v4))&&((decide (y6.1.2=v5))&&true)) (
    some (R3.ret ((v3,()),((v4,v5,()),((),()),()),()))) (
    some (R3.next ((v1,(),v2,(IntKind.wrap .i64 (v3+1)),()),((v4,v5,()),((),()),()),())))) (
   none)) (
  some (R3.out ((),((v4,v5,()),((),()),()),())))
noncomputable def nF (z:ic):Option (R3 ic mQ lN):=vB z.1.1 z.1.2.2.1 z.1.2.2.2.1 z.2.1.1.1 z.2.1.1.2.1
noncomputable def f151 (v1:bn)(v2 v3:Int):Option bh:=
 ((iter aI nF ((v1,(),(v1.length:Int),0,()),((v2,v3,()),((),()),()),()))).bind fun r=>match r with
 | .inl y4=>
   some ((-1),())
 | .inr z5=>
   some (z5.1.1,())
abbrev AH:Type:=(Unit×aW×Int×Int×Unit)×vA×(Unit)
abbrev GO:Type:=(Unit)×(Unit)×(Unit)
abbrev IY:Type:=bZ×(Unit)×(Unit)
noncomputable def PI (v1:aW)(v2 v3 v4 v5 v6 v7 v8 v9 v10 v11 v12 v13 v14:Int)(v15:Bool)(v16:Int)(v17:aW)(v18:bn)(v19:aW):Option (R3 AH GO IY):=
 cond (decide (v3<v2)) (
  cond ((decide (0≤v3))&&(decide (v3<(v1.length:Int)))) (
   ((f148 v4 v5 v6 v7 v8 v9 v10 v11 (rd cr v1 (Int.toNat v3)).1 (rd cr v1 (Int.toNat v3)).2.1)).bind fun y20=>
   cond (!y20.2.1) (
    some (R3.ret ((false,()),(),()))) (
    ((f107 (rd cr v1 (Int.toNat v3)).2.2 (IntKind.wrap .i64 (v16+1)) (IntKind.wrap .i64 (v16+1048576)))).bind fun y21=>
    cond (!y21.1) (
     some (R3.ret ((false,()),(),()))) (
     ((f151 v18 (rd cr v1 (Int.toNat v3)).1 (rd cr v1 (Int.toNat v3)).2.1)).bind fun y22=>
     cond (!(decide (y22.1=(-1)))) (
      some (R3.ret ((false,()),(),()))) (
      cond (decide (0<v3)) (
       cond ((decide (0≤(IntKind.wrap .i64 (v3-1))))&&(decide ((IntKind.wrap .i64 (v3-1))<(v19.length:Int)))) (
        cond ((decide (0≤(IntKind.wrap .i64 (v3-1))))&&(decide ((IntKind.wrap .i64 (v3-1))<(v19.length:Int)))) (
         ((f150 (rd cr v1 (Int.toNat v3)).1 (rd cr v1 (Int.toNat v3)).2.1 (rd cr v19 (Int.toNat (IntKind.wrap .i64 (v3-1)))).1 (rd cr v19 (Int.toNat (IntKind.wrap .i64 (v3-1)))).2.1)).bind fun y23=>
         cond (!y23.1) (
          some (R3.ret ((false,()),(),()))) (
          some (R3.next (((),v1,v2,(IntKind.wrap .i64 (v3+1)),()),((v4,v5,v6,v7,v8,v9,v10,v11,v12,v13,v14,v15,v16,v17,v18,v19,()),()),())))) (
         none)) (
        none)) (
       some (R3.next (((),v1,v2,(IntKind.wrap .i64 (v3+1)),()),((v4,v5,v6,v7,v8,v9,v10,v11,v12,v13,v14,v15,v16,v17,v18,v19,()),()),()))))))) (
   none)) (
  some (R3.out ((),(),())))
noncomputable def GG (z:AH):Option (R3 AH GO IY):=PI z.1.2.1 z.1.2.2.1 z.1.2.2.2.1 z.2.1.1.1 z.2.1.1.2.1 z.2.1.1.2.2.1 z.2.1.1.2.2.2.1 z.2.1.1.2.2.2.2.1 z.2.1.1.2.2.2.2.2.1 z.2.1.1.2.2.2.2.2.2.1 z.2.1.1.2.2.2.2.2.2.2.1 z.2.1.1.2.2.2.2.2.2.2.2.1 z.2.1.1.2.2.2.2.2.2.2.2.2.1 z.2.1.1.2.2.2.2.2.2.2.2.2.2.1 z.2.1.1.2.2.2.2.2.2.2.2.2.2.2.1 z.2.1.1.2.2.2.2.2.2.2.2.2.2.2.2.1 z.2.1.1.2.2.2.2.2.2.2.2.2.2.2.2.2.1 z.2.1.1.2.2.2.2.2.2.2.2.2.2.2.2.2.2.1 z.2.1.1.2.2.2.2.2.2.2.2.2.2.2.2.2.2.2.1
noncomputable def f111 (v1 v2 v3 v4 v5 v6 v7 v8 v9 v10 v11:Int)(v12:Bool)(v13:Int)(v14:aW)(v15:bn)(v16:aW):Option bZ:=
 ((iter aI GG (((),v16,(v16.length:Int),0,()),((v1,v2,v3,v4,v5,v6,v7,v8,v9,v10,v11,v12,v13,v14,v15,v16,()),()),()))).bind fun r=>match r with
 | .inl y17=>
   some (true,())
 | .inr z18=>
   some (z18.1.1,())
noncomputable def f78 (v1 v2 v3 v4 v5 v6 v7 v8 v9 v10 v11:Int)(v12:Bool)(v13:Int)(v14:aW)(v15:bn)(v16:aW):Option bZ:=
 ((f28 v1 v2 v3 v4 v5 v6 v7 v8)).bind fun y17=>
 cond y17.1 (
  ((f106 v9 v10 v11 v12)).bind fun y18=>
  cond y18.1 (
   ((f107 v13 0 1073741824)).bind fun y19=>
   cond y19.1 (
    ((f109 v1 v2 v3 v4 v5 v6 v7 v8 v9 v10 v11 v12 v13 v14 v15 v16)).bind fun y20=>
    ((f108 v14 y20.1)).bind fun y21=>
    cond y21.1 (
     ((f110 v1 v2 v3 v4 v5 v6 v7 v8 v9 v10 v11 v12 v13 v14 v15 v16)).bind fun y22=>
     cond y22.1 (
      ((f111 v1 v2 v3 v4 v5 v6 v7 v8 v9 v10 v11 v12 v13 v14 v15 v16)).bind fun y23=>
      some (y23.1,())) (
      some (false,()))) (
     some (false,()))) (
    some (false,()))) (
   some (false,()))) (
  some (false,()))
noncomputable def f100 (v1:aR):Option ((aR×aR×aR×aR×aR)×Bool×Unit):=
 ((f98 v1 0)).bind fun y2=>
 cond (decide (y2.2.1=(-1))) (
  some (([],[],[],[],[]),false,())) (
  cond (decide ((IntKind.wrap .i64 ((v1.length:Int)-y2.2.1))<y2.1)) (
   some (([],[],[],[],[]),false,())) (
   cond ((((decide (0≤y2.2.1))&&(decide (y2.2.1≤(IntKind.wrap .i64 (y2.2.1+y2.1)))))&&(decide ((IntKind.wrap .i64 (y2.2.1+y2.1))≤(IntKind.wrap .i64 (y2.2.1+y2.1)))))&&(decide ((IntKind.wrap .i64 (y2.2.1+y2.1))≤(v1.length:Int)))) (
    cond (((decide (0≤(IntKind.wrap .i64 (y2.2.1+y2.1))))&&(decide ((IntKind.wrap .i64 (y2.2.1+y2.1))≤(v1.length:Int))))&&(decide ((v1.length:Int)≤(v1.length:Int)))) (
     ((f98 (List.drop (Int.toNat (IntKind.wrap .i64 (y2.2.1+y2.1))) (List.take (Int.toNat (v1.length:Int)) v1)) 0)).bind fun y3=>
     cond (decide (y3.2.1=(-1))) (
      some (((List.drop (Int.toNat y2.2.1) (List.take (Int.toNat (IntKind.wrap .i64 (y2.2.1+y2.1))) v1)),[],[],[],[]),false,())) (
      cond (decide ((IntKind.wrap .i64 ((((List.drop (Int.toNat (IntKind.wrap .i64 (y2.2.1+y2.1))) (List.take (Int.toNat (v1.length:Int)) v1)).length:Nat):Int)-y3.2.1))<y3.1)) (
       some (((List.drop (Int.toNat y2.2.1) (List.take (Int.toNat (IntKind.wrap .i64 (y2.2.1+y2.1))) v1)),[],[],[],[]),false,())) (
       cond ((((decide (0≤y3.2.1))&&(decide (y3.2.1≤(IntKind.wrap .i64 (y3.2.1+y3.1)))))&&(decide ((IntKind.wrap .i64 (y3.2.1+y3.1))≤(IntKind.wrap .i64 (y3.2.1+y3.1)))))&&(decide ((IntKind.wrap .i64 (y3.2.1+y3.1))≤(((List.drop (Int.toNat (IntKind.wrap .i64 (y2.2.1+y2.1))) (List.take (Int.toNat (v1.length:Int)) v1)).length:Nat):Int)))) (
        cond (((decide (0≤(IntKind.wrap .i64 (y3.2.1+y3.1))))&&(decide ((IntKind.wrap .i64 (y3.2.1+y3.1))≤(((List.drop (Int.toNat (IntKind.wrap .i64 (y2.2.1+y2.1))) (List.take (Int.toNat (v1.length:Int)) v1)).length:Nat):Int))))&&(decide ((((List.drop (Int.toNat (IntKind.wrap .i64 (y2.2.1+y2.1))) (List.take (Int.toNat (v1.length:Int)) v1)).length:Nat):Int)≤(((List.drop (Int.toNat (IntKind.wrap .i64 (y2.2.1+y2.1))) (List.take (Int.toNat (v1.length:Int)) v1)).length:Nat):Int)))) (
         ((f98 (List.drop (Int.toNat (IntKind.wrap .i64 (y3.2.1+y3.1))) (List.take (Int.toNat (((List.drop (Int.toNat (IntKind.wrap .i64 (y2.2.1+y2.1))) (List.take (Int.toNat (v1.length:Int)) v1)).length:Nat):Int)) (List.drop (Int.toNat (IntKind.wrap .i64 (y2.2.1+y2.1))) (List.take (Int.toNat (v1.length:Int)) v1)))) 0)).bind fun y4=>
         cond (decide (y4.2.1=(-1))) (
          some (((List.drop (Int.toNat y2.2.1) (List.take (Int.toNat (IntKind.wrap .i64 (y2.2.1+y2.1))) v1)),(List.drop (Int.toNat y3.2.1) (List.take (Int.toNat (IntKind.wrap .i64 (y3.2.1+y3.1))) (List.drop (Int.toNat (IntKind.wrap .i64 (y2.2.1+y2.1))) (List.take (Int.toNat (v1.length:Int)) v1)))),[],[],[]),false,())) (
          cond (decide ((IntKind.wrap .i64 ((((List.drop (Int.toNat (IntKind.wrap .i64 (y3.2.1+y3.1))) (List.take (Int.toNat (((List.drop (Int.toNat (IntKind.wrap .i64 (y2.2.1+y2.1))) (List.take (Int.toNat (v1.length:Int)) v1)).length:Nat):Int)) (List.drop (Int.toNat (IntKind.wrap .i64 (y2.2.1+y2.1))) (List.take (Int.toNat (v1.length:Int)) v1)))).length:Nat):Int)-y4.2.1))<y4.1)) (
           some (((List.drop (Int.toNat y2.2.1) (List.take (Int.toNat (IntKind.wrap .i64 (y2.2.1+y2.1))) v1)),(List.drop (Int.toNat y3.2.1) (List.take (Int.toNat (IntKind.wrap .i64 (y3.2.1+y3.1))) (List.drop (Int.toNat (IntKind.wrap .i64 (y2.2.1+y2.1))) (List.take (Int.toNat (v1.length:Int)) v1)))),[],[],[]),false,())) (
           cond ((((decide (0≤y4.2.1))&&(decide (y4.2.1≤(IntKind.wrap .i64 (y4.2.1+y4.1)))))&&(decide ((IntKind.wrap .i64 (y4.2.1+y4.1))≤(IntKind.wrap .i64 (y4.2.1+y4.1)))))&&(decide ((IntKind.wrap .i64 (y4.2.1+y4.1))≤(((List.drop (Int.toNat (IntKind.wrap .i64 (y3.2.1+y3.1))) (List.take (Int.toNat (((List.drop (Int.toNat (IntKind.wrap .i64 (y2.2.1+y2.1))) (List.take (Int.toNat (v1.length:Int)) v1)).length:Nat):Int)) (List.drop (Int.toNat (IntKind.wrap .i64 (y2.2.1+y2.1))) (List.take (Int.toNat (v1.length:Int)) v1)))).length:Nat):Int)))) (
            cond (((decide (0≤(IntKind.wrap .i64 (y4.2.1+y4.1))))&&(decide ((IntKind.wrap .i64 (y4.2.1+y4.1))≤(((List.drop (Int.toNat (IntKind.wrap .i64 (y3.2.1+y3.1))) (List.take (Int.toNat (((List.drop (Int.toNat (IntKind.wrap .i64 (y2.2.1+y2.1))) (List.take (Int.toNat (v1.length:Int)) v1)).length:Nat):Int)) (List.drop (Int.toNat (IntKind.wrap .i64 (y2.2.1+y2.1))) (List.take (Int.toNat (v1.length:Int)) v1)))).length:Nat):Int))))&&(decide ((((List.drop (Int.toNat (IntKind.wrap .i64 (y3.2.1+y3.1))) (List.take (Int.toNat (((List.drop (Int.toNat (IntKind.wrap .i64 (y2.2.1+y2.1))) (List.take (Int.toNat (v1.length:Int)) v1)).length:Nat):Int)) (List.drop (Int.toNat (IntKind.wrap .i64 (y2.2.1+y2.1))) (List.take (Int.toNat (v1.length:Int)) v1)))).length:Nat):Int)≤(((List.drop (Int.toNat (IntKind.wrap .i64 (y3.2.1+y3.1))) (List.take (Int.toNat (((List.drop (Int.toNat (IntKind.wrap .i64 (y2.2.1+y2.1))) (List.take (Int.toNat (v1.length:Int)) v1)).length:Nat):Int)) (List.drop (Int.toNat (IntKind.wrap .i64 (y2.2.1+y2.1))) (List.take (Int.toNat (v1.length:Int)) v1)))).length:Nat):Int)))) (
             ((f98 (List.drop (Int.toNat (IntKind.wrap .i64 (y4.2.1+y4.1))) (List.take (Int.toNat (((List.drop (Int.toNat (IntKind.wrap .i64 (y3.2.1+y3.1))) (List.take (Int.toNat (((List.drop (Int.toNat (IntKind.wrap .i64 (y2.2.1+y2.1))) (List.take (Int.toNat (v1.length:Int)) v1)).length:Nat):Int)) (List.drop (Int.toNat (IntKind.wrap .i64 (y2.2.1+y2.1))) (List.take (Int.toNat (v1.length:Int)) v1)))).length:Nat):Int)) (List.drop (Int.toNat (IntKind.wrap .i64 (y3.2.1+y3.1))) (List.take (Int.toNat (((List.drop (Int.toNat (IntKind.wrap .i64 (y2.2.1+y2.1))) (List.take (Int.toNat (v1.length:Int)) v1)).length:Nat):Int)) (List.drop (Int.toNat (IntKind.wrap .i64 (y2.2.1+y2.1))) (List.take (Int.toNat (v1.length:Int)) v1)))))) 0)).bind fun y5=>
             cond (decide (y5.2.1=(-1))) (
              some (((List.drop (Int.toNat y2.2.1) (List.take (Int.toNat (IntKind.wrap .i64 (y2.2.1+y2.1))) v1)),(List.drop (Int.toNat y3.2.1) (List.take (Int.toNat (IntKind.wrap .i64 (y3.2.1+y3.1))) (List.drop (Int.toNat (IntKind.wrap .i64 (y2.2.1+y2.1))) (List.take (Int.toNat (v1.length:Int)) v1)))),(List.drop (Int.toNat y4.2.1) (List.take (Int.toNat (IntKind.wrap .i64 (y4.2.1+y4.1))) (List.drop (Int.toNat (IntKind.wrap .i64 (y3.2.1+y3.1))) (List.take (Int.toNat (((List.drop (Int.toNat (IntKind.wrap .i64 (y2.2.1+y2.1))) (List.take (Int.toNat (v1.length:Int)) v1)).length:Nat):Int)) (List.drop (Int.toNat (IntKind.wrap .i64 (y2.2.1+y2.1))) (List.take (Int.toNat (v1.length:Int)) v1)))))),[],[]),false,())) (
              cond (decide ((IntKind.wrap .i64 ((((List.drop (Int.toNat (IntKind.wrap .i64 (y4.2.1+y4.1))) (List.take (Int.toNat (((List.drop (Int.toNat (IntKind.wrap .i64 (y3.2.1+y3.1))) (List.take (Int.toNat (((List.drop (Int.toNat (IntKind.wrap .i64 (y2.2.1+y2.1))) (List.take (Int.toNat (v1.length:Int)) v1)).length:Nat):Int)) (List.drop (Int.toNat (IntKind.wrap .i64 (y2.2.1+y2.1))) (List.take (Int.toNat (v1.length:Int)) v1)))).length:Nat):Int)) (List.drop (Int.toNat (IntKind.wrap .i64 (y3.2.1+y3.1))) (List.take (Int.toNat (((List.drop (Int.toNat (IntKind.wrap .i64 (y2.2.1+y2.1))) (List.take (Int.toNat (v1.length:Int)) v1)).length:Nat):Int)) (List.drop (Int.toNat (IntKind.wrap .i64 (y2.2.1+y2.1))) (List.take (Int.toNat (v1.length:Int)) v1)))))).length:Nat):Int)-y5.2.1))<y5.1)) (
               some (((List.drop (Int.toNat y2.2.1) (List.take (Int.toNat (IntKind.wrap .i64 (y2.2.1+y2.1))) v1)),(List.drop (Int.toNat y3.2.1) (List.take (Int.toNat (IntKind.wrap .i64 (y3.2.1+y3.1))) (List.drop (Int.toNat (IntKind.wrap .i64 (y2.2.1+y2.1))) (List.take (Int.toNat (v1.length:Int)) v1)))),(List.drop (Int.toNat y4.2.1) (List.take (Int.toNat (IntKind.wrap .i64 (y4.2.1+y4.1))) (List.drop (Int.toNat (IntKind.wrap .i64 (y3.2.1+y3.1))) (List.take (Int.toNat (((List.drop (Int.toNat (IntKind.wrap .i64 (y2.2.1+y2.1))) (List.take (Int.toNat (v1.length:Int)) v1)).length:Nat):Int)) (List.drop (Int.toNat (IntKind.wrap .i64 (y2.2.1+y2.1))) (List.take (Int.toNat (v1.length:Int)) v1)))))),[],[]),false,())) (
               cond ((((decide (0≤y5.2.1))&&(decide (y5.2.1≤(IntKind.wrap .i64 (y5.2.1+y5.1)))))&&(decide ((IntKind.wrap .i64 (y5.2.1+y5.1))≤(IntKind.wrap .i64 (y5.2.1+y5.1)))))&&(decide ((IntKind.wrap .i64 (y5.2.1+y5.1))≤(((List.drop (Int.toNat (IntKind.wrap .i64 (y4.2.1+y4.1))) (List.take (Int.toNat (((List.drop (Int.toNat (IntKind.wrap .i64 (y3.2.1+y3.1))) (List.take (Int.toNat (((List.drop (Int.toNat (IntKind.wrap .i64 (y2.2.1+y2.1))) (List.take (Int.toNat (v1.length:Int)) v1)).length:Nat):Int)) (List.drop (Int.toNat (IntKind.wrap .i64 (y2.2.1+y2.1))) (List.take (Int.toNat (v1.length:Int)) v1)))).length:Nat):Int)) (List.drop (Int.toNat (IntKind.wrap .i64 (y3.2.1+y3.1))) (List.take (Int.toNat (((List.drop (Int.toNat (IntKind.wrap .i64 (y2.2.1+y2.1))) (List.take (Int.toNat (v1.length:Int)) v1)).length:Nat):Int)) (List.drop (Int.toNat (IntKind.wrap .i64 (y2.2.1+y2.1))) (List.take (Int.toNat (v1.length:Int)) v1)))))).length:Nat):Int)))) (
                cond (((decide (0≤(IntKind.wrap .i64 (y5.2.1+y5.1))))&&(decide ((IntKind.wrap .i64 (y5.2.1+y5.1))≤(((List.drop (Int.toNat (IntKind.wrap .i64 (y4.2.1+y4.1))) (List.take (Int.toNat (((List.drop (Int.toNat (IntKind.wrap .i64 (y3.2.1+y3.1))) (List.take (Int.toNat (((List.drop (Int.toNat (IntKind.wrap .i64 (y2.2.1+y2.1))) (List.take (Int.toNat (v1.length:Int)) v1)).length:Nat):Int)) (List.drop (Int.toNat (IntKind.wrap .i64 (y2.2.1+y2.1))) (List.take (Int.toNat (v1.length:Int)) v1)))).length:Nat):Int)) (List.drop (Int.toNat (IntKind.wrap .i64 (y3.2.1+y3.1))) (List.take (Int.toNat (((List.drop (Int.toNat (IntKind.wrap .i64 (y2.2.1+y2.1))) (List.take (Int.toNat (v1.length:Int)) v1)).length:Nat):Int)) (List.drop (Int.toNat (IntKind.wrap .i64 (y2.2.1+y2.1))) (List.take (Int.toNat (v1.length:Int)) v1)))))).length:Nat):Int))))&&(decide ((((List.drop (Int.toNat (IntKind.wrap .i64 (y4.2.1+y4.1))) (List.take (Int.toNat (((List.drop (Int.toNat (IntKind.wrap .i64 (y3.2.1+y3.1))) (List.take (Int.toNat (((List.drop (Int.toNat (IntKind.wrap .i64 (y2.2.1+y2.1))) (List.take (Int.toNat (v1.length:Int)) v1)).length:Nat):Int)) (List.drop (Int.toNat (IntKind.wrap .i64 (y2.2.1+y2.1))) (List.take (Int.toNat (v1.length:Int)) v1)))).length:Nat):Int)) (List.drop (Int.toNat (IntKind.wrap .i64 (y3.2.1+y3.1))) (List.take (Int.toNat (((List.drop (Int.toNat (IntKind.wrap .i64 (y2.2.1+y2.1))) (List.take (Int.toNat (v1.length:Int)) v1)).length:Nat):Int)) (List.drop (Int.toNat (IntKind.wrap .i64 (y2.2.1+y2.1))) (List.take (Int.toNat (v1.length:Int)) v1)))))).length:Nat):Int)≤(((List.drop (Int.toNat (IntKind.wrap .i64 (y4.2.1+y4.1))) (List.take (Int.toNat (((List.drop (Int.toNat (IntKind.wrap .i64 (y3.2.1+y3.1))) (List.take (Int.toNat (((List.drop (Int.toNat (IntKind.wrap .i64 (y2.2.1+y2.1))) (List.take (Int.toNat (v1.length:Int)) v1)).length:Nat):Int)) (List.drop (Int.toNat (IntKind.wrap .i64 (y2.2.1+y2.1))) (List.take (Int.toNat (v1.length:Int)) v1)))).length:Nat):Int)) (List.drop (Int.toNat (IntKind.wrap .i64 (y3.2.1+y3.1))) (List.take (Int.toNat (((List.drop (Int.toNat (IntKind.wrap .i64 (y2.2.1+y2.1))) (List.take (Int.toNat (v1.length:Int)) v1)).length:Nat):Int)) (List.drop (Int.toNat (IntKind.wrap .i64 (y2.2.1+y2.1))) (List.take (Int.toNat (v1.length:Int)) v1)))))).length:Nat):Int)))) (
                 ((f98 (List.drop (Int.toNat (IntKind.wrap .i64 (y5.2.1+y5.1))) (List.take (Int.toNat (((List.drop (Int.toNat (IntKind.wrap .i64 (y4.2.1+y4.1))) (List.take (Int.toNat (((List.drop (Int.toNat (IntKind.wrap .i64 (y3.2.1+y3.1))) (List.take (Int.toNat (((List.drop (Int.toNat (IntKind.wrap .i64 (y2.2.1+y2.1))) (List.take (Int.toNat (v1.length:Int)) v1)).length:Nat):Int)) (List.drop (Int.toNat (IntKind.wrap .i64 (y2.2.1+y2.1))) (List.take (Int.toNat (v1.length:Int)) v1)))).length:Nat):Int)) (List.drop (Int.toNat (IntKind.wrap .i64 (y3.2.1+y3.1))) (List.take (Int.toNat (((List.drop (Int.toNat (IntKind.wrap .i64 (y2.2.1+y2.1))) (List.take (Int.toNat (v1.length:Int)) v1)).length:Nat):Int)) (List.drop (Int.toNat (IntKind.wrap .i64 (y2.2.1+y2.1))) (List.take (Int.toNat (v1.length:Int)) v1)))))).length:Nat):Int)) (List.drop (Int.toNat (IntKind.wrap .i64 (y4.2.1+y4.1))) (List.take (Int.toNat (((List.drop (Int.toNat (IntKind.wrap .i64 (y3.2.1+y3.1))) (List.take (Int.toNat (((List.drop (Int.toNat (IntKind.wrap .i64 (y2.2.1+y2.1))) (List.take (Int.toNat (v1.length:Int)) v1)).length:Nat):Int)) (List.drop (Int.toNat (IntKind.wrap .i64 (y2.2.1+y2.1))) (List.take (Int.toNat (v1.length:Int)) v1)))).length:Nat):Int)) (List.drop (Int.toNat (IntKind.wrap .i64 (y3.2.1+y3.1))) (List.take (Int.toNat (((List.drop (Int.toNat (IntKind.wrap .i64 (y2.2.1+y2.1))) (List.take (Int.toNat (v1.length:Int)) v1)).length:Nat):Int)) (List.drop (Int.toNat (IntKind.wrap .i64 (y2.2.1+y2.1))) (List.take (Int.toNat (v1.length:Int)) v1)))))))) 0)).bind fun y6=>
                 cond (decide (y6.2.1=(-1))) (
                  some (((List.drop (Int.toNat y2.2.1) (List.take (Int.toNat (IntKind.wrap .i64 (y2.2.1+y2.1))) v1)),(List.drop (Int.toNat y3.2.1) (List.take (Int.toNat (IntKind.wrap .i64 (y3.2.1+y3.1))) (List.drop (Int.toNat (IntKind.wrap .i64 (y2.2.1+y2.1))) (List.take (Int.toNat (v1.length:Int)) v1)))),(List.drop (Int.toNat y4.2.1) (List.take (Int.toNat (IntKind.wrap .i64 (y4.2.1+y4.1))) (List.drop (Int.toNat (IntKind.wrap .i64 (y3.2.1+y3.1))) (List.take (Int.toNat (((List.drop (Int.toNat (IntKind.wrap .i64 (y2.2.1+y2.1))) (List.take (Int.toNat (v1.length:Int)) v1)).length:Nat):Int)) (List.drop (Int.toNat (IntKind.wrap .i64 (y2.2.1+y2.1))) (List.take (Int.toNat (v1.length:Int)) v1)))))),(List.drop (Int.toNat y5.2.1) (List.take (Int.toNat (IntKind.wrap .i64 (y5.2.1+y5.1))) (List.drop (Int.toNat (IntKind.wrap .i64 (y4.2.1+y4.1))) (List.take (Int.toNat (((List.drop (Int.toNat (IntKind.wrap .i64 (y3.2.1+y3.1))) (List.take (Int.toNat (((List.drop (Int.toNat (IntKind.wrap .i64 (y2.2.1+y2.1))) (List.take (Int.toNat (v1.length:Int)) v1)).length:Nat):Int)) (List.drop (Int.toNat (IntKind.wrap .i64 (y2.2.1+y2.1))) (List.take (Int.toNat (v1.length:Int)) v1)))).length:Nat):Int)) (List.drop (Int.toNat (IntKind.wrap .i64 (y3.2.1+y3.1))) (List.take (Int.toNat (((List.drop (Int.toNat (IntKind.wrap .i64 (y2.2.1+y2.1))) (List.take (Int.toNat (v1.length:Int)) v1)).length:Nat):Int)) (List.drop (Int.toNat (IntKind.wrap .i64 (y2.2.1+y2.1))) (List.take (Int.toNat (v1.length:Int)) v1)))))))),[]),false,())) (
                  cond (decide ((IntKind.wrap .i64 ((((List.drop (Int.toNat (IntKind.wrap .i64 (y5.2.1+y5.1))) (List.take (Int.toNat (((List.drop (Int.toNat (IntKind.wrap .i64 (y4.2.1+y4.1))) (List.take (Int.toNat (((List.drop (Int.toNat (IntKind.wrap .i64 (y3.2.1+y3.1))) (List.take (Int.toNat (((List.drop (Int.toNat (IntKind.wrap .i64 (y2.2.1+y2.1))) (List.take (Int.toNat (v1.length:Int)) v1)).length:Nat):Int)) (List.drop (Int.toNat (IntKind.wrap .i64 (y2.2.1+y2.1))) (List.take (Int.toNat (v1.length:Int)) v1)))).length:Nat):Int)) (List.drop (Int.toNat (IntKind.wrap .i64 (y3.2.1+y3.1))) (List.take (Int.toNat (((List.drop (Int.toNat (IntKind.wrap .i64 (y2.2.1+y2.1))) (List.take (Int.toNat (v1.length:Int)) v1)).length:Nat):Int)) (List.drop (Int.toNat (IntKind.wrap .i64 (y2.2.1+y2.1))) (List.take (Int.toNat (v1.length:Int)) v1)))))).length:Nat):Int)) (List.drop (Int.toNat (IntKind.wrap .i64 (y4.2.1+y4.1))) (List.take (Int.toNat (((List.drop (Int.toNat (IntKind.wrap .i64 (y3.2.1+y3.1))) (List.take (Int.toNat (((List.drop (Int.toNat (IntKind.wrap .i64 (y2.2.1+y2.1))) (List.take (Int.toNat (v1.length:Int)) v1)).length:Nat):Int)) (List.drop (Int.toNat (IntKind.wrap .i64 (y2.2.1+y2.1))) (List.take (Int.toNat (v1.length:Int)) v1)))).length:Nat):Int)) (List.drop (Int.toNat (IntKind.wrap .i64 (y3.2.1+y3.1))) (List.take (Int.toNat (((List.drop (Int.toNat (IntKind.wrap .i64 (y2.2.1+y2.1))) (List.take (Int.toNat (v1.length:Int)) v1)).length:Nat):Int)) (List.drop (Int.toNat (IntKind.wrap .i64 (y2.2.1+y2.1))) (List.take (Int.toNat (v1.length:Int)) v1)))))))).length:Nat):Int)-y6.2.1))<y6.1)) (
                   some (((List.drop (Int.toNat y2.2.1) (List.take (Int.toNat (IntKind.wrap .i64 (y2.2.1+y2.1))) v1)),(List.drop (Int.toNat y3.2.1) (List.take (Int.toNat (IntKind.wrap .i64 (y3.2.1+y3.1))) (List.drop (Int.toNat (IntKind.wrap .i64 (y2.2.1+y2.1))) (List.take (Int.toNat (v1.length:Int)) v1)))),(List.drop (Int.toNat y4.2.1) (List.take (Int.toNat (IntKind.wrap .i64 (y4.2.1+y4.1))) (List.drop (Int.toNat (IntKind.wrap .i64 (y3.2.1+y3.1))) (List.take (Int.toNat (((List.drop (Int.toNat (IntKind.wrap .i64 (y2.2.1+y2.1))) (List.take (Int.toNat (v1.length:Int)) v1)).length:Nat):Int)) (List.drop (Int.toNat (IntKind.wrap .i64 (y2.2.1+y2.1))) (List.take (Int.toNat (v1.length:Int)) v1)))))),(List.drop (Int.toNat y5.2.1) (List.take (Int.toNat (IntKind.wrap .i64 (y5.2.1+y5.1))) (List.drop (Int.toNat (IntKind.wrap .i64 (y4.2.1+y4.1))) (List.take (Int.toNat (((List.drop (Int.toNat (IntKind.wrap .i64 (y3.2.1+y3.1))) (List.take (Int.toNat (((List.drop (Int.toNat (IntKind.wrap .i64 (y2.2.1+y2.1))) (List.take (Int.toNat (v1.length:Int)) v1)).length:Nat):Int)) (List.drop (Int.toNat (IntKind.wrap .i64 (y2.2.1+y2.1))) (List.take (Int.toNat (v1.length:Int)) v1)))).length:Nat):Int)) (List.drop (Int.toNat (IntKind.wrap .i64 (y3.2.1+y3.1))) (List.take (Int.toNat (((List.drop (Int.toNat (IntKind.wrap .i64 (y2.2.1+y2.1))) (List.take (Int.toNat (v1.length:Int)) v1)).length:Nat):Int)) (List.drop (Int.toNat (IntKind.wrap .i64 (y2.2.1+y2.1))) (List.take (Int.toNat (v1.length:Int)) v1)))))))),[]),false,())) (
                   cond ((((decide (0≤y6.2.1))&&(decide (y6.2.1≤(IntKind.wrap .i64 (y6.2.1+y6.1)))))&&(decide ((IntKind.wrap .i64 (y6.2.1+y6.1))≤(IntKind.wrap .i64 (y6.2.1+y6.1)))))&&(decide ((IntKind.wrap .i64 (y6.2.1+y6.1))≤(((List.drop (Int.toNat (IntKind.wrap .i64 (y5.2.1+y5.1))) (List.take (Int.toNat (((List.drop (Int.toNat (IntKind.wrap .i64 (y4.2.1+y4.1))) (List.take (Int.toNat (((List.drop (Int.toNat (IntKind.wrap .i64 (y3.2.1+y3.1))) (List.take (Int.toNat (((List.drop (Int.toNat (IntKind.wrap .i64 (y2.2.1+y2.1))) (List.take (Int.toNat (v1.length:Int)) v1)).length:Nat):Int)) (List.drop (Int.toNat (IntKind.wrap .i64 (y2.2.1+y2.1))) (List.take (Int.toNat (v1.length:Int)) v1)))).length:Nat):Int)) (List.drop (Int.toNat (IntKind.wrap .i64 (y3.2.1+y3.1))) (List.take (Int.toNat (((List.drop (Int.toNat (IntKind.wrap .i64 (y2.2.1+y2.1))) (List.take (Int.toNat (v1.length:Int)) v1)).length:Nat):Int)) (List.drop (Int.toNat (IntKind.wrap .i64 (y2.2.1+y2.1))) (List.take (Int.toNat (v1.length:Int)) v1)))))).length:Nat):Int)) (List.drop (Int.toNat (IntKind.wrap .i64 (y4.2.1+y4.1))) (List.take (Int.toNat (((List.drop (Int.toNat (IntKind.wrap .i64 (y3.2.1+y3.1))) (List.take (Int.toNat (((List.drop (Int.toNat (IntKind.wrap .i64 (y2.2.1+y2.1))) (List.take (Int.toNat (v1.length:Int)) v1)).length:Nat):Int)) (List.drop (Int.toNat (IntKind.wrap .i64 (y2.2.1+y2.1))) (List.take (Int.toNat (v1.length:Int)) v1)))).length:Nat):Int)) (List.drop (Int.toNat (IntKind.wrap .i64 (y3.2.1+y3.1))) (List.take (Int.toNat (((List.drop (Int.toNat (IntKind.wrap .i64 (y2.2.1+y2.1))) (List.take (Int.toNat (v1.length:Int)) v1)).length:Nat):Int)) (List.drop (Int.toNat (IntKind.wrap .i64 (y2.2.1+y2.1))) (List.take (Int.toNat (v1.length:Int)) v1)))))))).length:Nat):Int)))) (
                    cond (((decide (0≤(IntKind.wrap .i64 (y6.2.1+y6.1))))&&(decide ((IntKind.wrap .i64 (y6.2.1+y6.1))≤(((List.drop (Int.toNat (IntKind.wrap .i64 (y5.2.1+y5.1))) (List.take (Int.toNat (((List.drop (Int.toNat (IntKind.wrap .i64 (y4.2.1+y4.1))) (List.take (Int.toNat (((List.drop (Int.toNat (IntKind.wrap .i64 (y3.2.1+y3.1))) (List.take (Int.toNat (((List.drop (Int.toNat (IntKind.wrap .i64 (y2.2.1+y2.1))) (List.take (Int.toNat (v1.length:Int)) v1)).length:Nat):Int)) (List.drop (Int.toNat (IntKind.wrap .i64 (y2.2.1+y2.1))) (List.take (Int.toNat (v1.length:Int)) v1)))).length:Nat):Int)) (List.drop (Int.toNat (IntKind.wrap .i64 (y3.2.1+y3.1))) (List.take (Int.toNat (((List.drop (Int.toNat (IntKind.wrap .i64 (y2.2.1+y2.1))) (List.take (Int.toNat (v1.length:Int)) v1)).length:Nat):Int)) (List.drop (Int.toNat (IntKind.wrap .i64 (y2.2.1+y2.1))) (List.take (Int.toNat (v1.length:Int)) v1)))))).length:Nat):Int)) (List.drop (Int.toNat (IntKind.wrap .i64 (y4.2.1+y4.1))) (List.take (Int.toNat (((List.drop (Int.toNat (IntKind.wrap .i64 (y3.2.1+y3.1))) (List.take (Int.toNat (((List.drop (Int.toNat (IntKind.wrap .i64 (y2.2.1+y2.1))) (List.take (Int.toNat (v1.length:Int)) v1)).length:Nat):Int)) (List.drop (Int.toNat (IntKind.wrap .i64 (y2.2.1+y2.1))) (List.take (Int.toNat (v1.length:Int)) v1)))).length:Nat):Int)) (List.drop (Int.toNat (IntKind.wrap .i64 (y3.2.1+y3.1))) (List.take (Int.toNat (((List.drop (Int.toNat (IntKind.wrap .i64 (y2.2.1+y2.1))) (List.take (Int.toNat (v1.length:Int)) v1)).length:Nat):Int)) (List.drop (Int.toNat (IntKind.wrap .i64 (y2.2.1+y2.1))) (List.take (Int.toNat (v1.length:Int)) v1)))))))).length:Nat):Int))))&&(decide ((((List.drop (Int.toNat (IntKind.wrap .i64 (y5.2.1+y5.1))) (List.take (Int.toNat (((List.drop (Int.toNat (IntKind.wrap .i64 (y4.2.1+y4.1))) (List.take (Int.toNat (((List.drop (Int.toNat (IntKind.wrap .i64 (y3.2.1+y3.1))) (List.take (Int.toNat (((List.drop (Int.toNat (IntKind.wrap .i64 (y2.2.1+y2.1))) (List.take (Int.toNat (v1.length:Int)) v1)).length:Nat):Int)) (List.drop (Int.toNat (IntKind.wrap .i64 (y2.2.1+y2.1))) (List.take (Int.toNat (v1.length:Int)) v1)))).length:Nat):Int)) (List.drop (Int.toNat (IntKind.wrap .i64 (y3.2.1+y3.1))) (List.take (Int.toNat (((List.drop (Int.toNat (IntKind.wrap .i64 (y2.2.1+y2.1))) (List.take (Int.toNat (v1.length:Int)) v1)).length:Nat):Int)) (List.drop (Int.toNat (IntKind.wrap .i64 (y2.2.1+y2.1))) (List.take (Int.toNat (v1.length:Int)) v1)))))).length:Nat):Int)) (List.drop (Int.toNat (IntKind.wrap .i64 (y4.2.1+y4.1))) (List.take (Int.toNat (((List.drop (Int.toNat (IntKind.wrap .i64 (y3.2.1+y3.1))) (List.take (Int.toNat (((List.drop (Int.toNat (IntKind.wrap .i64 (y2.2.1+y2.1))) (List.take (Int.toNat (v1.length:Int)) v1)).length:Nat):Int)) (List.drop (Int.toNat (IntKind.wrap .i64 (y2.2.1+y2.1))) (List.take (Int.toNat (v1.length:Int)) v1)))).length:Nat):Int)) (List.drop (Int.toNat (IntKind.wrap .i64 (y3.2.1+y3.1))) (List.take (Int.toNat (((List.drop (Int.toNat (IntKind.wrap .i64 (y2.2.1+y2.1))) (List.take (Int.toNat (v1.length:Int)) v1)).length:Nat):Int)) (List.drop (Int.toNat (IntKind.wrap .i64 (y2.2.1+y2.1))) (List.take (Int.toNat (v1.length:Int)) v1)))))))).length:Nat):Int)≤(((List.drop (Int.toNat (IntKind.wrap .i64 (y5.2.1+y5.1))) (List.take (Int.toNat (((List.drop (Int.toNat (IntKind.wrap .i64 (y4.2.1+y4.1))) (List.take (Int.toNat (((List.drop (Int.toNat (IntKind.wrap .i64 (y3.2.1+y3.1))) (List.take (Int.toNat (((List.drop (Int.toNat (IntKind.wrap .i64 (y2.2.1+y2.1))) (List.take (Int.toNat (v1.length:Int)) v1)).length:Nat):Int)) (List.drop (Int.toNat (IntKind.wrap .i64 (y2.2.1+y2.1))) (List.take (Int.toNat (v1.length:Int)) v1)))).length:Nat):Int)) (List.drop (Int.toNat (IntKind.wrap .i64 (y3.2.1+y3.1))) (List.take (Int.toNat (((List.drop (Int.toNat (IntKind.wrap .i64 (y2.2.1+y2.1))) (List.take (Int.toNat (v1.length:Int)) v1)).length:Nat):Int)) (List.drop (Int.toNat (IntKind.wrap .i64 (y2.2.1+y2.1))) (List.take (Int.toNat (v1.length:Int)) v1)))))).length:Nat):Int)) (List.drop (Int.toNat (IntKind.wrap .i64 (y4.2.1+y4.1))) (List.take (Int.toNat (((List.drop (Int.toNat (IntKind.wrap .i64 (y3.2.1+y3.1))) (List.take (Int.toNat (((List.drop (Int.toNat (IntKind.wrap .i64 (y2.2.1+y2.1))) (List.take (Int.toNat (v1.length:Int)) v1)).length:Nat):Int)) (List.drop (Int.toNat (IntKind.wrap .i64 (y2.2.1+y2.1))) (List.take (Int.toNat (v1.length:Int)) v1)))).length:Nat):Int)) (List.drop (Int.toNat (IntKind.wrap .i64 (y3.2.1+y3.1))) (List.take (Int.toNat (((List.drop (Int.toNat (IntKind.wrap .i64 (y2.2.1+y2.1))) (List.take (Int.toNat (v1.length:Int)) v1)).length:Nat):Int)) (List.drop (Int.toNat (IntKind.wrap .i64 (y2.2.1+y2.1))) (List.take (Int.toNat (v1.length:Int)) v1)))))))).length:Nat):Int)))) (
                     some (((List.drop (Int.toNat y2.2.1) (List.take (Int.toNat (IntKind.wrap .i64 (y2.2.1+y2.1))) v1)),(List.drop (Int.toNat y3.2.1) (List.take (Int.toNat (IntKind.wrap .i64 (y3.2.1+y3.1))) (List.drop (Int.toNat (IntKind.wrap .i64 (y2.2.1+y2.1))) (List.take (Int.toNat (v1.length:Int)) v1)))),(List.drop (Int.toNat y4.2.1) (List.take (Int.toNat (IntKind.wrap .i64 (y4.2.1+y4.1))) (List.drop (Int.toNat (IntKind.wrap .i64 (y3.2.1+y3.1))) (List.take (Int.toNat (((List.drop (Int.toNat (IntKind.wrap .i64 (y2.2.1+y2.1))) (List.take (Int.toNat (v1.length:Int)) v1)).length:Nat):Int)) (List.drop (Int.toNat (IntKind.wrap .i64 (y2.2.1+y2.1))) (List.take (Int.toNat (v1.length:Int)) v1)))))),(List.drop (Int.toNat y5.2.1) (List.take (Int.toNat (IntKind.wrap .i64 (y5.2.1+y5.1))) (List.drop (Int.toNat (IntKind.wrap .i64 (y4.2.1+y4.1))) (List.take (Int.toNat (((List.drop (Int.toNat (IntKind.wrap .i64 (y3.2.1+y3.1))) (List.take (Int.toNat (((List.drop (Int.toNat (IntKind.wrap .i64 (y2.2.1+y2.1))) (List.take (Int.toNat (v1.length:Int)) v1)).length:Nat):Int)) (List.drop (Int.toNat (IntKind.wrap .i64 (y2.2.1+y2.1))) (List.take (Int.toNat (v1.length:Int)) v1)))).length:Nat):Int)) (List.drop (Int.toNat (IntKind.wrap .i64 (y3.2.1+y3.1))) (List.take (Int.toNat (((List.drop (Int.toNat (IntKind.wrap .i64 (y2.2.1+y2.1))) (List.take (Int.toNat (v1.length:Int)) v1)).length:Nat):Int)) (List.drop (Int.toNat (IntKind.wrap .i64 (y2.2.1+y2.1))) (List.take (Int.toNat (v1.length:Int)) v1)))))))),(List.drop (Int.toNat y6.2.1) (List.take (Int.toNat (IntKind.wrap .i64 (y6.2.1+y6.1))) (List.drop (Int.toNat (IntKind.wrap .i64 (y5.2.1+y5.1))) (List.take (Int.toNat (((List.drop (Int.toNat (IntKind.wrap .i64 (y4.2.1+y4.1))) (List.take (Int.toNat (((List.drop (Int.toNat (IntKind.wrap .i64 (y3.2.1+y3.1))) (List.take (Int.toNat (((List.drop (Int.toNat (IntKind.wrap .i64 (y2.2.1+y2.1))) (List.take (Int.toNat (v1.length:Int)) v1)).length:Nat):Int)) (List.drop (Int.toNat (IntKind.wrap .i64 (y2.2.1+y2.1))) (List.take (Int.toNat (v1.length:Int)) v1)))).length:Nat):Int)) (List.drop (Int.toNat (IntKind.wrap .i64 (y3.2.1+y3.1))) (List.take (Int.toNat (((List.drop (Int.toNat (IntKind.wrap .i64 (y2.2.1+y2.1))) (List.take (Int.toNat (v1.length:Int)) v1)).length:Nat):Int)) (List.drop (Int.toNat (IntKind.wrap .i64 (y2.2.1+y2.1))) (List.take (Int.toNat (v1.length:Int)) v1)))))).length:Nat):Int)) (List.drop (Int.toNat (IntKind.wrap .i64 (y4.2.1+y4.1))) (List.take (Int.toNat (((List.drop (Int.toNat (IntKind.wrap .i64 (y3.2.1+y3.1))) (List.take (Int.toNat (((List.drop (Int.toNat (IntKind.wrap .i64 (y2.2.1+y2.1))) (List.take (Int.toNat (v1.length:Int)) v1)).length:Nat):Int)) (List.drop (Int.toNat (IntKind.wrap .i64 (y2.2.1+y2.1))) (List.take (Int.toNat (v1.length:Int)) v1)))).length:Nat):Int)) (List.drop (Int.toNat (IntKind.wrap .i64 (y3.2.1+y3.1))) (List.take (Int.toNat (((List.drop (Int.toNat (IntKind.wrap .i64 (y2.2.1+y2.1))) (List.take (Int.toNat (v1.length:Int)) v1)).length:Nat):Int)) (List.drop (Int.toNat (IntKind.wrap .i64 (y2.2.1+y2.1))) (List.take (Int.toNat (v1.length:Int)) v1))))))))))),(decide ((((List.drop (Int.toNat (IntKind.wrap .i64 (y6.2.1+y6.1))) (List.take (Int.toNat (((List.drop (Int.toNat (IntKind.wrap .i64 (y5.2.1+y5.1))) (List.take (Int.toNat (((List.drop (Int.toNat (IntKind.wrap .i64 (y4.2.1+y4.1))) (List.take (Int.toNat (((List.drop (Int.toNat (IntKind.wrap .i64 (y3.2.1+y3.1))) (List.take (Int.toNat (((List.drop (Int.toNat (IntKind.wrap .i64 (y2.2.1+y2.1))) (List.take (Int.toNat (v1.length:Int)) v1)).length:Nat):Int)) (List.drop (Int.toNat (IntKind.wrap .i64 (y2.2.1+y2.1))) (List.take (Int.toNat (v1.length:Int)) v1)))).length:Nat):Int)) (List.drop (Int.toNat (IntKind.wrap .i64 (y3.2.1+y3.1))) (List.take (Int.toNat (((List.drop (Int.toNat (IntKind.wrap .i64 (y2.2.1+y2.1))) (List.take (Int.toNat (v1.length:Int)) v1)).length:Nat):Int)) (List.drop (Int.toNat (IntKind.wrap .i64 (y2.2.1+y2.1))) (List.take (Int.toNat (v1.length:Int)) v1)))))).length:Nat):Int)) (List.drop (Int.toNat (IntKind.wrap .i64 (y4.2.1+y4.1))) (List.take (Int.toNat (((List.drop (Int.toNat (IntKind.wrap .i64 (y3.2.1+y3.1))) (List.take (Int.toNat (((List.drop (Int.toNat (IntKind.wrap .i64 (y2.2.1+y2.1))) (List.take (Int.toNat (v1.length:Int)) v1)).length:Nat):Int)) (List.drop (Int.toNat (IntKind.wrap .i64 (y2.2.1+y2.1))) (List.take (Int.toNat (v1.length:Int)) v1)))).length:Nat):Int)) (List.drop (Int.toNat (IntKind.wrap .i64 (y3.2.1+y3.1))) (List.take (Int.toNat (((List.drop (Int.toNat (IntKind.wrap .i64 (y2.2.1+y2.1))) (List.take (Int.toNat (v1.length:Int)) v1)).length:Nat):Int)) (List.drop (Int.toNat (IntKind.wrap .i64 (y2.2.1+y2.1))) (List.take (Int.toNat (v1.length:Int)) v1)))))))).length:Nat):Int)) (List.drop (Int.toNat (IntKind.wrap .i64 (y5.2.1+y5.1))) (List.take (Int.toNat (((List.drop (Int.toNat (IntKind.wrap .i64 (y4.2.1+y4.1))) (List.take (Int.toNat (((List.drop (Int.toNat (IntKind.wrap .i64 (y3.2.1+y3.1))) (List.take (Int.toNat (((List.drop (Int.toNat (IntKind.wrap .i64 (y2.2.1+y2.1))) (List.take (Int.toNat (v1.length:Int)) v1)).length:Nat):Int)) (List.drop (Int.toNat (IntKind.wrap .i64 (y2.2.1+y2.1))) (List.take (Int.toNat (v1.length:Int)) v1)))).length:Nat):Int)) (List.drop (Int.toNat (IntKind.wrap .i64 (y3.2.1+y3.1))) (List.take (Int.toNat (((List.drop (Int.toNat (IntKind.wrap .i64 (y2.2.1+y2.1))) (List.take (Int.toNat (v1.length:Int)) v1)).length:Nat):Int)) (List.drop (Int.toNat (IntKind.wrap .i64 (y2.2.1+y2.1))) (List.take (Int.toNat (v1.length:Int)) v1)))))).length:Nat):Int)) (List.drop (Int.toNat (IntKind.wrap .i64 (y4.2.1+y4.1))) (List.take (Int.toNat (((List.drop (Int.toNat (IntKind.wrap .i64 (y3.2.1+y3.1))) (List.take (Int.toNat (((List.drop (Int.toNat (IntKind.wrap .i64 (y2.2.1+y2.1))) (List.take (Int.toNat (v1.length:Int)) v1)).length:Nat):Int)) (List.drop (Int.toNat (IntKind.wrap .i64 (y2.2.1+y2.1))) (List.take (Int.toNat (v1.length:Int)) v1)))).length:Nat):Int)) (List.drop (Int.toNat (IntKind.wrap .i64 (y3.2.1+y3.1))) (List.take (Int.toNat (((List.drop (Int.toNat (IntKind.wrap .i64 (y2.2.1+y2.1))) (List.take (Int.toNat (v1.length:Int)) v1)).length:Nat):Int)) (List.drop (Int.toNat (IntKind.wrap .i64 (y2.2.1+y2.1))) (List.take (Int.toNat (v1.length:Int)) v1)))))))))).length:Nat):Int)=0)),())) (
                     none)) (
                    none)))) (
                 none)) (
                none)))) (
             none)) (
            none)))) (
         none)) (
        none)))) (
     none)) (
    none)))
abbrev gE:Type:=(Unit×Unit×Int×Unit)×PA×aR×Unit
abbrev mO:Type:=(Unit)×PA×aR×Unit
abbrev lI:Type:=(Unit)×PA×aR×Unit
noncomputable def vP (v1:Int)(v2:Bool)(v3 v4:aR):Option (R3 gE mO lI):=
 cond (decide (v1<(v3.length:Int))) (
  ((f98 v3 v1)).bind fun y5=>
  cond (decide (y5.2.1=(-1))) (
   some (R3.ret ((),(((),()),(false,()),(v3,()),((),(),(),(),(),(),(),(),(),(),(),(),(),(),(),(),(),(),(),(),(),(),(),(),(),(),()),()),v4,()))) (
   cond (decide ((v4.length:Int)=400)) (
    some (R3.ret ((),(((),()),(false,()),(v3,()),((),(),(),(),(),(),(),(),(),(),(),(),(),(),(),(),(),(),(),(),(),(),(),(),(),(),()),()),v4,()))) (
    cond ((decide (((v4.length+1) * 8)≤140737488355328))&&(decide ((v4.length+1)≤9223372036854775807))) (
     cond (decide (y5.2.1=(-1))) (
      none) (
      some (R3.next (((),(),y5.2.1,()),(((),()),(v2,()),(v3,()),((),(),(),(),(),(),(),(),(),(),(),(),(),(),(),(),(),(),(),(),(),(),(),(),(),(),()),()),(v4++[y5.1]),())))) (
     none)))) (
  some (R3.out ((),(((),()),(v2,()),(v3,()),((),(),(),(),(),(),(),(),(),(),(),(),(),(),(),(),(),(),(),(),(),(),(),(),(),(),()),()),v4,())))
noncomputable def lV (z:gE):Option (R3 gE mO lI):=vP z.1.2.2.1 z.2.1.2.1.1 z.2.1.2.2.1.1 z.2.2.1
noncomputable def f101 (v1:aR):Option sO:=
 ((iter aI lV (((),(),0,()),(((),()),(true,()),(v1,()),((),(),(),(),(),(),(),(),(),(),(),(),(),(),(),(),(),(),(),(),(),(),(),(),(),(),()),()),[],()))).bind fun r=>match r with
 | .inl y2=>
   cond (!y2.2.1.2.1.1) (
    some ([],false,())) (
    some (y2.2.2.1,true,()))
 | .inr z3=>
   cond (!z3.2.1.2.1.1) (
    some ([],false,())) (
    some (z3.2.2.1,true,()))
noncomputable def f140 (v1 v2:Int):Option bh:=
 cond (decide (v1<0)) (
  some ((-1),())) (
  cond (decide (400<v1)) (
   some ((-1),())) (
   cond (decide (v2<0)) (
    some ((-1),())) (
    cond (decide (32<v2)) (
     some ((-1),())) (
     some ((IntKind.wrap .i64 (Int.tdiv (IntKind.wrap .i64 ((IntKind.wrap .i64 ((IntKind.wrap .i64 (v1 * v2))+8))-1)) 8)),())))))
abbrev CW:Type:=OX×(Unit)×aR×Unit
abbrev Bs:Type:=OX×(Unit)×aR×Unit
abbrev Ht:Type:=OX×(Unit)×aR×Unit
abbrev GQ:Type:=Unit×Unit×Unit
noncomputable def O4 (v1:aR)(v2 v3 v4 v5 v6:Int)(v7:aR):Option (R3 Bs Ht GQ):=
 cond (decide (v4<v2)) (
  cond (decide (0<(v1.length:Int))) (
   cond (!(decide (v4<0))) (
    cond ((decide (1≤(v1.length:Int)))&&(decide ((v1.length:Int)≤(v1.length:Int)))) (
     some (R3.next (((List.drop 1 (List.take (Int.toNat (v1.length:Int)) v1)),v2,(aN .or .u64 v3 (IntKind.wrap .u64 ((IntKind.wrap .u64 (rd tw v1 0)) * ((2:Int) ^ ((min (Int.toNat v4) 64):Nat))))),(IntKind.wrap .i64 (v4+8)),v5,v6,()),(),v7,()))) (
     none)) (
    none)) (
   none)) (
  cond (!(decide (v2<0))) (
   cond ((decide (((v7.length+1) * 8)≤140737488355328))&&(decide ((v7.length+1)≤9223372036854775807))) (
    cond (!(decide (v2<0))) (
     some (R3.out ((v1,v2,(Int.fdiv v3 ((2:Int) ^ ((min (Int.toNat v2) 64):Nat))),(IntKind.wrap .i64 (v4-v2)),v5,v6,()),(),(v7++[(IntKind.wrap .i64 (aN .and .u64 v3 (IntKind.wrap .u64 ((IntKind.wrap .u64 (1 * ((2:Int) ^ ((min (Int.toNat v2) 64):Nat))))-1))))]),()))) (
     none)) (
    none)) (
   none))
noncomputable def HC (z:Bs):Option (R3 Bs Ht GQ):=O4 z.1.1 z.1.2.1 z.1.2.2.1 z.1.2.2.2.1 z.1.2.2.2.2.1 z.1.2.2.2.2.2.1 z.2.2.1
abbrev F9:Type:=bh×(Unit)×aR×Unit
abbrev JE:Type:=Unit×Unit×Unit
noncomputable def Og (v1:aR)(v2 v3 v4 v5 v6:Int)(v7:aR):Option (R3 CW F9 JE):=
 cond (decide (v6<v5)) (
  ((iter aI HC ((v1,v2,v3,v4,v5,v6,()),(),v7,()))).bind fun r=>match r with
  | .inl y8=>
    some (R3.next ((y8.1.1,y8.1.2.1,y8.1.2.2.1,y8.1.2.2.2.1,y8.1.2.2.2.2.1,(IntKind.wrap .i64 (y8.1.2.2.2.2.2.1+1)),()),(),y8.2.2.1,()))
  | .inr z9=>
    some (R3.ret ((),(),()))) (
  some (R3.out ((v3,()),(),v7,())))
noncomputable def I5 (z:CW):Option (R3 CW F9 JE):=Og z.1.1 z.1.2.1 z.1.2.2.1 z.1.2.2.2.1 z.1.2.2.2.2.1 z.1.2.2.2.2.2.1 z.2.2.1
noncomputable def f103 (v1:aR)(v2 v3:Int):Option sO:=
 ((f140 v2 v3)).bind fun y4=>
 cond (!(decide (y4.1=(v1.length:Int)))) (
  some ([],false,())) (
  ((iter aI I5 ((v1,v3,0,0,v2,0,()),(),[],()))).bind fun r=>match r with
  | .inl y5=>
    cond (!(decide (y5.1.1=0))) (
     some ([],false,())) (
     some (y5.2.2.1,true,()))
  | .inr z6=>
    none)
noncomputable def f142 (v1:Int):Option bh:=
 cond (decide (v1<0)) (
  some (0,())) (
  cond (decide (549755813888<v1)) (
   some (0,())) (
   some ((aN .xor .i64 (Int.fdiv v1 2) (IntKind.wrap .i64 (0-(aN .and .i64 v1 1)))),())))
noncomputable def f143 (v1:Int):Option bZ:=
 cond (decide (0≤v1)) (
  some ((decide (v1<274877906944)),())) (
  some (false,()))
abbrev AQ:Type:=(aR×Unit×Unit×Int×Int×Unit)×jA×aR×Unit
abbrev Ga:Type:=(Unit)×(Unit)×aR×Unit
abbrev HX:Type:=bZ×(Unit)×aR×Unit
noncomputable def Oo (v1:aR)(v2 v3 v4:Int)(v5:aR):Option (R3 AQ Ga HX):=
 cond (decide (v3<v2)) (
  cond ((decide (0≤v3))&&(decide (v3<(v1.length:Int)))) (
   ((f142 (rd aU v1 (Int.toNat v3)))).bind fun y6=>
   cond (decide ((rd aU v1 (Int.toNat v3))≤549755813888)) (
    ((f143 (IntKind.wrap .i64 (v4+y6.1)))).bind fun y7=>
    cond (!y7.1) (
     some (R3.ret ((false,()),(),[],()))) (
     cond ((decide (((v5.length+1) * 8)≤140737488355328))&&(decide ((v5.length+1)≤9223372036854775807))) (
      some (R3.next ((v1,(),(),v2,(IntKind.wrap .i64 (v3+1)),()),(((IntKind.wrap .i64 (v4+y6.1)),()),()),(v5++[(IntKind.wrap .i64 (v4+y6.1))]),()))) (
      none))) (
    some (R3.ret ((false,()),(),[],())))) (
   none)) (
  some (R3.out ((),(),v5,())))
noncomputable def HP (z:AQ):Option (R3 AQ Ga HX):=Oo z.1.1 z.1.2.2.2.1 z.1.2.2.2.2.1 z.2.1.1.1 z.2.2.1
noncomputable def f104 (v1:aR):Option sO:=
 ((f101 v1)).bind fun y2=>
 cond (!y2.2.1) (
  some ([],false,())) (
  ((iter aI HP ((y2.1,(),(),(y2.1.length:Int),0,()),((0,()),()),[],()))).bind fun r=>match r with
  | .inl y3=>
    some (y3.2.2.1,true,())
  | .inr z4=>
    some (z4.2.2.1,z4.1.1,()))
abbrev jy:Type:=(Unit×Unit×Unit×Int×Unit)×V8×aW×bn×aW×aW×bn×aW×Unit
abbrev oW:Type:=(Unit)×V8×aW×bn×aW×aW×bn×aW×Unit
abbrev oO:Type:=Unit×(Unit×Unit×Unit×Unit×Unit×Unit×Unit)×Unit
noncomputable def xR (v1 v2 v3 v4 v5 v6 v7 v8 v9 v10 v11 v12:Int)(v13:Bool)(v14:Int)(v15 v16 v17 v18 v19:aR)(v20 v21 v22 v23 v24 v25 v26 v27 v28 v29 v30:Int)(v31:Bool)(v32:Int)(v33:aR)(v34:Int)(v35:aW)(v36:bn)(v37 v38:aW)(v39:bn)(v40:aW):Option (R3 jy oW oO):=
 cond (decide (v1<(v33.length:Int))) (
  cond (((decide (0≤v1))&&(decide (v1≤(v33.length:Int))))&&(decide ((v33.length:Int)≤(v33.length:Int)))) (
   cond ((((decide (0≤v1))&&(decide (v1≤(IntKind.wrap .i64 (v1+(pT v34 (((List.drop (Int.toNat v1) (List.take (Int.toNat (v33.length:Int)) v33)).length:Nat):Int)))))))&&(decide ((IntKind.wrap .i64 (v1+(pT v34 (((List.drop (Int.toNat v1) (List.take (Int.toNat (v33.length:Int)) v33)).length:Nat):Int))))≤(IntKind.wrap .i64 (v1+(pT v34 (((List.drop (Int.toNat v1) (List.take (Int.toNat (v33.length:Int)) v33)).length:Nat):Int)))))))&&(decide ((IntKind.wrap .i64 (v1+(pT v34 (((List.drop (Int.toNat v1) (List.take (Int.toNat (v33.length:Int)) v33)).length:Nat):Int))))≤(v33.length:Int)))) (
    cond (decide (0<(((List.drop (Int.toNat v1) (List.take (Int.toNat (IntKind.wrap .i64 (v1+(pT v34 (((List.drop (Int.toNat v1) (List.take (Int.toNat (v33.length:Int)) v33)).length:Nat):Int))))) v33)).length:Nat):Int))) (
     cond (decide (1<(((List.drop (Int.toNat v1) (List.take (Int.toNat (IntKind.wrap .i64 (v1+(pT v34 (((List.drop (Int.toNat v1) (List.take (Int.toNat (v33.length:Int)) v33)).length:Nat):Int))))) v33)).length:Nat):Int))) (
      cond (decide (2<(((List.drop (Int.toNat v1) (List.take (Int.toNat (IntKind.wrap .i64 (v1+(pT v34 (((List.drop (Int.toNat v1) (List.take (Int.toNat (v33.length:Int)) v33)).length:Nat):Int))))) v33)).length:Nat):Int))) (
       cond ((decide (((v38.length+1) * 24)≤140737488355328))&&(decide ((v38.length+1)≤9223372036854775807))) (
        some (R3.next (((),(),(),(IntKind.wrap .i64 (v1+v34)),()),((v2,v3,v4,v5,v6,v7,v8,v9,v10,v11,v12,v13,v14,(),(),(),()),(v15,v16,v17,v18,v19,()),(v20,v21,v22,v23,v24,v25,v26,v27,v28,v29,v30,v31,v32,(),(),(),()),(v33,()),(v34,()),((),(),(),(),(),(),(),(),(),(),(),(),(),(),(),(),(),(),(),(),(),(),(),(),(),(),(),(),(),(),(),(),(),(),(),(),(),(),(),(),(),(),(),(),(),(),(),(),(),(),(),(),(),(),(),(),(),(),(),(),(),(),(),(),(),(),(),(),(),(),(),(),(),(),(),(),(),(),(),(),(),(),(),(),(),(),(),(),(),(),(),(),(),(),(),(),(),(),(),(),(),(),(),(),(),(),(),(),(),(),(),(),(),(),(),(),(),(),(),(),(),(),(),(),(),(),(),(),(),(),(),(),(),(),(),(),(),(),(),(),(),(),(),(),(),(),(),(),(),(),(),(),(),(),(),(),(),(),(),(),(),(),(),(),(),(),(),(),(),(),(),(),(),(),(),(),(),(),(),(),(),(),(),(),(),(),(),(),(),(),(),(),(),(),(),(),(),(),(),(),(),(),(),(),(),(),(),(),(),(),(),(),(),(),(),(),(),(),(),(),(),(),(),(),(),(),(),(),(),(),(),(),(),(),(),(),(),()),()),v35,v36,v37,(v38++[((rd aU (List.drop (Int.toNat v1) (List.take (Int.toNat (IntKind.wrap .i64 (v1+(pT v34 (((List.drop (Int.toNat v1) (List.take (Int.toNat (v33.length:Int)) v33)).length:Nat):Int))))) v33)) 0),(rd aU (List.drop (Int.toNat v1) (List.take (Int.toNat (IntKind.wrap .i64 (v1+(pT v34 (((List.drop (Int.toNat v1) (List.take (Int.toNat (v33.length:Int)) v33)).length:Nat):Int))))) v33)) 1),(rd aU (List.drop (Int.toNat v1) (List.take (Int.toNat (IntKind.wrap .i64 (v1+(pT v34 (((List.drop (Int.toNat v1) (List.take (Int.toNat (v33.length:Int)) v33)).length:Nat):Int))))) v33)) 2))]),v39,v40,()))) (
        none)) (
       none)) (
      none)) (
     none)) (
    none)) (
   none)) (
  some (R3.out ((),((v2,v3,v4,v5,v6,v7,v8,v9,v10,v11,v12,v13,v14,(),(),(),()),(v15,v16,v17,v18,v19,()),(v20,v21,v22,v23,v24,v25,v26,v27,v28,v29,v30,v31,v32,(),(),(),()),(v33,()),(v34,()),((),(),(),(),(),(),(),(),(),(),(),(),(),(),(),(),(),(),(),(),(),(),(),(),(),(),(),(),(),(),(),(),(),(),(),(),(),(),(),(),(),(),(),(),(),(),(),(),(),(),(),(),(),(),(),(),(),(),(),(),(),(),(),(),(),(),(),(),(),(),(),(),(),(),(),(),(),(),(),(),(),(),(),(),(),(),(),(),(),(),(),(),(),(),(),(),(),(),(),(),(),(),(),(),(),(),(),(),(),(),(),(),(),(),(),(),(),(),(),(),(),(),(),(),(),(),(),(),(),(),(),(),(),(),(),(),(),(),(),(),(),(),(),(),(),(),(),(),(),(),(),(),(),(),(),(),(),(),(),(),(),(),(),(),(),(),(),(),(),(),(),(),(),(),(),(),(),(),(),(),(),(),(),(),(),(),(),(),(),(),(),(),(),(),(),(),(),(),(),(),(),(),(),(),(),(),(),(),(),(),(),(),(),(),(),(),(),(),(),(),(),(),(),(),(),(),(),(),(),(),(),(),(),(),(),(),(),()),()),v35,v36,v37,v38,v39,v40,())))
noncomputable def oS (z:jy):Option (R3 jy oW oO):=xR z.1.2.2.2.1 z.2.1.1.1 z.2.1.1.2.1 z.2.1.1.2.2.1 z.2.1.1.2.2.2.1 z.2.1.1.2.2.2.2.1 z.2.1.1.2.2.2.2.2.1 z.2.1.1.2.2.2.2.2.2.1 z.2.1.1.2.2.2.2.2.2.2.1 z.2.1.1.2.2.2.2.2.2.2.2.1 z.2.1.1.2.2.2.2.2.2.2.2.2.1 z.2.1.1.2.2.2.2.2.2.2.2.2.2.1 z.2.1.1.2.2.2.2.2.2.2.2.2.2.2.1 z.2.1.1.2.2.2.2.2.2.2.2.2.2.2.2.1 z.2.1.2.1.1 z.2.1.2.1.2.1 z.2.1.2.1.2.2.1 z.2.1.2.1.2.2.2.1 z.2.1.2.1.2.2.2.2.1 z.2.1.2.2.1.1 z.2.1.2.2.1.2.1 z.2.1.2.2.1.2.2.1 z.2.1.2.2.1.2.2.2.1 z.2.1.2.2.1.2.2.2.2.1 z.2.1.2.2.1.2.2.2.2.2.1 z.2.1.2.2.1.2.2.2.2.2.2.1 z.2.1.2.2.1.2.2.2.2.2.2.2.1 z.2.1.2.2.1.2.2.2.2.2.2.2.2.1 z.2.1.2.2.1.2.2.2.2.2.2.2.2.2.1 z.2.1.2.2.1.2.2.2.2.2.2.2.2.2.2.1 z.2.1.2.2.1.2.2.2.2.2.2.2.2.2.2.2.1 z.2.1.2.2.1.2.2.2.2.2.2.2.2.2.2.2.2.1 z.2.1.2.2.2.1.1 z.2.1.2.2.2.2.1.1 z.2.2.1 z.2.2.2.1 z.2.2.2.2.1 z.2.2.2.2.2.1 z.2.2.2.2.2.2.1 z.2.2.2.2.2.2.2.1
abbrev B8:Type:=(Unit×Unit×aR×aR×aR×aR×Int×Int×Unit)×ED×aW×bn×aW×aW×bn×aW×Unit
abbrev F3:Type:=(Unit×Unit×aR×aR×Unit)×ED×aW×bn×aW×aW×bn×aW×Unit
abbrev Ge:Type:=Unit×Unit×Unit
noncomputable def Pu (v1 v2 v3 v4:aR)(v5 v6 v7 v8 v9 v10 v11 v12 v13 v14 v15 v16 v17:Int)(v18:Bool)(v19 v20 v21 v22 v23 v24 v25 v26 v27 v28 v29 v30:Int)(v31:Bool)(v32:Int)(v33:aW)(v34:bn)(v35 v36:aW)(v37:bn)(v38:aW):Option (R3 B8 F3 Ge):=
 cond (decide (v6<v5)) (
  cond ((decide (0≤v6))&&(decide (v6<(v4.length:Int)))) (
   cond ((decide (0≤v6))&&(decide (v6<(v1.length:Int)))) (
    cond ((decide (((v37.length+1) * 40)≤140737488355328))&&(decide ((v37.length+1)≤9223372036854775807))) (
     some (R3.next (((),(),v1,v2,v3,v4,v5,(IntKind.wrap .i64 (v6+1)),()),((v7,v8,v9,v10,v11,v12,v13,v14,v15,v16,v17,v18,v19,(),(),(),()),(v20,v21,v22,v23,v24,v25,v26,v27,v28,v29,v30,v31,v32,(),(),(),()),()),v33,v34,v35,v36,(v37++[((Int.fdiv (rd aU v4 (Int.toNat v6)) 32),(IntKind.wrap .i64 (Int.tdiv (aN .and .i64 (rd aU v4 (Int.toNat v6)) 31) 8)),(Int.tmod (aN .and .i64 (rd aU v4 (Int.toNat v6)) 31) 8),(rd aU v1 (Int.toNat v6)),v32)]),v38,()))) (
     none)) (
    none)) (
   none)) (
  some (R3.out (((),(),v2,v3,()),((v7,v8,v9,v10,v11,v12,v13,v14,v15,v16,v17,v18,v19,(),(),(),()),(v20,v21,v22,v23,v24,v25,v26,v27,v28,v29,v30,v31,v32,(),(),(),()),()),v33,v34,v35,v36,v37,v38,())))
noncomputable def J3 (z:B8):Option (R3 B8 F3 Ge):=Pu z.1.2.2.1 z.1.2.2.2.1 z.1.2.2.2.2.1 z.1.2.2.2.2.2.1 z.1.2.2.2.2.2.2.1 z.1.2.2.2.2.2.2.2.1 z.2.1.1.1 z.2.1.1.2.1 z.2.1.1.2.2.1 z.2.1.1.2.2.2.1 z.2.1.1.2.2.2.2.1 z.2.1.1.2.2.2.2.2.1 z.2.1.1.2.2.2.2.2.2.1 z.2.1.1.2.2.2.2.2.2.2.1 z.2.1.1.2.2.2.2.2.2.2.2.1 z.2.1.1.2.2.2.2.2.2.2.2.2.1 z.2.1.1.2.2.2.2.2.2.2.2.2.2.1 z.2.1.1.2.2.2.2.2.2.2.2.2.2.2.1 z.2.1.1.2.2.2.2.2.2.2.2.2.2.2.2.1 z.2.1.2.1.1 z.2.1.2.1.2.1 z.2.1.2.1.2.2.1 z.2.1.2.1.2.2.2.1 z.2.1.2.1.2.2.2.2.1 z.2.1.2.1.2.2.2.2.2.1 z.2.1.2.1.2.2.2.2.2.2.1 z.2.1.2.1.2.2.2.2.2.2.2.1 z.2.1.2.1.2.2.2.2.2.2.2.2.1 z.2.1.2.1.2.2.2.2.2.2.2.2.2.1 z.2.1.2.1.2.2.2.2.2.2.2.2.2.2.1 z.2.1.2.1.2.2.2.2.2.2.2.2.2.2.2.1 z.2.1.2.1.2.2.2.2.2.2.2.2.2.2.2.2.1 z.2.2.1 z.2.2.2.1 z.2.2.2.2.1 z.2.2.2.2.2.1 z.2.2.2.2.2.2.1 z.2.2.2.2.2.2.2.1
abbrev BI:Type:=(Unit×Unit×aR×aR×Int×Int×Unit)×ED×aW×bn×aW×aW×bn×aW×Unit
abbrev JY:Type:=jv×ED×aW×bn×aW×aW×bn×aW×Unit
abbrev GA:Type:=Unit×Unit×Unit
noncomputable def PD (v1 v2:aR)(v3 v4 v5 v6 v7 v8 v9 v10 v11 v12 v13 v14 v15:Int)(v16:Bool)(v17 v18 v19 v20 v21 v22 v23 v24 v25 v26 v27 v28:Int)(v29:Bool)(v30:Int)(v31:aW)(v32:bn)(v33 v34:aW)(v35:bn)(v36:aW):Option (R3 BI JY GA):=
 cond (decide (v4<v3)) (
  cond ((decide (0≤v4))&&(decide (v4<(v2.length:Int)))) (
   cond ((decide (0≤v4))&&(decide (v4<(v1.length:Int)))) (
    cond ((decide (((v36.length+1) * 24)≤140737488355328))&&(decide ((v36.length+1)≤9223372036854775807))) (
     some (R3.next (((),(),v1,v2,v3,(IntKind.wrap .i64 (v4+1)),()),((v5,v6,v7,v8,v9,v10,v11,v12,v13,v14,v15,v16,v17,(),(),(),()),(v18,v19,v20,v21,v22,v23,v24,v25,v26,v27,v28,v29,v30,(),(),(),()),()),v31,v32,v33,v34,v35,(v36++[((IntKind.wrap .i64 (Int.tdiv (rd aU v2 (Int.toNat v4)) 8)),(Int.tmod (rd aU v2 (Int.toNat v4)) 8),(rd aU v1 (Int.toNat v4)))]),()))) (
     none)) (
    none)) (
   none)) (
  some (R3.out (((),(),()),((v5,v6,v7,v8,v9,v10,v11,v12,v13,v14,v15,v16,v17,(),(),(),()),(v18,v19,v20,v21,v22,v23,v24,v25,v26,v27,v28,v29,v30,(),(),(),()),()),v31,v32,v33,v34,v35,v36,())))
noncomputable def J5 (z:BI):Option (R3 BI JY GA):=PD z.1.2.2.1 z.1.2.2.2.1 z.1.2.2.2.2.1 z.1.2.2.2.2.2.1 z.2.1.1.1 z.2.1.1.2.1 z.2.1.1.2.2.1 z.2.1.1.2.2.2.1 z.2.1.1.2.2.2.2.1 z.2.1.1.2.2.2.2.2.1 z.2.1.1.2.2.2.2.2.2.1 z.2.1.1.2.2.2.2.2.2.2.1 z.2.1.1.2.2.2.2.2.2.2.2.1 z.2.1.1.2.2.2.2.2.2.2.2.2.1 z.2.1.1.2.2.2.2.2.2.2.2.2.2.1 z.2.1.1.2.2.2.2.2.2.2.2.2.2.2.1 z.2.1.1.2.2.2.2.2.2.2.2.2.2.2.2.1 z.2.1.2.1.1 z.2.1.2.1.2.1 z.2.1.2.1.2.2.1 z.2.1.2.1.2.2.2.1 z.2.1.2.1.2.2.2.2.1 z.2.1.2.1.2.2.2.2.2.1 z.2.1.2.1.2.2.2.2.2.2.1 z.2.1.2.1.2.2.2.2.2.2.2.1 z.2.1.2.1.2.2.2.2.2.2.2.2.1 z.2.1.2.1.2.2.2.2.2.2.2.2.2.1 z.2.1.2.1.2.2.2.2.2.2.2.2.2.2.1 z.2.1.2.1.2.2.2.2.2.2.2.2.2.2.2.1 z.2.1.2.1.2.2.2.2.2.2.2.2.2.2.2.2.1 z.2.2.1 z.2.2.2.1 z.2.2.2.2.1 z.2.2.2.2.2.1 z.2.2.2.2.2.2.1 z.2.2.2.2.2.2.2.1
noncomputable def f71 (v1:aR):Option (K4×Bool×Unit):=
 ((f100 v1)).bind fun y2=>
 ((f101 y2.1.1)).bind fun y3=>
 cond (!y2.2.1) (
  some ((((0,0),(0,0),0,0,0,0),(0,0,0,false),0,[],[],[]),false,())) (
  cond (!y3.2.1) (
   some ((((0,0),(0,0),0,0,0,0),(0,0,0,false),0,[],[],[]),false,())) (
   cond (decide ((y3.1.length:Int)<15)) (
    some ((((0,0),(0,0),0,0,0,0),(0,0,0,false),0,[],[],[]),false,())) (
    cond (!(decide ((Int.tmod (IntKind.wrap .i64 ((y3.1.length:Int)-15)) 3)=0))) (
     some ((((0,0),(0,0),0,0,0,0),(0,0,0,false),0,[],[],[]),false,())) (
     cond (decide (11<(y3.1.length:Int))) (
      cond (decide (1<(rd aU y3.1 11))) (
       some ((((0,0),(0,0),0,0,0,0),(0,0,0,false),0,[],[],[]),false,())) (
       cond (decide (0<(y3.1.length:Int))) (
        cond (decide (1<(y3.1.length:Int))) (
         cond (decide (2<(y3.1.length:Int))) (
          cond (decide (3<(y3.1.length:Int))) (
           cond (decide (4<(y3.1.length:Int))) (
            cond (decide (5<(y3.1.length:Int))) (
             cond (decide (6<(y3.1.length:Int))) (
              cond (decide (7<(y3.1.length:Int))) (
               cond (decide (8<(y3.1.length:Int))) (
                cond (decide (9<(y3.1.length:Int))) (
                 cond (decide (10<(y3.1.length:Int))) (
                  cond (decide (11<(y3.1.length:Int))) (
                   cond (decide (12<(y3.1.length:Int))) (
                    cond ((decide (15≤(y3.1.length:Int)))&&(decide ((y3.1.length:Int)≤(y3.1.length:Int)))) (
                     ((iter aI oS (((),(),(),0,()),((0,0,0,0,0,0,0,0,0,0,0,false,0,(),(),(),()),(y2.1.1,y2.1.2.1,y2.1.2.2.1,y2.1.2.2.2.1,y2.1.2.2.2.2,()),((rd aU y3.1 0),(rd aU y3.1 1),(rd aU y3.1 2),(rd aU y3.1 3),(rd aU y3.1 4),(rd aU y3.1 5),(rd aU y3.1 6),(rd aU y3.1 7),(rd aU y3.1 8),(rd aU y3.1 9),(rd aU y3.1 10),(decide ((rd aU y3.1 11)=1)),(rd aU y3.1 12),(),(),(),()),((List.drop 15 (List.take (Int.toNat (y3.1.length:Int)) y3.1)),()),(3,()),((),(),(),(),(),(),(),(),(),(),(),(),(),(),(),(),(),(),(),(),(),(),(),(),(),(),(),(),(),(),(),(),(),(),(),(),(),(),(),(),(),(),(),(),(),(),(),(),(),(),(),(),(),(),(),(),(),(),(),(),(),(),(),(),(),(),(),(),(),(),(),(),(),(),(),(),(),(),(),(),(),(),(),(),(),(),(),(),(),(),(),(),(),(),(),(),(),(),(),(),(),(),(),(),(),(),(),(),(),(),(),(),(),(),(),(),(),(),(),(),(),(),(),(),(),(),(),(),(),(),(),(),(),(),(),(),(),(),(),(),(),(),(),(),(),(),(),(),(),(),(),(),(),(),(),(),(),(),(),(),(),(),(),(),(),(),(),(),(),(),(),(),(),(),(),(),(),(),(),(),(),(),(),(),(),(),(),(),(),(),(),(),(),(),(),(),(),(),(),(),(),(),(),(),(),(),(),(),(),(),(),(),(),(),(),(),(),(),(),(),(),(),(),(),(),(),(),(),(),(),(),(),(),(),(),(),(),()),()),[],[],[],[],[],[],()))).bind fun r=>match r with
                     | .inl y4=>
                       cond (decide (13<(y3.1.length:Int))) (
                        ((f103 y4.2.1.2.1.2.1 (rd aU y3.1 13) 10)).bind fun y6=>
                        ((f104 y4.2.1.2.1.2.2.1)).bind fun y7=>
                        cond (decide (14<(y3.1.length:Int))) (
                         ((f103 y4.2.1.2.1.2.2.2.1 (rd aU y3.1 14) 5)).bind fun y8=>
                         ((f104 y4.2.1.2.1.2.2.2.2.1)).bind fun y9=>
                         cond (!y6.2.1) (
                          some ((((0,0),(0,0),0,0,0,0),(0,0,0,false),0,[],[],[]),false,())) (
                          cond (!y7.2.1) (
                           some ((((0,0),(0,0),0,0,0,0),(0,0,0,false),0,[],[],[]),false,())) (
                           cond (!y8.2.1) (
                            some ((((0,0),(0,0),0,0,0,0),(0,0,0,false),0,[],[],[]),false,())) (
                            cond (!y9.2.1) (
                             some ((((0,0),(0,0),0,0,0,0),(0,0,0,false),0,[],[],[]),false,())) (
                             cond (!(decide ((y7.1.length:Int)=(y6.1.length:Int)))) (
                              some ((((0,0),(0,0),0,0,0,0),(0,0,0,false),0,[],[],[]),false,())) (
                              cond (!(decide ((y9.1.length:Int)=(y8.1.length:Int)))) (
                               some ((((0,0),(0,0),0,0,0,0),(0,0,0,false),0,[],[],[]),false,())) (
                               ((iter aI J3 (((),(),y7.1,y8.1,y9.1,y6.1,(y6.1.length:Int),0,()),((y4.2.1.1.1,y4.2.1.1.2.1,y4.2.1.1.2.2.1,y4.2.1.1.2.2.2.1,y4.2.1.1.2.2.2.2.1,y4.2.1.1.2.2.2.2.2.1,y4.2.1.1.2.2.2.2.2.2.1,y4.2.1.1.2.2.2.2.2.2.2.1,y4.2.1.1.2.2.2.2.2.2.2.2.1,y4.2.1.1.2.2.2.2.2.2.2.2.2.1,y4.2.1.1.2.2.2.2.2.2.2.2.2.2.1,y4.2.1.1.2.2.2.2.2.2.2.2.2.2.2.1,y4.2.1.1.2.2.2.2.2.2.2.2.2.2.2.2.1,(),(),(),()),(y4.2.1.2.2.1.1,y4.2.1.2.2.1.2.1,y4.2.1.2.2.1.2.2.1,y4.2.1.2.2.1.2.2.2.1,y4.2.1.2.2.1.2.2.2.2.1,y4.2.1.2.2.1.2.2.2.2.2.1,y4.2.1.2.2.1.2.2.2.2.2.2.1,y4.2.1.2.2.1.2.2.2.2.2.2.2.1,y4.2.1.2.2.1.2.2.2.2.2.2.2.2.1,y4.2.1.2.2.1.2.2.2.2.2.2.2.2.2.1,y4.2.1.2.2.1.2.2.2.2.2.2.2.2.2.2.1,y4.2.1.2.2.1.2.2.2.2.2.2.2.2.2.2.2.1,y4.2.1.2.2.1.2.2.2.2.2.2.2.2.2.2.2.2.1,(),(),(),()),()),y4.2.2.1,y4.2.2.2.1,y4.2.2.2.2.1,y4.2.2.2.2.2.1,y4.2.2.2.2.2.2.1,y4.2.2.2.2.2.2.2.1,()))).bind fun r=>match r with
                               | .inl y10=>
                                 ((iter aI J5 (((),(),y10.1.2.2.2.1,y10.1.2.2.1,(y10.1.2.2.1.length:Int),0,()),((y10.2.1.1.1,y10.2.1.1.2.1,y10.2.1.1.2.2.1,y10.2.1.1.2.2.2.1,y10.2.1.1.2.2.2.2.1,y10.2.1.1.2.2.2.2.2.1,y10.2.1.1.2.2.2.2.2.2.1,y10.2.1.1.2.2.2.2.2.2.2.1,y10.2.1.1.2.2.2.2.2.2.2.2.1,y10.2.1.1.2.2.2.2.2.2.2.2.2.1,y10.2.1.1.2.2.2.2.2.2.2.2.2.2.1,y10.2.1.1.2.2.2.2.2.2.2.2.2.2.2.1,y10.2.1.1.2.2.2.2.2.2.2.2.2.2.2.2.1,(),(),(),()),(y10.2.1.2.1.1,y10.2.1.2.1.2.1,y10.2.1.2.1.2.2.1,y10.2.1.2.1.2.2.2.1,y10.2.1.2.1.2.2.2.2.1,y10.2.1.2.1.2.2.2.2.2.1,y10.2.1.2.1.2.2.2.2.2.2.1,y10.2.1.2.1.2.2.2.2.2.2.2.1,y10.2.1.2.1.2.2.2.2.2.2.2.2.1,y10.2.1.2.1.2.2.2.2.2.2.2.2.2.1,y10.2.1.2.1.2.2.2.2.2.2.2.2.2.2.1,y10.2.1.2.1.2.2.2.2.2.2.2.2.2.2.2.1,y10.2.1.2.1.2.2.2.2.2.2.2.2.2.2.2.2.1,(),(),(),()),()),y10.2.2.1,y10.2.2.2.1,y10.2.2.2.2.1,y10.2.2.2.2.2.1,y10.2.2.2.2.2.2.1,y10.2.2.2.2.2.2.2.1,()))).bind fun r=>match r with
                                 | .inl y12=>
                                   ((f78 y12.2.1.2.1.1 y12.2.1.2.1.2.1 y12.2.1.2.1.2.2.1 y12.2.1.2.1.2.2.2.1 y12.2.1.2.1.2.2.2.2.1 y12.2.1.2.1.2.2.2.2.2.1 y12.2.1.2.1.2.2.2.2.2.2.1 y12.2.1.2.1.2.2.2.2.2.2.2.1 y12.2.1.2.1.2.2.2.2.2.2.2.2.1 y12.2.1.2.1.2.2.2.2.2.2.2.2.2.1 y12.2.1.2.1.2.2.2.2.2.2.2.2.2.2.1 y12.2.1.2.1.2.2.2.2.2.2.2.2.2.2.2.1 y12.2.1.2.1.2.2.2.2.2.2.2.2.2.2.2.2.1 y12.2.2.2.2.2.1 y12.2.2.2.2.2.2.1 y12.2.2.2.2.2.2.2.1)).bind fun y14=>
                                   cond (!y14.1) (
                                    some ((((0,0),(0,0),0,0,0,0),(0,0,0,false),0,[],[],[]),false,())) (
                                    some ((((y12.2.1.2.1.1,y12.2.1.2.1.2.1),(y12.2.1.2.1.2.2.1,y12.2.1.2.1.2.2.2.1),y12.2.1.2.1.2.2.2.2.1,y12.2.1.2.1.2.2.2.2.2.1,y12.2.1.2.1.2.2.2.2.2.2.1,y12.2.1.2.1.2.2.2.2.2.2.2.1),(y12.2.1.2.1.2.2.2.2.2.2.2.2.1,y12.2.1.2.1.2.2.2.2.2.2.2.2.2.1,y12.2.1.2.1.2.2.2.2.2.2.2.2.2.2.1,y12.2.1.2.1.2.2.2.2.2.2.2.2.2.2.2.1),y12.2.1.2.1.2.2.2.2.2.2.2.2.2.2.2.2.1,y12.2.2.2.2.2.1,y12.2.2.2.2.2.2.1,y12.2.2.2.2.2.2.2.1),true,()))
                                 | .inr z13=>
                                   none
                               | .inr z11=>
                                 none))))))) (
                         none)) (
                        none)
                     | .inr z5=>
                       none) (
                     none)) (
                    none)) (
                   none)) (
                  none)) (
                 none)) (
                none)) (
               none)) (
              none)) (
             none)) (
            none)) (
           none)) (
          none)) (
         none)) (
        none))) (
      none)))))
noncomputable def f39 (v1:aR):Option (K4×Int×Bool×Unit):=
 ((f70 v1 0)).bind fun y2=>
 cond (!(decide (y2.2.2.1=0))) (
  some ((((0,0),(0,0),0,0,0,0),(0,0,0,false),0,[],[],[]),0,false,())) (
  cond (!(decide (y2.1.1=1))) (
   some ((((0,0),(0,0),0,0,0,0),(0,0,0,false),0,[],[],[]),0,false,())) (
   ((f71 y2.1.2)).bind fun y3=>
   cond (!y3.2.1) (
    some ((((0,0),(0,0),0,0,0,0),(0,0,0,false),0,[],[],[]),0,false,())) (
    some ((((y3.1.1.1.1,y3.1.1.1.2),(y3.1.1.2.1.1,y3.1.1.2.1.2),y3.1.1.2.2.1,y3.1.1.2.2.2.1,y3.1.1.2.2.2.2.1,y3.1.1.2.2.2.2.2),(y3.1.2.1.1,y3.1.2.1.2.1,y3.1.2.1.2.2.1,y3.1.2.1.2.2.2),y3.1.2.2.1,y3.1.2.2.2.1,y3.1.2.2.2.2.1,y3.1.2.2.2.2.2),y2.2.1,true,()))))
noncomputable def f75 (v1 v2 v3 v4 v5:Int):Option ((Int×Int×Int)×Unit):=
 some ((v1,v2,v3),())
noncomputable def f83 (v1 v2 v3:Int):Option bZ:=
 cond (decide (v2≤v1)) (
  some ((decide (v1≤v3)),())) (
  some (false,()))
noncomputable def f84 (v1 v2 v3 v4 v5 v6 v7 v8:Int)(v9:Bool):Option bZ:=
 ((f83 v2 0 1073741824)).bind fun y10=>
 cond (!y10.1) (
  some (false,())) (
  cond (!(decide (v1=6))) (
   cond (!((decide (v6=0))&&((decide (v7=0))&&((decide (v8=0))&&((v9 == false)&&true))))) (
    some (false,())) (
    cond (decide (v1=0)) (
     ((f83 v3 0 31)).bind fun y11=>
     cond y11.1 (
      ((f83 v4 0 3)).bind fun y12=>
      cond y12.1 (
       ((f83 v5 0 7)).bind fun y13=>
       some (y13.1,())) (
       some (false,()))) (
      some (false,()))) (
     cond (decide (v1=1)) (
      ((f83 v3 0 31)).bind fun y14=>
      cond y14.1 (
       ((f83 v4 0 3)).bind fun y15=>
       cond y15.1 (
        ((f83 v5 0 7)).bind fun y16=>
        some (y16.1,())) (
        some (false,()))) (
       some (false,()))) (
      cond (decide (v1=2)) (
       ((f83 v3 0 3)).bind fun y17=>
       cond y17.1 (
        ((f83 v4 1 4)).bind fun y18=>
        cond y18.1 (
         ((f83 v5 0 0)).bind fun y19=>
         some (y19.1,())) (
         some (false,()))) (
        some (false,()))) (
       cond (decide (v1=4)) (
        ((f83 v3 0 2)).bind fun y20=>
        cond y20.1 (
         ((f83 v4 1 4)).bind fun y21=>
         cond y21.1 (
          ((f83 v5 0 0)).bind fun y22=>
          some (y22.1,())) (
          some (false,()))) (
         some (false,()))) (
        cond (decide (v1=3)) (
         ((f83 v3 0 2)).bind fun y23=>
         cond y23.1 (
          ((f83 v4 0 0)).bind fun y24=>
          cond y24.1 (
           ((f83 v5 0 0)).bind fun y25=>
           some (y25.1,())) (
           some (false,()))) (
          some (false,()))) (
         cond (decide (v1=5)) (
          ((f83 v3 0 2)).bind fun y26=>
          cond y26.1 (
           ((f83 v4 0 0)).bind fun y27=>
           cond y27.1 (
            ((f83 v5 0 0)).bind fun y28=>
            some (y28.1,())) (
            some (false,()))) (
           some (false,()))) (
          cond (decide (v1=6)) (
           ((f106 v6 v7 v8 v9)).bind fun y29=>
           cond (!y29.1) (
            some (false,())) (
            ((f83 v3 0 0)).bind fun y30=>
            cond y30.1 (
             ((f83 v4 0 0)).bind fun y31=>
             cond y31.1 (
              ((f83 v5 0 0)).bind fun y32=>
              some (y32.1,())) (
              some (false,()))) (
             some (false,())))) (
           some (false,())))))))))) (
   cond (decide (v1=0)) (
    ((f83 v3 0 31)).bind fun y33=>
    cond y33.1 (
     ((f83 v4 0 3)).bind fun y34=>
     cond y34.1 (
      ((f83 v5 0 7)).bind fun y35=>
      some (y35.1,())) (
      some (false,()))) (
     some (false,()))) (
    cond (decide (v1=1)) (
     ((f83 v3 0 31)).bind fun y36=>
     cond y36.1 (
      ((f83 v4 0 3)).bind fun y37=>
      cond y37.1 (
       ((f83 v5 0 7)).bind fun y38=>
       some (y38.1,())) (
       some (false,()))) (
      some (false,()))) (
     cond (decide (v1=2)) (
      ((f83 v3 0 3)).bind fun y39=>
      cond y39.1 (
       ((f83 v4 1 4)).bind fun y40=>
       cond y40.1 (
        ((f83 v5 0 0)).bind fun y41=>
        some (y41.1,())) (
        some (false,()))) (
       some (false,()))) (
      cond (decide (v1=4)) (
       ((f83 v3 0 2)).bind fun y42=>
       cond y42.1 (
        ((f83 v4 1 4)).bind fun y43=>
        cond y43.1 (
         ((f83 v5 0 0)).bind fun y44=>
         some (y44.1,())) (
         some (false,()))) (
        some (false,()))) (
       cond (decide (v1=3)) (
        ((f83 v3 0 2)).bind fun y45=>
        cond y45.1 (
         ((f83 v4 0 0)).bind fun y46=>
         cond y46.1 (
          ((f83 v5 0 0)).bind fun y47=>
          some (y47.1,())) (
          some (false,()))) (
         some (false,()))) (
        cond (decide (v1=5)) (
         ((f83 v3 0 2)).bind fun y48=>
         cond y48.1 (
          ((f83 v4 0 0)).bind fun y49=>
          cond y49.1 (
           ((f83 v5 0 0)).bind fun y50=>
           some (y50.1,())) (
           some (false,()))) (
          some (false,()))) (
         cond (decide (v1=6)) (
          ((f106 v6 v7 v8 v9)).bind fun y51=>
          cond (!y51.1) (
           some (false,())) (
           ((f83 v3 0 0)).bind fun y52=>
           cond y52.1 (
            ((f83 v4 0 0)).bind fun y53=>
            cond y53.1 (
             ((f83 v5 0 0)).bind fun y54=>
             some (y54.1,())) (
             some (false,()))) (
            some (false,())))) (
          some (false,()))))))))))
abbrev Gh:Type:=jv×((Unit×Unit×Unit×Unit×Unit×Unit×Unit×Unit)×(Int×aR×Int×Int×Int×Int×Int×Int×Int×Int×Bool×Bool×Unit)×Unit)×uX×Unit
abbrev MT:Type:=(Unit)×(Unit)×uX×Unit
abbrev Nj:Type:=bZ×(Unit)×uX×Unit
noncomputable def RN (v1:Int)(v2:aR)(v3 v4 v5 v6 v7 v8 v9 v10:Int)(v11 v12:Bool)(v13:uX):Option (R3 Gh MT Nj):=
 cond (decide (0<(v2.length:Int))) (
  cond (decide ((v2.length:Int)=0)) (
   cond (decide ((v2.length:Int)=0)) (
    some (R3.ret ((false,()),(),[],()))) (
    cond (decide (0<(v2.length:Int))) (
     cond ((decide (1≤(v2.length:Int)))&&(decide ((v2.length:Int)≤(v2.length:Int)))) (
      some (R3.ret ((false,()),(),[],()))) (
      none)) (
     none))) (
   cond (decide (0<(v2.length:Int))) (
    cond ((decide (1≤(v2.length:Int)))&&(decide ((v2.length:Int)≤(v2.length:Int)))) (
     cond (decide (7≤(Int.tmod (rd aU v2 0) 16))) (
      some (R3.ret ((false,()),(),[],()))) (
      cond (decide ((Int.tmod (rd aU v2 0) 16)=0)) (
       cond (decide ((((List.drop 1 (List.take (Int.toNat (v2.length:Int)) v2)).length:Nat):Int)=0)) (
        some (R3.ret ((false,()),(),[],()))) (
        cond (decide (0<(((List.drop 1 (List.take (Int.toNat (v2.length:Int)) v2)).length:Nat):Int))) (
         cond ((decide (1≤(((List.drop 1 (List.take (Int.toNat (v2.length:Int)) v2)).length:Nat):Int)))&&(decide ((((List.drop 1 (List.take (Int.toNat (v2.length:Int)) v2)).length:Nat):Int)≤(((List.drop 1 (List.take (Int.toNat (v2.length:Int)) v2)).length:Nat):Int)))) (
          cond v12 (
           some (R3.ret ((false,()),(),[],()))) (
           ((f84 (Int.tmod (rd aU v2 0) 16) (IntKind.wrap .i64 (v1+(IntKind.wrap .i64 (Int.tdiv (rd aU v2 0) 16)))) (Int.fdiv (rd aU (List.drop 1 (List.take (Int.toNat (v2.length:Int)) v2)) 0) 32) (aN .and .i64 (Int.fdiv (rd aU (List.drop 1 (List.take (Int.toNat (v2.length:Int)) v2)) 0) 8) 3) (aN .and .i64 (rd aU (List.drop 1 (List.take (Int.toNat (v2.length:Int)) v2)) 0) 7) 0 0 0 false)).bind fun y14=>
           cond (!y14.1) (
            some (R3.ret ((false,()),(),[],()))) (
            cond ((decide (((v13.length+1) * 72)≤140737488355328))&&(decide ((v13.length+1)≤9223372036854775807))) (
             some (R3.next (((),(),()),(((),(),(),(),(),(),(),()),((IntKind.wrap .i64 (v1+(IntKind.wrap .i64 (Int.tdiv (rd aU v2 0) 16)))),(List.drop 1 (List.take (Int.toNat (((List.drop 1 (List.take (Int.toNat (v2.length:Int)) v2)).length:Nat):Int)) (List.drop 1 (List.take (Int.toNat (v2.length:Int)) v2)))),(Int.tmod (rd aU v2 0) 16),(IntKind.wrap .i64 (v1+(IntKind.wrap .i64 (Int.tdiv (rd aU v2 0) 16)))),(Int.fdiv (rd aU (List.drop 1 (List.take (Int.toNat (v2.length:Int)) v2)) 0) 32),(aN .and .i64 (Int.fdiv (rd aU (List.drop 1 (List.take (Int.toNat (v2.length:Int)) v2)) 0) 8) 3),(aN .and .i64 (rd aU (List.drop 1 (List.take (Int.toNat (v2.length:Int)) v2)) 0) 7),0,0,0,false,v12,()),()),(v13++[((Int.tmod (rd aU v2 0) 16),(IntKind.wrap .i64 (v1+(IntKind.wrap .i64 (Int.tdiv (rd aU v2 0) 16)))),(Int.fdiv (rd aU (List.drop 1 (List.take (Int.toNat (v2.length:Int)) v2)) 0) 32),(aN .and .i64 (Int.fdiv (rd aU (List.drop 1 (List.take (Int.toNat (v2.length:Int)) v2)) 0) 8) 3),(aN .and .i64 (rd aU (List.drop 1 (List.take (Int.toNat (v2.length:Int)) v2)) 0) 7),0,0,0,false)]),()))) (
             none)))) (
          none)) (
         none))) (
       cond (decide ((Int.tmod (rd aU v2 0) 16)=1)) (
        cond (decide ((((List.drop 1 (List.take (Int.toNat (v2.length:Int)) v2)).length:Nat):Int)=0)) (
         some (R3.ret ((false,()),(),[],()))) (
         cond (decide (0<(((List.drop 1 (List.take (Int.toNat (v2.length:Int)) v2)).length:Nat):Int))) (
          cond ((decide (1≤(((List.drop 1 (List.take (Int.toNat (v2.length:Int)) v2)).length:Nat):Int)))&&(decide ((((List.drop 1 (List.take (Int.toNat (v2.length:Int)) v2)).length:Nat):Int)≤(((List.drop 1 (List.take (Int.toNat (v2.length:Int)) v2)).length:Nat):Int)))) (
           cond v12 (
            some (R3.ret ((false,()),(),[],()))) (
            ((f84 (Int.tmod (rd aU v2 0) 16) (IntKind.wrap .i64 (v1+(IntKind.wrap .i64 (Int.tdiv (rd aU v2 0) 16)))) (Int.fdiv (rd aU (List.drop 1 (List.take (Int.toNat (v2.length:Int)) v2)) 0) 32) (aN .and .i64 (Int.fdiv (rd aU (List.drop 1 (List.take (Int.toNat (v2.length:Int)) v2)) 0) 8) 3) (aN .and .i64 (rd aU (List.drop 1 (List.take (Int.toNat (v2.length:Int)) v2)) 0) 7) 0 0 0 false)).bind fun y15=>
            cond (!y15.1) (
             some (R3.ret ((false,()),(),[],()))) (
             cond ((decide (((v13.length+1) * 72)≤140737488355328))&&(decide ((v13.length+1)≤9223372036854775807))) (
              some (R3.next (((),(),()),(((),(),(),(),(),(),(),()),((IntKind.wrap .i64 (v1+(IntKind.wrap .i64 (Int.tdiv (rd aU v2 0) 16)))),(List.drop 1 (List.take (Int.toNat (((List.drop 1 (List.take (Int.toNat (v2.length:Int)) v2)).length:Nat):Int)) (List.drop 1 (List.take (Int.toNat (v2.length:Int)) v2)))),(Int.tmod (rd aU v2 0) 16),(IntKind.wrap .i64 (v1+(IntKind.wrap .i64 (Int.tdiv (rd aU v2 0) 16)))),(Int.fdiv (rd aU (List.drop 1 (List.take (Int.toNat (v2.length:Int)) v2)) 0) 32),(aN .and .i64 (Int.fdiv (rd aU (List.drop 1 (List.take (Int.toNat (v2.length:Int)) v2)) 0) 8) 3),(aN .and .i64 (rd aU (List.drop 1 (List.take (Int.toNat (v2.length:Int)) v2)) 0) 7),0,0,0,false,v12,()),()),(v13++[((Int.tmod (rd aU v2 0) 16),(IntKind.wrap .i64 (v1+(IntKind.wrap .i64 (Int.tdiv (rd aU v2 0) 16)))),(Int.fdiv (rd aU (List.drop 1 (List.take (Int.toNat (v2.length:Int)) v2)) 0) 32),(aN .and .i64 (Int.fdiv (rd aU (List.drop 1 (List.take (Int.toNat (v2.length:Int)) v2)) 0) 8) 3),(aN .and .i64 (rd aU (List.drop 1 (List.take (Int.toNat (v2.length:Int)) v2)) 0) 7),0,0,0,false)]),()))) (
              none)))) (
           none)) (
          none))) (
        cond (decide ((Int.tmod (rd aU v2 0) 16)=2)) (
         cond (decide ((((List.drop 1 (List.take (Int.toNat (v2.length:Int)) v2)).length:Nat):Int)=0)) (
          some (R3.ret ((false,()),(),[],()))) (
          cond (decide (0<(((List.drop 1 (List.take (Int.toNat (v2.length:Int)) v2)).length:Nat):Int))) (
           cond ((decide (1≤(((List.drop 1 (List.take (Int.toNat (v2.length:Int)) v2)).length:Nat):Int)))&&(decide ((((List.drop 1 (List.take (Int.toNat (v2.length:Int)) v2)).length:Nat):Int)≤(((List.drop 1 (List.take (Int.toNat (v2.length:Int)) v2)).length:Nat):Int)))) (
            cond v12 (
             some (R3.ret ((false,()),(),[],()))) (
             ((f84 (Int.tmod (rd aU v2 0) 16) (IntKind.wrap .i64 (v1+(IntKind.wrap .i64 (Int.tdiv (rd aU v2 0) 16)))) (Int.fdiv (rd aU (List.drop 1 (List.take (Int.toNat (v2.length:Int)) v2)) 0) 8) (aN .and .i64 (rd aU (List.drop 1 (List.take (Int.toNat (v2.length:Int)) v2)) 0) 7) 0 0 0 0 false)).bind fun y16=>
             cond (!y16.1) (
              some (R3.ret ((false,()),(),[],()))) (
              cond ((decide (((v13.length+1) * 72)≤140737488355328))&&(decide ((v13.length+1)≤9223372036854775807))) (
               some (R3.next (((),(),()),(((),(),(),(),(),(),(),()),((IntKind.wrap .i64 (v1+(IntKind.wrap .i64 (Int.tdiv (rd aU v2 0) 16)))),(List.drop 1 (List.take (Int.toNat (((List.drop 1 (List.take (Int.toNat (v2.length:Int)) v2)).length:Nat):Int)) (List.drop 1 (List.take (Int.toNat (v2.length:Int)) v2)))),(Int.tmod (rd aU v2 0) 16),(IntKind.wrap .i64 (v1+(IntKind.wrap .i64 (Int.tdiv (rd aU v2 0) 16)))),(Int.fdiv (rd aU (List.drop 1 (List.take (Int.toNat (v2.length:Int)) v2)) 0) 8),(aN .and .i64 (rd aU (List.drop 1 (List.take (Int.toNat (v2.length:Int)) v2)) 0) 7),0,0,0,0,false,v12,()),()),(v13++[((Int.tmod (rd aU v2 0) 16),(IntKind.wrap .i64 (v1+(IntKind.wrap .i64 (Int.tdiv (rd aU v2 0) 16)))),(Int.fdiv (rd aU (List.drop 1 (List.take (Int.toNat (v2.length:Int)) v2)) 0) 8),(aN .and .i64 (rd aU (List.drop 1 (List.take (Int.toNat (v2.length:Int)) v2)) 0) 7),0,0,0,0,false)]),()))) (
               none)))) (
            none)) (
           none))) (
         cond (decide ((Int.tmod (rd aU v2 0) 16)=3)) (
          cond (decide ((((List.drop 1 (List.take (Int.toNat (v2.length:Int)) v2)).length:Nat):Int)=0)) (
           some (R3.ret ((false,()),(),[],()))) (
           cond (decide (0<(((List.drop 1 (List.take (Int.toNat (v2.length:Int)) v2)).length:Nat):Int))) (
            cond ((decide (1≤(((List.drop 1 (List.take (Int.toNat (v2.length:Int)) v2)).length:Nat):Int)))&&(decide ((((List.drop 1 (List.take (Int.toNat (v2.length:Int)) v2)).length:Nat):Int)≤(((List.drop 1 (List.take (Int.toNat (v2.length:Int)) v2)).length:Nat):Int)))) (
             cond v12 (
              some (R3.ret ((false,()),(),[],()))) (
              ((f84 (Int.tmod (rd aU v2 0) 16) (IntKind.wrap .i64 (v1+(IntKind.wrap .i64 (Int.tdiv (rd aU v2 0) 16)))) (rd aU (List.drop 1 (List.take (Int.toNat (v2.length:Int)) v2)) 0) 0 0 0 0 0 false)).bind fun y17=>
              cond (!y17.1) (
               some (R3.ret ((false,()),(),[],()))) (
               cond ((decide (((v13.length+1) * 72)≤140737488355328))&&(decide ((v13.length+1)≤9223372036854775807))) (
                some (R3.next (((),(),()),(((),(),(),(),(),(),(),()),((IntKind.wrap .i64 (v1+(IntKind.wrap .i64 (Int.tdiv (rd aU v2 0) 16)))),(List.drop 1 (List.take (Int.toNat (((List.drop 1 (List.take (Int.toNat (v2.length:Int)) v2)).length:Nat):Int)) (List.drop 1 (List.take (Int.toNat (v2.length:Int)) v2)))),(Int.tmod (rd aU v2 0) 16),(IntKind.wrap .i64 (v1+(IntKind.wrap .i64 (Int.tdiv (rd aU v2 0) 16)))),(rd aU (List.drop 1 (List.take (Int.toNat (v2.length:Int)) v2)) 0),0,0,0,0,0,false,v12,()),()),(v13++[((Int.tmod (rd aU v2 0) 16),(IntKind.wrap .i64 (v1+(IntKind.wrap .i64 (Int.tdiv (rd aU v2 0) 16)))),(rd aU (List.drop 1 (List.take (Int.toNat (v2.length:Int)) v2)) 0),0,0,0,0,0,false)]),()))) (
                none)))) (
             none)) (
            none))) (
          cond (decide ((Int.tmod (rd aU v2 0) 16)=4)) (
           cond (decide ((((List.drop 1 (List.take (Int.toNat (v2.length:Int)) v2)).length:Nat):Int)=0)) (
            some (R3.ret ((false,()),(),[],()))) (
            cond (decide (0<(((List.drop 1 (List.take (Int.toNat (v2.length:Int)) v2)).length:Nat):Int))) (
             cond ((decide (1≤(((List.drop 1 (List.take (Int.toNat (v2.length:Int)) v2)).length:Nat):Int)))&&(decide ((((List.drop 1 (List.take (Int.toNat (v2.length:Int)) v2)).length:Nat):Int)≤(((List.drop 1 (List.take (Int.toNat (v2.length:Int)) v2)).length:Nat):Int)))) (
              cond v12 (
               some (R3.ret ((false,()),(),[],()))) (
               ((f84 (Int.tmod (rd aU v2 0) 16) (IntKind.wrap .i64 (v1+(IntKind.wrap .i64 (Int.tdiv (rd aU v2 0) 16)))) (Int.fdiv (rd aU (List.drop 1 (List.take (Int.toNat (v2.length:Int)) v2)) 0) 8) (aN .and .i64 (rd aU (List.drop 1 (List.take (Int.toNat (v2.length:Int)) v2)) 0) 7) 0 0 0 0 false)).bind fun y18=>
               cond (!y18.1) (
                some (R3.ret ((false,()),(),[],()))) (
                cond ((decide (((v13.length+1) * 72)≤140737488355328))&&(decide ((v13.length+1)≤9223372036854775807))) (
                 some (R3.next (((),(),()),(((),(),(),(),(),(),(),()),((IntKind.wrap .i64 (v1+(IntKind.wrap .i64 (Int.tdiv (rd aU v2 0) 16)))),(List.drop 1 (List.take (Int.toNat (((List.drop 1 (List.take (Int.toNat (v2.length:Int)) v2)).length:Nat):Int)) (List.drop 1 (List.take (Int.toNat (v2.length:Int)) v2)))),(Int.tmod (rd aU v2 0) 16),(IntKind.wrap .i64 (v1+(IntKind.wrap .i64 (Int.tdiv (rd aU v2 0) 16)))),(Int.fdiv (rd aU (List.drop 1 (List.take (Int.toNat (v2.length:Int)) v2)) 0) 8),(aN .and .i64 (rd aU (List.drop 1 (List.take (Int.toNat (v2.length:Int)) v2)) 0) 7),0,0,0,0,false,v12,()),()),(v13++[((Int.tmod (rd aU v2 0) 16),(IntKind.wrap .i64 (v1+(IntKind.wrap .i64 (Int.tdiv (rd aU v2 0) 16)))),(Int.fdiv (rd aU (List.drop 1 (List.take (Int.toNat (v2.length:Int)) v2)) 0) 8),(aN .and .i64 (rd aU (List.drop 1 (List.take (Int.toNat (v2.length:Int)) v2)) 0) 7),0,0,0,0,false)]),()))) (
                 none)))) (
              none)) (
             none))) (
           cond (decide ((Int.tmod (rd aU v2 0) 16)=5)) (
            cond (decide ((((List.drop 1 (List.take (Int.toNat (v2.length:Int)) v2)).length:Nat):Int)=0)) (
             some (R3.ret ((false,()),(),[],()))) (
             cond (decide (0<(((List.drop 1 (List.take (Int.toNat (v2.length:Int)) v2)).length:Nat):Int))) (
              cond ((decide (1≤(((List.drop 1 (List.take (Int.toNat (v2.length:Int)) v2)).length:Nat):Int)))&&(decide ((((List.drop 1 (List.take (Int.toNat (v2.length:Int)) v2)).length:Nat):Int)≤(((List.drop 1 (List.take (Int.toNat (v2.length:Int)) v2)).length:Nat):Int)))) (
               cond v12 (
                some (R3.ret ((false,()),(),[],()))) (
                ((f84 (Int.tmod (rd aU v2 0) 16) (IntKind.wrap .i64 (v1+(IntKind.wrap .i64 (Int.tdiv (rd aU v2 0) 16)))) (rd aU (List.drop 1 (List.take (Int.toNat (v2.length:Int)) v2)) 0) 0 0 0 0 0 false)).bind fun y19=>
                cond (!y19.1) (
                 some (R3.ret ((false,()),(),[],()))) (
                 cond ((decide (((v13.length+1) * 72)≤140737488355328))&&(decide ((v13.length+1)≤9223372036854775807))) (
                  some (R3.next (((),(),()),(((),(),(),(),(),(),(),()),((IntKind.wrap .i64 (v1+(IntKind.wrap .i64 (Int.tdiv (rd aU v2 0) 16)))),(List.drop 1 (List.take (Int.toNat (((List.drop 1 (List.take (Int.toNat (v2.length:Int)) v2)).length:Nat):Int)) (List.drop 1 (List.take (Int.toNat (v2.length:Int)) v2)))),(Int.tmod (rd aU v2 0) 16),(IntKind.wrap .i64 (v1+(IntKind.wrap .i64 (Int.tdiv (rd aU v2 0) 16)))),(rd aU (List.drop 1 (List.take (Int.toNat (v2.length:Int)) v2)) 0),0,0,0,0,0,false,v12,()),()),(v13++[((Int.tmod (rd aU v2 0) 16),(IntKind.wrap .i64 (v1+(IntKind.wrap .i64 (Int.tdiv (rd aU v2 0) 16)))),(rd aU (List.drop 1 (List.take (Int.toNat (v2.length:Int)) v2)) 0),0,0,0,0,0,false)]),()))) (
                  none)))) (
               none)) (
              none))) (
            cond (decide ((Int.tmod (rd aU v2 0) 16)=6)) (
             cond (decide ((((List.drop 1 (List.take (Int.toNat (v2.length:Int)) v2)).length:Nat):Int)=0)) (
              cond (decide ((((List.drop 1 (List.take (Int.toNat (v2.length:Int)) v2)).length:Nat):Int)=0)) (
               cond (decide ((((List.drop 1 (List.take (Int.toNat (v2.length:Int)) v2)).length:Nat):Int)=0)) (
                cond (decide ((((List.drop 1 (List.take (Int.toNat (v2.length:Int)) v2)).length:Nat):Int)=0)) (
                 some (R3.ret ((false,()),(),[],()))) (
                 cond (decide (0<(((List.drop 1 (List.take (Int.toNat (v2.length:Int)) v2)).length:Nat):Int))) (
                  cond ((decide (1≤(((List.drop 1 (List.take (Int.toNat (v2.length:Int)) v2)).length:Nat):Int)))&&(decide ((((List.drop 1 (List.take (Int.toNat (v2.length:Int)) v2)).length:Nat):Int)≤(((List.drop 1 (List.take (Int.toNat (v2.length:Int)) v2)).length:Nat):Int)))) (
                   some (R3.ret ((false,()),(),[],()))) (
                   none)) (
                  none))) (
                cond (decide (0<(((List.drop 1 (List.take (Int.toNat (v2.length:Int)) v2)).length:Nat):Int))) (
                 cond ((decide (1≤(((List.drop 1 (List.take (Int.toNat (v2.length:Int)) v2)).length:Nat):Int)))&&(decide ((((List.drop 1 (List.take (Int.toNat (v2.length:Int)) v2)).length:Nat):Int)≤(((List.drop 1 (List.take (Int.toNat (v2.length:Int)) v2)).length:Nat):Int)))) (
                  cond (decide ((((List.drop 1 (List.take (Int.toNat (((List.drop 1 (List.take (Int.toNat (v2.length:Int)) v2)).length:Nat):Int)) (List.drop 1 (List.take (Int.toNat (v2.length:Int)) v2)))).length:Nat):Int)=0)) (
                   some (R3.ret ((false,()),(),[],()))) (
                   cond (decide (0<(((List.drop 1 (List.take (Int.toNat (((List.drop 1 (List.take (Int.toNat (v2.length:Int)) v2)).length:Nat):Int)) (List.drop 1 (List.take (Int.toNat (v2.length:Int)) v2)))).length:Nat):Int))) (
                    cond ((decide (1≤(((List.drop 1 (List.take (Int.toNat (((List.drop 1 (List.take (Int.toNat (v2.length:Int)) v2)).length:Nat):Int)) (List.drop 1 (List.take (Int.toNat (v2.length:Int)) v2)))).length:Nat):Int)))&&(decide ((((List.drop 1 (List.take (Int.toNat (((List.drop 1 (List.take (Int.toNat (v2.length:Int)) v2)).length:Nat):Int)) (List.drop 1 (List.take (Int.toNat (v2.length:Int)) v2)))).length:Nat):Int)≤(((List.drop 1 (List.take (Int.toNat (((List.drop 1 (List.take (Int.toNat (v2.length:Int)) v2)).length:Nat):Int)) (List.drop 1 (List.take (Int.toNat (v2.length:Int)) v2)))).length:Nat):Int)))) (
                     some (R3.ret ((false,()),(),[],()))) (
                     none)) (
                    none))) (
                  none)) (
                 none))) (
               cond (decide (0<(((List.drop 1 (List.take (Int.toNat (v2.length:Int)) v2)).length:Nat):Int))) (
                cond ((decide (1≤(((List.drop 1 (List.take (Int.toNat (v2.length:Int)) v2)).length:Nat):Int)))&&(decide ((((List.drop 1 (List.take (Int.toNat (v2.length:Int)) v2)).length:Nat):Int)≤(((List.drop 1 (List.take (Int.toNat (v2.length:Int)) v2)).length:Nat):Int)))) (
                 cond (decide ((((List.drop 1 (List.take (Int.toNat (((List.drop 1 (List.take (Int.toNat (v2.length:Int)) v2)).length:Nat):Int)) (List.drop 1 (List.take (Int.toNat (v2.length:Int)) v2)))).length:Nat):Int)=0)) (
                  cond (decide ((((List.drop 1 (List.take (Int.toNat (((List.drop 1 (List.take (Int.toNat (v2.length:Int)) v2)).length:Nat):Int)) (List.drop 1 (List.take (Int.toNat (v2.length:Int)) v2)))).length:Nat):Int)=0)) (
                   some (R3.ret ((false,()),(),[],()))) (
                   cond (decide (0<(((List.drop 1 (List.take (Int.toNat (((List.drop 1 (List.take (Int.toNat (v2.length:Int)) v2)).length:Nat):Int)) (List.drop 1 (List.take (Int.toNat (v2.length:Int)) v2)))).length:Nat):Int))) (
                    cond ((decide (1≤(((List.drop 1 (List.take (Int.toNat (((List.drop 1 (List.take (Int.toNat (v2.length:Int)) v2)).length:Nat):Int)) (List.drop 1 (List.take (Int.toNat (v2.length:Int)) v2)))).length:Nat):Int)))&&(decide ((((List.drop 1 (List.take (Int.toNat (((List.drop 1 (List.take (Int.toNat (v2.length:Int)) v2)).length:Nat):Int)) (List.drop 1 (List.take (Int.toNat (v2.length:Int)) v2)))).length:Nat):Int)≤(((List.drop 1 (List.take (Int.toNat (((List.drop 1 (List.take (Int.toNat (v2.length:Int)) v2)).length:Nat):Int)) (List.drop 1 (List.take (Int.toNat (v2.length:Int)) v2)))).length:Nat):Int)))) (
                     some (R3.ret ((false,()),(),[],()))) (
                     none)) (
                    none))) (
                  cond (decide (0<(((List.drop 1 (List.take (Int.toNat (((List.drop 1 (List.take (Int.toNat (v2.length:Int)) v2)).length:Nat):Int)) (List.drop 1 (List.take (Int.toNat (v2.length:Int)) v2)))).length:Nat):Int))) (
                   cond ((decide (1≤(((List.drop 1 (List.take (Int.toNat (((List.drop 1 (List.take (Int.toNat (v2.length:Int)) v2)).length:Nat):Int)) (List.drop 1 (List.take (Int.toNat (v2.length:Int)) v2)))).length:Nat):Int)))&&(decide ((((List.drop 1 (List.take (Int.toNat (((List.drop 1 (List.take (Int.toNat (v2.length:Int)) v2)).length:Nat):Int)) (List.drop 1 (List.take (Int.toNat (v2.length:Int)) v2)))).length:Nat):Int)≤(((List.drop 1 (List.take (Int.toNat (((List.drop 1 (List.take (Int.toNat (v2.length:Int)) v2)).length:Nat):Int)) (List.drop 1 (List.take (Int.toNat (v2.length:Int)) v2)))).length:Nat):Int)))) (
                    cond (decide ((((List.drop 1 (List.take (Int.toNat (((List.drop 1 (List.take (Int.toNat (((List.drop 1 (List.take (Int.toNat (v2.length:Int)) v2)).length:Nat):Int)) (List.drop 1 (List.take (Int.toNat (v2.length:Int)) v2)))).length:Nat):Int)) (List.drop 1 (List.take (Int.toNat (((List.drop 1 (List.take (Int.toNat (v2.length:Int)) v2)).length:Nat):Int)) (List.drop 1 (List.take (Int.toNat (v2.length:Int)) v2)))))).length:Nat):Int)=0)) (
                     some (R3.ret ((false,()),(),[],()))) (
                     cond (decide (0<(((List.drop 1 (List.take (Int.toNat (((List.drop 1 (List.take (Int.toNat (((List.drop 1 (List.take (Int.toNat (v2.length:Int)) v2)).length:Nat):Int)) (List.drop 1 (List.take (Int.toNat (v2.length:Int)) v2)))).length:Nat):Int)) (List.drop 1 (List.take (Int.toNat (((List.drop 1 (List.take (Int.toNat (v2.length:Int)) v2)).length:Nat):Int)) (List.drop 1 (List.take (Int.toNat (v2.length:Int)) v2)))))).length:Nat):Int))) (
                      cond ((decide (1≤(((List.drop 1 (List.take (Int.toNat (((List.drop 1 (List.take (Int.toNat (((List.drop 1 (List.take (Int.toNat (v2.length:Int)) v2)).length:Nat):Int)) (List.drop 1 (List.take (Int.toNat (v2.length:Int)) v2)))).length:Nat):Int)) (List.drop 1 (List.take (Int.toNat (((List.drop 1 (List.take (Int.toNat (v2.length:Int)) v2)).length:Nat):Int)) (List.drop 1 (List.take (Int.toNat (v2.length:Int)) v2)))))).length:Nat):Int)))&&(decide ((((List.drop 1 (List.take (Int.toNat (((List.drop 1 (List.take (Int.toNat (((List.drop 1 (List.take (Int.toNat (v2.length:Int)) v2)).length:Nat):Int)) (List.drop 1 (List.take (Int.toNat (v2.length:Int)) v2)))).length:Nat):Int)) (List.drop 1 (List.take (Int.toNat (((List.drop 1 (List.take (Int.toNat (v2.length:Int)) v2)).length:Nat):Int)) (List.drop 1 (List.take (Int.toNat (v2.length:Int)) v2)))))).length:Nat):Int)≤(((List.drop 1 (List.take (Int.toNat (((List.drop 1 (List.take (Int.toNat (((List.drop 1 (List.take (Int.toNat (v2.length:Int)) v2)).length:Nat):Int)) (List.drop 1 (List.take (Int.toNat (v2.length:Int)) v2)))).length:Nat):Int)) (List.drop 1 (List.take (Int.toNat (((List.drop 1 (List.take (Int.toNat (v2.length:Int)) v2)).length:Nat):Int)) (List.drop 1 (List.take (Int.toNat (v2.length:Int)) v2)))))).length:Nat):Int)))) (
                       some (R3.ret ((false,()),(),[],()))) (
                       none)) (
                      none))) (
                    none)) (
                   none))) (
                 none)) (
                none))) (
              cond (decide (0<(((List.drop 1 (List.take (Int.toNat (v2.length:Int)) v2)).length:Nat):Int))) (
               cond ((decide (1≤(((List.drop 1 (List.take (Int.toNat (v2.length:Int)) v2)).length:Nat):Int)))&&(decide ((((List.drop 1 (List.take (Int.toNat (v2.length:Int)) v2)).length:Nat):Int)≤(((List.drop 1 (List.take (Int.toNat (v2.length:Int)) v2)).length:Nat):Int)))) (
                cond (decide ((((List.drop 1 (List.take (Int.toNat (((List.drop 1 (List.take (Int.toNat (v2.length:Int)) v2)).length:Nat):Int)) (List.drop 1 (List.take (Int.toNat (v2.length:Int)) v2)))).length:Nat):Int)=0)) (
                 cond (decide ((((List.drop 1 (List.take (Int.toNat (((List.drop 1 (List.take (Int.toNat (v2.length:Int)) v2)).length:Nat):Int)) (List.drop 1 (List.take (Int.toNat (v2.length:Int)) v2)))).length:Nat):Int)=0)) (
                  cond (decide ((((List.drop 1 (List.take (Int.toNat (((List.drop 1 (List.take (Int.toNat (v2.length:Int)) v2)).length:Nat):Int)) (List.drop 1 (List.take (Int.toNat (v2.length:Int)) v2)))).length:Nat):Int)=0)) (
                   some (R3.ret ((false,()),(),[],()))) (
                   cond (decide (0<(((List.drop 1 (List.take (Int.toNat (((List.drop 1 (List.take (Int.toNat (v2.length:Int)) v2)).length:Nat):Int)) (List.drop 1 (List.take (Int.toNat (v2.length:Int)) v2)))).length:Nat):Int))) (
                    cond ((decide (1≤(((List.drop 1 (List.take (Int.toNat (((List.drop 1 (List.take (Int.toNat (v2.length:Int)) v2)).length:Nat):Int)) (List.drop 1 (List.take (Int.toNat (v2.length:Int)) v2)))).length:Nat):Int)))&&(decide ((((List.drop 1 (List.take (Int.toNat (((List.drop 1 (List.take (Int.toNat (v2.length:Int)) v2)).length:Nat):Int)) (List.drop 1 (List.take (Int.toNat (v2.length:Int)) v2)))).length:Nat):Int)≤(((List.drop 1 (List.take (Int.toNat (((List.drop 1 (List.take (Int.toNat (v2.length:Int)) v2)).length:Nat):Int)) (List.drop 1 (List.take (Int.toNat (v2.length:Int)) v2)))).length:Nat):Int)))) (
                     some (R3.ret ((false,()),(),[],()))) (
                     none)) (
                    none))) (
                  cond (decide (0<(((List.drop 1 (List.take (Int.toNat (((List.drop 1 (List.take (Int.toNat (v2.length:Int)) v2)).length:Nat):Int)) (List.drop 1 (List.take (Int.toNat (v2.length:Int)) v2)))).length:Nat):Int))) (
                   cond ((decide (1≤(((List.drop 1 (List.take (Int.toNat (((List.drop 1 (List.take (Int.toNat (v2.length:Int)) v2)).length:Nat):Int)) (List.drop 1 (List.take (Int.toNat (v2.length:Int)) v2)))).length:Nat):Int)))&&(decide ((((List.drop 1 (List.take (Int.toNat (((List.drop 1 (List.take (Int.toNat (v2.length:Int)) v2)).length:Nat):Int)) (List.drop 1 (List.take (Int.toNat (v2.length:Int)) v2)))).length:Nat):Int)≤(((List.drop 1 (List.take (Int.toNat (((List.drop 1 (List.take (Int.toNat (v2.length:Int)) v2)).length:Nat):Int)) (List.drop 1 (List.take (Int.toNat (v2.length:Int)) v2)))).length:Nat):Int)))) (
                    cond (decide ((((List.drop 1 (List.take (Int.toNat (((List.drop 1 (List.take (Int.toNat (((List.drop 1 (List.take (Int.toNat (v2.length:Int)) v2)).length:Nat):Int)) (List.drop 1 (List.take (Int.toNat (v2.length:Int)) v2)))).length:Nat):Int)) (List.drop 1 (List.take (Int.toNat (((List.drop 1 (List.take (Int.toNat (v2.length:Int)) v2)).length:Nat):Int)) (List.drop 1 (List.take (Int.toNat (v2.length:Int)) v2)))))).length:Nat):Int)=0)) (
                     some (R3.ret ((false,()),(),[],()))) (
                     cond (decide (0<(((List.drop 1 (List.take (Int.toNat (((List.drop 1 (List.take (Int.toNat (((List.drop 1 (List.take (Int.toNat (v2.length:Int)) v2)).length:Nat):Int)) (List.drop 1 (List.take (Int.toNat (v2.length:Int)) v2)))).length:Nat):Int)) (List.drop 1 (List.take (Int.toNat (((List.drop 1 (List.take (Int.toNat (v2.length:Int)) v2)).length:Nat):Int)) (List.drop 1 (List.take (Int.toNat (v2.length:Int)) v2)))))).length:Nat):Int))) (
                      cond ((decide (1≤(((List.drop 1 (List.take (Int.toNat (((List.drop 1 (List.take (Int.toNat (((List.drop 1 (List.take (Int.toNat (v2.length:Int)) v2)).length:Nat):Int)) (List.drop 1 (List.take (Int.toNat (v2.length:Int)) v2)))).length:Nat):Int)) (List.drop 1 (List.take (Int.toNat (((List.drop 1 (List.take (Int.toNat (v2.length:Int)) v2)).length:Nat):Int)) (List.drop 1 (List.take (Int.toNat (v2.length:Int)) v2)))))).length:Nat):Int)))&&(decide ((((List.drop 1 (List.take (Int.toNat (((List.drop 1 (List.take (Int.toNat (((List.drop 1 (List.take (Int.toNat (v2.length:Int)) v2)).length:Nat):Int)) (List.drop 1 (List.take (Int.toNat (v2.length:Int)) v2)))).length:Nat):Int)) (List.drop 1 (List.take (Int.toNat (((List.drop 1 (List.take (Int.toNat (v2.length:Int)) v2)).length:Nat):Int)) (List.drop 1 (List.take (Int.toNat (v2.length:Int)) v2)))))).length:Nat):Int)≤(((List.drop 1 (List.take (Int.toNat (((List.drop 1 (List.take (Int.toNat (((List.drop 1 (List.take (Int.toNat (v2.length:Int)) v2)).length:Nat):Int)) (List.drop 1 (List.take (Int.toNat (v2.length:Int)) v2)))).length:Nat):Int)) (List.drop 1 (List.take (Int.toNat (((List.drop 1 (List.take (Int.toNat (v2.length:Int)) v2)).length:Nat):Int)) (List.drop 1 (List.take (Int.toNat (v2.length:Int)) v2)))))).length:Nat):Int)))) (
                       some (R3.ret ((false,()),(),[],()))) (
                       none)) (
                      none))) (
                    none)) (
                   none))) (
                 cond (decide (0<(((List.drop 1 (List.take (Int.toNat (((List.drop 1 (List.take (Int.toNat (v2.length:Int)) v2)).length:Nat):Int)) (List.drop 1 (List.take (Int.toNat (v2.length:Int)) v2)))).length:Nat):Int))) (
                  cond ((decide (1≤(((List.drop 1 (List.take (Int.toNat (((List.drop 1 (List.take (Int.toNat (v2.length:Int)) v2)).length:Nat):Int)) (List.drop 1 (List.take (Int.toNat (v2.length:Int)) v2)))).length:Nat):Int)))&&(decide ((((List.drop 1 (List.take (Int.toNat (((List.drop 1 (List.take (Int.toNat (v2.length:Int)) v2)).length:Nat):Int)) (List.drop 1 (List.take (Int.toNat (v2.length:Int)) v2)))).length:Nat):Int)≤(((List.drop 1 (List.take (Int.toNat (((List.drop 1 (List.take (Int.toNat (v2.length:Int)) v2)).length:Nat):Int)) (List.drop 1 (List.take (Int.toNat (v2.length:Int)) v2)))).length:Nat):Int)))) (
                   cond (decide ((((List.drop 1 (List.take (Int.toNat (((List.drop 1 (List.take (Int.toNat (((List.drop 1 (List.take (Int.toNat (v2.length:Int)) v2)).length:Nat):Int)) (List.drop 1 (List.take (Int.toNat (v2.length:Int)) v2)))).length:Nat):Int)) (List.drop 1 (List.take (Int.toNat (((List.drop 1 (List.take (Int.toNat (v2.length:Int)) v2)).length:Nat):Int)) (List.drop 1 (List.take (Int.toNat (v2.length:Int)) v2)))))).length:Nat):Int)=0)) (
                    cond (decide ((((List.drop 1 (List.take (Int.toNat (((List.drop 1 (List.take (Int.toNat (((List.drop 1 (List.take (Int.toNat (v2.length:Int)) v2)).length:Nat):Int)) (List.drop 1 (List.take (Int.toNat (v2.length:Int)) v2)))).length:Nat):Int)) (List.drop 1 (List.take (Int.toNat (((List.drop 1 (List.take (Int.toNat (v2.length:Int)) v2)).length:Nat):Int)) (List.drop 1 (List.take (Int.toNat (v2.length:Int)) v2)))))).length:Nat):Int)=0)) (
                     some (R3.ret ((false,()),(),[],()))) (
                     cond (decide (0<(((List.drop 1 (List.take (Int.toNat (((List.drop 1 (List.take (Int.toNat (((List.drop 1 (List.take (Int.toNat (v2.length:Int)) v2)).length:Nat):Int)) (List.drop 1 (List.take (Int.toNat (v2.length:Int)) v2)))).length:Nat):Int)) (List.drop 1 (List.take (Int.toNat (((List.drop 1 (List.take (Int.toNat (v2.length:Int)) v2)).length:Nat):Int)) (List.drop 1 (List.take (Int.toNat (v2.length:Int)) v2)))))).length:Nat):Int))) (
                      cond ((decide (1≤(((List.drop 1 (List.take (Int.toNat (((List.drop 1 (List.take (Int.toNat (((List.drop 1 (List.take (Int.toNat (v2.length:Int)) v2)).length:Nat):Int)) (List.drop 1 (List.take (Int.toNat (v2.length:Int)) v2)))).length:Nat):Int)) (List.drop 1 (List.take (Int.toNat (((List.drop 1 (List.take (Int.toNat (v2.length:Int)) v2)).length:Nat):Int)) (List.drop 1 (List.take (Int.toNat (v2.length:Int)) v2)))))).length:Nat):Int)))&&(decide ((((List.drop 1 (List.take (Int.toNat (((List.drop 1 (List.take (Int.toNat (((List.drop 1 (List.take (Int.toNat (v2.length:Int)) v2)).length:Nat):Int)) (List.drop 1 (List.take (Int.toNat (v2.length:Int)) v2)))).length:Nat):Int)) (List.drop 1 (List.take (Int.toNat (((List.drop 1 (List.take (Int.toNat (v2.length:Int)) v2)).length:Nat):Int)) (List.drop 1 (List.take (Int.toNat (v2.length:Int)) v2)))))).length:Nat):Int)≤(((List.drop 1 (List.take (Int.toNat (((List.drop 1 (List.take (Int.toNat (((List.drop 1 (List.take (Int.toNat (v2.length:Int)) v2)).length:Nat):Int)) (List.drop 1 (List.take (Int.toNat (v2.length:Int)) v2)))).length:Nat):Int)) (List.drop 1 (List.take (Int.toNat (((List.drop 1 (List.take (Int.toNat (v2.length:Int)) v2)).length:Nat):Int)) (List.drop 1 (List.take (Int.toNat (v2.length:Int)) v2)))))).length:Nat):Int)))) (
                       some (R3.ret ((false,()),(),[],()))) (
                       none)) (
                      none))) (
                    cond (decide (0<(((List.drop 1 (List.take (Int.toNat (((List.drop 1 (List.take (Int.toNat (((List.drop 1 (List.take (Int.toNat (v2.length:Int)) v2)).length:Nat):Int)) (List.drop 1 (List.take (Int.toNat (v2.length:Int)) v2)))).length:Nat):Int)) (List.drop 1 (List.take (Int.toNat (((List.drop 1 (List.take (Int.toNat (v2.length:Int)) v2)).length:Nat):Int)) (List.drop 1 (List.take (Int.toNat (v2.length:Int)) v2)))))).length:Nat):Int))) (
                     cond ((decide (1≤(((List.drop 1 (List.take (Int.toNat (((List.drop 1 (List.take (Int.toNat (((List.drop 1 (List.take (Int.toNat (v2.length:Int)) v2)).length:Nat):Int)) (List.drop 1 (List.take (Int.toNat (v2.length:Int)) v2)))).length:Nat):Int)) (List.drop 1 (List.take (Int.toNat (((List.drop 1 (List.take (Int.toNat (v2.length:Int)) v2)).length:Nat):Int)) (List.drop 1 (List.take (Int.toNat (v2.length:Int)) v2)))))).length:Nat):Int)))&&(decide ((((List.drop 1 (List.take (Int.toNat (((List.drop 1 (List.take (Int.toNat (((List.drop 1 (List.take (Int.toNat (v2.length:Int)) v2)).length:Nat):Int)) (List.drop 1 (List.take (Int.toNat (v2.length:Int)) v2)))).length:Nat):Int)) (List.drop 1 (List.take (Int.toNat (((List.drop 1 (List.take (Int.toNat (v2.length:Int)) v2)).length:Nat):Int)) (List.drop 1 (List.take (Int.toNat (v2.length:Int)) v2)))))).length:Nat):Int)≤(((List.drop 1 (List.take (Int.toNat (((List.drop 1 (List.take (Int.toNat (((List.drop 1 (List.take (Int.toNat (v2.length:Int)) v2)).length:Nat):Int)) (List.drop 1 (List.take (Int.toNat (v2.length:Int)) v2)))).length:Nat):Int)) (List.drop 1 (List.take (Int.toNat (((List.drop 1 (List.take (Int.toNat (v2.length:Int)) v2)).length:Nat):Int)) (List.drop 1 (List.take (Int.toNat (v2.length:Int)) v2)))))).length:Nat):Int)))) (
                      cond (decide ((((List.drop 1 (List.take (Int.toNat (((List.drop 1 (List.take (Int.toNat (((List.drop 1 (List.take (Int.toNat (((List.drop 1 (List.take (Int.toNat (v2.length:Int)) v2)).length:Nat):Int)) (List.drop 1 (List.take (Int.toNat (v2.length:Int)) v2)))).length:Nat):Int)) (List.drop 1 (List.take (Int.toNat (((List.drop 1 (List.take (Int.toNat (v2.length:Int)) v2)).length:Nat):Int)) (List.drop 1 (List.take (Int.toNat (v2.length:Int)) v2)))))).length:Nat):Int)) (List.drop 1 (List.take (Int.toNat (((List.drop 1 (List.take (Int.toNat (((List.drop 1 (List.take (Int.toNat (v2.length:Int)) v2)).length:Nat):Int)) (List.drop 1 (List.take (Int.toNat (v2.length:Int)) v2)))).length:Nat):Int)) (List.drop 1 (List.take (Int.toNat (((List.drop 1 (List.take (Int.toNat (v2.length:Int)) v2)).length:Nat):Int)) (List.drop 1 (List.take (Int.toNat (v2.length:Int)) v2)))))))).length:Nat):Int)=0)) (
                       some (R3.ret ((false,()),(),[],()))) (
                       cond (decide (0<(((List.drop 1 (List.take (Int.toNat (((List.drop 1 (List.take (Int.toNat (((List.drop 1 (List.take (Int.toNat (((List.drop 1 (List.take (Int.toNat (v2.length:Int)) v2)).length:Nat):Int)) (List.drop 1 (List.take (Int.toNat (v2.length:Int)) v2)))).length:Nat):Int)) (List.drop 1 (List.take (Int.toNat (((List.drop 1 (List.take (Int.toNat (v2.length:Int)) v2)).length:Nat):Int)) (List.drop 1 (List.take (Int.toNat (v2.length:Int)) v2)))))).length:Nat):Int)) (List.drop 1 (List.take (Int.toNat (((List.drop 1 (List.take (Int.toNat (((List.drop 1 (List.take (Int.toNat (v2.length:Int)) v2)).length:Nat):Int)) (List.drop 1 (List.take (Int.toNat (v2.length:Int)) v2)))).length:Nat):Int)) (List.drop 1 (List.take (Int.toNat (((List.drop 1 (List.take (Int.toNat (v2.length:Int)) v2)).length:Nat):Int)) (List.drop 1 (List.take (Int.toNat (v2.length:Int)) v2)))))))).length:Nat):Int))) (
                        cond ((decide (1≤(((List.drop 1 (List.take (Int.toNat (((List.drop 1 (List.take (Int.toNat (((List.drop 1 (List.take (Int.toNat (((List.drop 1 (List.take (Int.toNat (v2.length:Int)) v2)).length:Nat):Int)) (List.drop 1 (List.take (Int.toNat (v2.length:Int)) v2)))).length:Nat):Int)) (List.drop 1 (List.take (Int.toNat (((List.drop 1 (List.take (Int.toNat (v2.length:Int)) v2)).length:Nat):Int)) (List.drop 1 (List.take (Int.toNat (v2.length:Int)) v2)))))).length:Nat):Int)) (List.drop 1 (List.take (Int.toNat (((List.drop 1 (List.take (Int.toNat (((List.drop 1 (List.take (Int.toNat (v2.length:Int)) v2)).length:Nat):Int)) (List.drop 1 (List.take (Int.toNat (v2.length:Int)) v2)))).length:Nat):Int)) (List.drop 1 (List.take (Int.toNat (((List.drop 1 (List.take (Int.toNat (v2.length:Int)) v2)).length:Nat):Int)) (List.drop 1 (List.take (Int.toNat (v2.length:Int)) v2)))))))).length:Nat):Int)))&&(decide ((((List.drop 1 (List.take (Int.toNat (((List.drop 1 (List.take (Int.toNat (((List.drop 1 (List.take (Int.toNat (((List.drop 1 (List.take (Int.toNat (v2.length:Int)) v2)).length:Nat):Int)) (List.drop 1 (List.take (Int.toNat (v2.length:Int)) v2)))).length:Nat):Int)) (List.drop 1 (List.take (Int.toNat (((List.drop 1 (List.take (Int.toNat (v2.length:Int)) v2)).length:Nat):Int)) (List.drop 1 (List.take (Int.toNat (v2.length:Int)) v2)))))).length:Nat):Int)) (List.drop 1 (List.take (Int.toNat (((List.drop 1 (List.take (Int.toNat (((List.drop 1 (List.take (Int.toNat (v2.length:Int)) v2)).length:Nat):Int)) (List.drop 1 (List.take (Int.toNat (v2.length:Int)) v2)))).length:Nat):Int)) (List.drop 1 (List.take (Int.toNat (((List.drop 1 (List.take (Int.toNat (v2.length:Int)) v2)).length:Nat):Int)) (List.drop 1 (List.take (Int.toNat (v2.length:Int)) v2)))))))).length:Nat):Int)≤(((List.drop 1 (List.take (Int.toNat (((List.drop 1 (List.take (Int.toNat (((List.drop 1 (List.take (Int.toNat (((List.drop 1 (List.take (Int.toNat (v2.length:Int)) v2)).length:Nat):Int)) (List.drop 1 (List.take (Int.toNat (v2.length:Int)) v2)))).length:Nat):Int)) (List.drop 1 (List.take (Int.toNat (((List.drop 1 (List.take (Int.toNat (v2.length:Int)) v2)).length:Nat):Int)) (List.drop 1 (List.take (Int.toNat (v2.length:Int)) v2)))))).length:Nat):Int)) (List.drop 1 (List.take (Int.toNat (((List.drop 1 (List.take (Int.toNat (((List.drop 1 (List.take (Int.toNat (v2.length:Int)) v2)).length:Nat):Int)) (List.drop 1 (List.take (Int.toNat (v2.length:Int)) v2)))).length:Nat):Int)) (List.drop 1 (List.take (Int.toNat (((List.drop 1 (List.take (Int.toNat (v2.length:Int)) v2)).length:Nat):Int)) (List.drop 1 (List.take (Int.toNat (v2.length:Int)) v2)))))))).length:Nat):Int)))) (
                         cond v12 (
                          some (R3.ret ((false,()),(),[],()))) (
                          cond (decide (1<(rd aU (List.drop 1 (List.take (Int.toNat (((List.drop 1 (List.take (Int.toNat (((List.drop 1 (List.take (Int.toNat (((List.drop 1 (List.take (Int.toNat (v2.length:Int)) v2)).length:Nat):Int)) (List.drop 1 (List.take (Int.toNat (v2.length:Int)) v2)))).length:Nat):Int)) (List.drop 1 (List.take (Int.toNat (((List.drop 1 (List.take (Int.toNat (v2.length:Int)) v2)).length:Nat):Int)) (List.drop 1 (List.take (Int.toNat (v2.length:Int)) v2)))))).length:Nat):Int)) (List.drop 1 (List.take (Int.toNat (((List.drop 1 (List.take (Int.toNat (((List.drop 1 (List.take (Int.toNat (v2.length:Int)) v2)).length:Nat):Int)) (List.drop 1 (List.take (Int.toNat (v2.length:Int)) v2)))).length:Nat):Int)) (List.drop 1 (List.take (Int.toNat (((List.drop 1 (List.take (Int.toNat (v2.length:Int)) v2)).length:Nat):Int)) (List.drop 1 (List.take (Int.toNat (v2.length:Int)) v2)))))))) 0))) (
                           some (R3.ret ((false,()),(),[],()))) (
                           ((f84 (Int.tmod (rd aU v2 0) 16) (IntKind.wrap .i64 (v1+(IntKind.wrap .i64 (Int.tdiv (rd aU v2 0) 16)))) 0 0 0 (rd aU (List.drop 1 (List.take (Int.toNat (v2.length:Int)) v2)) 0) (rd aU (List.drop 1 (List.take (Int.toNat (((List.drop 1 (List.take (Int.toNat (v2.length:Int)) v2)).length:Nat):Int)) (List.drop 1 (List.take (Int.toNat (v2.length:Int)) v2)))) 0) (rd aU (List.drop 1 (List.take (Int.toNat (((List.drop 1 (List.take (Int.toNat (((List.drop 1 (List.take (Int.toNat (v2.length:Int)) v2)).length:Nat):Int)) (List.drop 1 (List.take (Int.toNat (v2.length:Int)) v2)))).length:Nat):Int)) (List.drop 1 (List.take (Int.toNat (((List.drop 1 (List.take (Int.toNat (v2.length:Int)) v2)).length:Nat):Int)) (List.drop 1 (List.take (Int.toNat (v2.length:Int)) v2)))))) 0) (decide ((rd aU (List.drop 1 (List.take (Int.toNat (((List.drop 1 (List.take (Int.toNat (((List.drop 1 (List.take (Int.toNat (((List.drop 1 (List.take (Int.toNat (v2.length:Int)) v2)).length:Nat):Int)) (List.drop 1 (List.take (Int.toNat (v2.length:Int)) v2)))).length:Nat):Int)) (List.drop 1 (List.take (Int.toNat (((List.drop 1 (List.take (Int.toNat (v2.length:Int)) v2)).length:Nat):Int)) (List.drop 1 (List.take (Int.toNat (v2.length:Int)) v2)))))).length:Nat):Int)) (List.drop 1 (List.take (Int.toNat (((List.drop 1 (List.take (Int.toNat (((List.drop 1 (List.take (Int.toNat (v2.length:Int)) v2)).length:Nat):Int)) (List.drop 1 (List.take (Int.toNat (v2.length:Int)) v2)))).length:Nat):Int)) (List.drop 1 (List.take (Int.toNat (((List.drop 1 (List.take (Int.toNat (v2.length:Int)) v2)).length:Nat):Int)) (List.drop 1 (List.take (Int.toNat (v2.length:Int)) v2)))))))) 0)=1)))).bind fun y20=>
                           cond (!y20.1) (
                            some (R3.ret ((false,()),(),[],()))) (
                            cond ((decide (((v13.length+1) * 72)≤140737488355328))&&(decide ((v13.length+1)≤9223372036854775807))) (
                             some (R3.next (((),(),()),(((),(),(),(),(),(),(),()),((IntKind.wrap .i64 (v1+(IntKind.wrap .i64 (Int.tdiv (rd aU v2 0) 16)))),(List.drop 1 (List.take (Int.toNat (((List.drop 1 (List.take (Int.toNat (((List.drop 1 (List.take (Int.toNat (((List.drop 1 (List.take (Int.toNat (((List.drop 1 (List.take (Int.toNat (v2.length:Int)) v2)).length:Nat):Int)) (List.drop 1 (List.take (Int.toNat (v2.length:Int)) v2)))).length:Nat):Int)) (List.drop 1 (List.take (Int.toNat (((List.drop 1 (List.take (Int.toNat (v2.length:Int)) v2)).length:Nat):Int)) (List.drop 1 (List.take (Int.toNat (v2.length:Int)) v2)))))).length:Nat):Int)) (List.drop 1 (List.take (Int.toNat (((List.drop 1 (List.take (Int.toNat (((List.drop 1 (List.take (Int.toNat (v2.length:Int)) v2)).length:Nat):Int)) (List.drop 1 (List.take (Int.toNat (v2.length:Int)) v2)))).length:Nat):Int)) (List.drop 1 (List.take (Int.toNat (((List.drop 1 (List.take (Int.toNat (v2.length:Int)) v2)).length:Nat):Int)) (List.drop 1 (List.take (Int.toNat (v2.length:Int)) v2)))))))).length:Nat):Int)) (List.drop 1 (List.take (Int.toNat (((List.drop 1 (List.take (Int.toNat (((List.drop 1 (List.take (Int.toNat (((List.drop 1 (List.take (Int.toNat (v2.length:Int)) v2)).length:Nat):Int)) (List.drop 1 (List.take (Int.toNat (v2.length:Int)) v2)))).length:Nat):Int)) (List.drop 1 (List.take (Int.toNat (((List.drop 1 (List.take (Int.toNat (v2.length:Int)) v2)).length:Nat):Int)) (List.drop 1 (List.take (Int.toNat (v2.length:Int)) v2)))))).length:Nat):Int)) (List.drop 1 (List.take (Int.toNat (((List.drop 1 (List.take (Int.toNat (((List.drop 1 (List.take (Int.toNat (v2.length:Int)) v2)).length:Nat):Int)) (List.drop 1 (List.take (Int.toNat (v2.length:Int)) v2)))).length:Nat):Int)) (List.drop 1 (List.take (Int.toNat (((List.drop 1 (List.take (Int.toNat (v2.length:Int)) v2)).length:Nat):Int)) (List.drop 1 (List.take (Int.toNat (v2.length:Int)) v2)))))))))),(Int.tmod (rd aU v2 0) 16),(IntKind.wrap .i64 (v1+(IntKind.wrap .i64 (Int.tdiv (rd aU v2 0) 16)))),0,0,0,(rd aU (List.drop 1 (List.take (Int.toNat (v2.length:Int)) v2)) 0),(rd aU (List.drop 1 (List.take (Int.toNat (((List.drop 1 (List.take (Int.toNat (v2.length:Int)) v2)).length:Nat):Int)) (List.drop 1 (List.take (Int.toNat (v2.length:Int)) v2)))) 0),(rd aU (List.drop 1 (List.take (Int.toNat (((List.drop 1 (List.take (Int.toNat (((List.drop 1 (List.take (Int.toNat (v2.length:Int)) v2)).length:Nat):Int)) (List.drop 1 (List.take (Int.toNat (v2.length:Int)) v2)))).length:Nat):Int)) (List.drop 1 (List.take (Int.toNat (((List.drop 1 (List.take (Int.toNat (v2.length:Int)) v2)).length:Nat):Int)) (List.drop 1 (List.take (Int.toNat (v2.length:Int)) v2)))))) 0),(decide ((rd aU (List.drop 1 (List.take (Int.toNat (((List.drop 1 (List.take (Int.toNat (((List.drop 1 (List.take (Int.toNat (((List.drop 1 (List.take (Int.toNat (v2.length:Int)) v2)).length:Nat):Int)) (List.drop 1 (List.take (Int.toNat (v2.length:Int)) v2)))).length:Nat):Int)) (List.drop 1 (List.take (Int.toNat (((List.drop 1 (List.take (Int.toNat (v2.length:Int)) v2)).length:Nat):Int)) (List.drop 1 (List.take (Int.toNat (v2.length:Int)) v2)))))).length:Nat):Int)) (List.drop 1 (List.take (Int.toNat (((List.drop 1 (List.take (Int.toNat (((List.drop 1 (List.take (Int.toNat (v2.length:Int)) v2)).length:Nat):Int)) (List.drop 1 (List.take (Int.toNat (v2.length:Int)) v2)))).length:Nat):Int)) (List.drop 1 (List.take (Int.toNat (((List.drop 1 (List.take (Int.toNat (v2.length:Int)) v2)).length:Nat):Int)) (List.drop 1 (List.take (Int.toNat (v2.length:Int)) v2)))))))) 0)=1)),(decide (1<(rd aU (List.drop 1 (List.take (Int.toNat (((List.drop 1 (List.take (Int.toNat (((List.drop 1 (List.take (Int.toNat (((List.drop 1 (List.take (Int.toNat (v2.length:Int)) v2)).length:Nat):Int)) (List.drop 1 (List.take (Int.toNat (v2.length:Int)) v2)))).length:Nat):Int)) (List.drop 1 (List.take (Int.toNat (((List.drop 1 (List.take (Int.toNat (v2.length:Int)) v2)).length:Nat):Int)) (List.drop 1 (List.take (Int.toNat (v2.length:Int)) v2)))))).length:Nat):Int)) (List.drop 1 (List.take (Int.toNat (((List.drop 1 (List.take (Int.toNat (((List.drop 1 (List.take (Int.toNat (v2.length:Int)) v2)).length:Nat):Int)) (List.drop 1 (List.take (Int.toNat (v2.length:Int)) v2)))).length:Nat):Int)) (List.drop 1 (List.take (Int.toNat (((List.drop 1 (List.take (Int.toNat (v2.length:Int)) v2)).length:Nat):Int)) (List.drop 1 (List.take (Int.toNat (v2.length:Int)) v2)))))))) 0))),()),()),(v13++[((Int.tmod (rd aU v2 0) 16),(IntKind.wrap .i64 (v1+(IntKind.wrap .i64 (Int.tdiv (rd aU v2 0) 16)))),0,0,0,(rd aU (List.drop 1 (List.take (Int.toNat (v2.length:Int)) v2)) 0),(rd aU (List.drop 1 (List.take (Int.toNat (((List.drop 1 (List.take (Int.toNat (v2.length:Int)) v2)).length:Nat):Int)) (List.drop 1 (List.take (Int.toNat (v2.length:Int)) v2)))) 0),(rd aU (List.drop 1 (List.take (Int.toNat (((List.drop 1 (List.take (Int.toNat (((List.drop 1 (List.take (Int.toNat (v2.length:Int)) v2)).length:Nat):Int)) (List.drop 1 (List.take (Int.toNat (v2.length:Int)) v2)))).length:Nat):Int)) (List.drop 1 (List.take (Int.toNat (((List.drop 1 (List.take (Int.toNat (v2.length:Int)) v2)).length:Nat):Int)) (List.drop 1 (List.take (Int.toNat (v2.length:Int)) v2)))))) 0),(decide ((rd aU (List.drop 1 (List.take (Int.toNat (((List.drop 1 (List.take (Int.toNat (((List.drop 1 (List.take (Int.toNat (((List.drop 1 (List.take (Int.toNat (v2.length:Int)) v2)).length:Nat):Int)) (List.drop 1 (List.take (Int.toNat (v2.length:Int)) v2)))).length:Nat):Int)) (List.drop 1 (List.take (Int.toNat (((List.drop 1 (List.take (Int.toNat (v2.length:Int)) v2)).length:Nat):Int)) (List.drop 1 (List.take (Int.toNat (v2.length:Int)) v2)))))).length:Nat):Int)) (List.drop 1 (List.take (Int.toNat (((List.drop 1 (List.take (Int.toNat (((List.drop 1 (List.take (Int.toNat (v2.length:Int)) v2)).length:Nat):Int)) (List.drop 1 (List.take (Int.toNat (v2.length:Int)) v2)))).length:Nat):Int)) (List.drop 1 (List.take (Int.toNat (((List.drop 1 (List.take (Int.toNat (v2.length:Int)) v2)).length:Nat):Int)) (List.drop 1 (List.take (Int.toNat (v2.length:Int)) v2)))))))) 0)=1)))]),()))) (
                             none))))) (
                         none)) (
                        none))) (
                      none)) (
                     none))) (
                   none)) (
                  none))) (
                none)) (
               none))) (
             none))))))))) (
     none)) (
    none))) (
  some (R3.out ((),(),v13,())))
noncomputable def Nn (z:Gh):Option (R3 Gh MT Nj):=RN z.2.1.2.1.1 z.2.1.2.1.2.1 z.2.1.2.1.2.2.1 z.2.1.2.1.2.2.2.1 z.2.1.2.1.2.2.2.2.1 z.2.1.2.1.2.2.2.2.2.1 z.2.1.2.1.2.2.2.2.2.2.1 z.2.1.2.1.2.2.2.2.2.2.2.1 z.2.1.2.1.2.2.2.2.2.2.2.2.1 z.2.1.2.1.2.2.2.2.2.2.2.2.2.1 z.2.1.2.1.2.2.2.2.2.2.2.2.2.2.1 z.2.1.2.1.2.2.2.2.2.2.2.2.2.2.2.1 z.2.2.1
noncomputable def f93 (v1:Int)(v2:aR):Option (uX×Bool×Unit):=
 ((f101 v2)).bind fun y3=>
 cond (!y3.2.1) (
  some ([],false,())) (
  ((f83 v1 0 1073741824)).bind fun y4=>
  cond (!y4.1) (
   some ([],false,())) (
   ((iter aI Nn (((),(),()),(((),(),(),(),(),(),(),()),(v1,y3.1,0,0,0,0,0,0,0,0,false,false,()),()),[],()))).bind fun r=>match r with
   | .inl y5=>
     some (y5.2.2.1,true,())
   | .inr z6=>
     some (z6.2.2.1,z6.1.1,())))
noncomputable def f128 (v1 v2 v3 v4 v5 v6 v7 v8 v9 v10 v11:Int)(v12:Bool)(v13:Int)(v14:aW)(v15:bn)(v16:aW):Option (K4×Unit):=
 ((iy v14)).bind fun y17=>
 ((eu v15)).bind fun y18=>
 ((eY v16)).bind fun y19=>
 some ((((v1,v2),(v3,v4),v5,v6,v7,v8),(v9,v10,v11,v12),v13,y17.1,y18.1,y19.1),())
abbrev iw:Type:=E5×Ip×(Unit)
abbrev l8:Type:=(Unit)×Ip×(Unit)
abbrev lG:Type:=bh×Ip×(Unit)
noncomputable def vV (v1 v2 v3:Int)(v4:aW):Option (R3 iw l8 lG):=
 cond (decide (v2<v1)) (
  cond ((decide (0≤v2))&&(decide (v2<(v4.length:Int)))) (
   cond (decide ((Int.toNat v2)<v4.length)) (
    cond (decide ((rd cr v4 (Int.toNat v2)).2.2≤v3)) (
     some (R3.ret ((v2,()),((v3,()),v4,()),()))) (
     some (R3.next (((),(),v1,(IntKind.wrap .i64 (v2+1)),()),((v3,()),v4,()),())))) (
    none)) (
   none)) (
  some (R3.out ((),((v3,()),v4,()),())))
noncomputable def mH (z:iw):Option (R3 iw l8 lG):=vV z.1.2.2.1 z.1.2.2.2.1 z.2.1.1.1 z.2.1.2.1
abbrev iA:Type:=E5×Ip×(Unit)
abbrev mF:Type:=(Unit×Int×Unit)×Ip×(Unit)
abbrev mh:Type:=Unit×jv×Unit
noncomputable def wk (v1 v2 v3:Int)(v4:aW):Option (R3 iA mF mh):=
 cond (decide (v2<(v4.length:Int))) (
  cond ((decide (0≤v2))&&(decide (v2<(v4.length:Int)))) (
   cond (decide ((Int.toNat v2)<v4.length)) (
    cond (!(decide ((rd cr v4 (Int.toNat v2)).2.2≤v3))) (
     cond ((decide (0≤v1))&&(decide (v1<(v4.length:Int)))) (
      cond (decide ((Int.toNat v1)<v4.length)) (
       some (R3.next (((),(),(IntKind.wrap .i64 (v1+1)),(IntKind.wrap .i64 (v2+1)),()),((v3,()),(v4.set (Int.toNat v1) ((rd cr v4 (Int.toNat v2)).1,(rd cr v4 (Int.toNat v2)).2.1,(rd cr v4 (Int.toNat v2)).2.2)),()),()))) (
       none)) (
      none)) (
     some (R3.next (((),(),v1,(IntKind.wrap .i64 (v2+1)),()),((v3,()),v4,()),())))) (
    none)) (
   none)) (
  some (R3.out (((),v1,()),((v3,()),v4,()),())))
noncomputable def lB (z:iA):Option (R3 iA mF mh):=wk z.1.2.2.1 z.1.2.2.2.1 z.2.1.1.1 z.2.1.2.1
noncomputable def f182 (v1:aW)(v2:Int):Option (aW×Unit):=
 ((eY v1)).bind fun y3=>
 ((iter aI mH (((),(),(y3.1.length:Int),0,()),((v2,()),y3.1,()),()))).bind fun r=>match r with
 | .inl y4=>
   some (y4.2.1.2.1,())
 | .inr z5=>
   cond (decide (z5.1.1=(-1))) (
    some (z5.2.1.2.1,())) (
    ((iter aI lB (((),(),z5.1.1,(IntKind.wrap .i64 (z5.1.1+1)),()),((z5.2.1.1.1,()),z5.2.1.2.1,()),()))).bind fun r=>match r with
    | .inl y6=>
      cond (((decide (0≤y6.1.2.1))&&(decide (y6.1.2.1≤(((y6.2.1.2.1.length-0):Nat):Int))))&&(decide ((0+(((y6.2.1.2.1.length-0):Nat):Int))≤(y6.2.1.2.1.length:Int)))) (
       cond ((decide (0≤y6.1.2.1))&&(decide ((0+y6.1.2.1)≤(((((List.take (0+(Int.toNat y6.1.2.1)) y6.2.1.2.1)++(List.replicate ((0+(Int.toNat (((y6.2.1.2.1.length-0):Nat):Int)))-(0+(Int.toNat y6.1.2.1))) (0,0,0)))++(List.drop ((0+(Int.toNat y6.1.2.1))+((0+(Int.toNat (((y6.2.1.2.1.length-0):Nat):Int)))-(0+(Int.toNat y6.1.2.1)))) y6.2.1.2.1)).length:Nat):Int)))) (
        some ((List.take (0+(Int.toNat y6.1.2.1)) (((List.take (0+(Int.toNat y6.1.2.1)) y6.2.1.2.1)++(List.replicate ((0+(Int.toNat (((y6.2.1.2.1.length-0):Nat):Int)))-(0+(Int.toNat y6.1.2.1))) (0,0,0)))++(List.drop ((0+(Int.toNat y6.1.2.1))+((0+(Int.toNat (((y6.2.1.2.1.length-0):Nat):Int)))-(0+(Int.toNat y6.1.2.1)))) y6.2.1.2.1))),())) (
        none)) (
       none)
    | .inr z7=>
      none)
abbrev AN:Type:=(Int×Unit×Unit×Int×Int×Unit)×ED×aW×bn×aW×aW×bn×aW×Unit
abbrev HD:Type:=(Int×Unit×Unit×Unit)×ED×aW×bn×aW×aW×bn×aW×Unit
abbrev J9:Type:=Unit×Unit×Unit
noncomputable def Ob (v1 v2 v3 v4 v5 v6 v7 v8 v9 v10 v11 v12 v13 v14:Int)(v15:Bool)(v16 v17 v18 v19 v20 v21 v22 v23 v24 v25 v26 v27:Int)(v28:Bool)(v29:Int)(v30:aW)(v31:bn)(v32 v33:aW)(v34:bn)(v35:aW):Option (R3 AN HD J9):=
 cond (decide (v3<v2)) (
  cond ((decide (0≤v3))&&(decide (v3<(v34.length:Int)))) (
   cond (decide ((Int.toNat v3)<v34.length)) (
    some (R3.next ((v1,(),(),v2,(IntKind.wrap .i64 (v3+1)),()),((v4,v5,v6,v7,v8,v9,v10,v11,v12,v13,v14,v15,v16,(),(),(),()),(v17,v18,v19,v20,v21,v22,v23,v24,v25,v26,v27,v28,v29,(),(),(),()),()),v30,v31,v32,v33,(v34.set (Int.toNat v3) ((rd aX v34 (Int.toNat v3)).1,(rd aX v34 (Int.toNat v3)).2.1,(rd aX v34 (Int.toNat v3)).2.2.1,(rd aX v34 (Int.toNat v3)).2.2.2.1,v1)),v35,()))) (
    none)) (
   none)) (
  some (R3.out ((v1,(),(),()),((v4,v5,v6,v7,v8,v9,v10,v11,v12,v13,v14,v15,v16,(),(),(),()),(v17,v18,v19,v20,v21,v22,v23,v24,v25,v26,v27,v28,v29,(),(),(),()),()),v30,v31,v32,v33,v34,v35,())))
noncomputable def GP (z:AN):Option (R3 AN HD J9):=Ob z.1.1 z.1.2.2.2.1 z.1.2.2.2.2.1 z.2.1.1.1 z.2.1.1.2.1 z.2.1.1.2.2.1 z.2.1.1.2.2.2.1 z.2.1.1.2.2.2.2.1 z.2.1.1.2.2.2.2.2.1 z.2.1.1.2.2.2.2.2.2.1 z.2.1.1.2.2.2.2.2.2.2.1 z.2.1.1.2.2.2.2.2.2.2.2.1 z.2.1.1.2.2.2.2.2.2.2.2.2.1 z.2.1.1.2.2.2.2.2.2.2.2.2.2.1 z.2.1.1.2.2.2.2.2.2.2.2.2.2.2.1 z.2.1.1.2.2.2.2.2.2.2.2.2.2.2.2.1 z.2.1.2.1.1 z.2.1.2.1.2.1 z.2.1.2.1.2.2.1 z.2.1.2.1.2.2.2.1 z.2.1.2.1.2.2.2.2.1 z.2.1.2.1.2.2.2.2.2.1 z.2.1.2.1.2.2.2.2.2.2.1 z.2.1.2.1.2.2.2.2.2.2.2.1 z.2.1.2.1.2.2.2.2.2.2.2.2.1 z.2.1.2.1.2.2.2.2.2.2.2.2.2.1 z.2.1.2.1.2.2.2.2.2.2.2.2.2.2.1 z.2.1.2.1.2.2.2.2.2.2.2.2.2.2.2.1 z.2.1.2.1.2.2.2.2.2.2.2.2.2.2.2.2.1 z.2.2.1 z.2.2.2.1 z.2.2.2.2.1 z.2.2.2.2.2.1 z.2.2.2.2.2.2.1 z.2.2.2.2.2.2.2.1
noncomputable def f169 (v1 v2 v3 v4 v5 v6 v7 v8 v9 v10 v11:Int)(v12:Bool)(v13:Int)(v14:aW)(v15:bn)(v16:aW)(v17:Int):Option (K4×Bool×Unit):=
 ((iy v14)).bind fun y18=>
 ((eu v15)).bind fun y19=>
 ((eY v16)).bind fun y20=>
 ((f78 v1 v2 v3 v4 v5 v6 v7 v8 v9 v10 v11 v12 v13 v14 v15 v16)).bind fun y21=>
 cond (!y21.1) (
  some ((((v1,v2),(v3,v4),v5,v6,v7,v8),(v9,v10,v11,v12),v13,y18.1,y19.1,y20.1),false,())) (
  cond (decide (v17<v13)) (
   some ((((v1,v2),(v3,v4),v5,v6,v7,v8),(v9,v10,v11,v12),v13,y18.1,y19.1,y20.1),false,())) (
   cond (decide (1073741824<v17)) (
    some ((((v1,v2),(v3,v4),v5,v6,v7,v8),(v9,v10,v11,v12),v13,y18.1,y19.1,y20.1),false,())) (
    ((iter aI GP ((v17,(),(),(y19.1.length:Int),0,()),((0,0,0,0,0,0,0,0,0,0,0,false,0,(),(),(),()),(v1,v2,v3,v4,v5,v6,v7,v8,v9,v10,v11,v12,v17,(),(),(),()),()),[],[],[],y18.1,y19.1,y20.1,()))).bind fun r=>match r with
    | .inl y22=>
      ((f182 y22.2.2.2.2.2.2.2.1 y22.1.1)).bind fun y24=>
      some ((((y22.2.1.2.1.1,y22.2.1.2.1.2.1),(y22.2.1.2.1.2.2.1,y22.2.1.2.1.2.2.2.1),y22.2.1.2.1.2.2.2.2.1,y22.2.1.2.1.2.2.2.2.2.1,y22.2.1.2.1.2.2.2.2.2.2.1,y22.2.1.2.1.2.2.2.2.2.2.2.1),(y22.2.1.2.1.2.2.2.2.2.2.2.2.1,y22.2.1.2.1.2.2.2.2.2.2.2.2.2.1,y22.2.1.2.1.2.2.2.2.2.2.2.2.2.2.1,y22.2.1.2.1.2.2.2.2.2.2.2.2.2.2.2.1),y22.2.1.2.1.2.2.2.2.2.2.2.2.2.2.2.2.1,y22.2.2.2.2.2.1,y22.2.2.2.2.2.2.1,y24.1),true,())
    | .inr z23=>
      none)))
abbrev Cp:Type:=(Int×aR×Int×Int×Unit)×(Unit)×(Unit)
abbrev Jz:Type:=bh×(Unit)×(Unit)
abbrev Ik:Type:=bh×(Unit)×(Unit)
noncomputable def Rf (v1:Int)(v2:aR)(v3 v4:Int):Option (R3 Cp Jz Ik):=
 cond (decide (v4<v3)) (
  cond ((decide (0≤v4))&&(decide (v4<(v2.length:Int)))) (
   cond (!(decide ((rd aU v2 (Int.toNat v4))=v1))) (
    some (R3.ret (((rd aU v2 (Int.toNat v4)),()),(),()))) (
    some (R3.next ((v1,v2,v3,(IntKind.wrap .i64 (v4+1)),()),(),())))) (
   none)) (
  some (R3.out ((v1,()),(),())))
noncomputable def JB (z:Cp):Option (R3 Cp Jz Ik):=Rf z.1.1 z.1.2.1 z.1.2.2.1 z.1.2.2.2.1
noncomputable def f225 (v1:aR):Option bh:=
 ((iter aI JB ((0,v1,(v1.length:Int),0,()),(),()))).bind fun r=>match r with
 | .inl y2=>
   some (y2.1.1,())
 | .inr z3=>
   some (z3.1.1,())
noncomputable def f243 (v1:Int):Option bZ:=
 some ((!(decide (v1=v1))),())
noncomputable def f226 (v1 v2:Int):Option bh:=
 ((f243 v1)).bind fun y3=>
 ((f243 v2)).bind fun y4=>
 cond y3.1 (
  cond y4.1 (
   some (0,())) (
   some ((-1),()))) (
  cond y4.1 (
   some (1,())) (
   cond (decide (v1<v2)) (
    some ((-1),())) (
    cond (decide (v2<v1)) (
     some (1,())) (
     some (0,())))))
noncomputable def f215 (v1 v2 v3 v4:Int):Option bh:=
 ((f226 v1 v3)).bind fun y5=>
 ((f226 v2 v4)).bind fun y6=>
 ((f225 [y5.1,y6.1])).bind fun y7=>
 some (y7.1,())
abbrev ia:Type:=KC×xC×(Unit)
abbrev nK:Type:=(Unit)×xC×(Unit)
abbrev ny:Type:=bh×xC×(Unit)
noncomputable def wV (v1:bn)(v2 v3 v4 v5:Int):Option (R3 ia nK ny):=
 cond (decide (v3<v2)) (
  cond ((decide (0≤v3))&&(decide (v3<(v1.length:Int)))) (
   ((f179 (rd aX v1 (Int.toNat v3)).1 (rd aX v1 (Int.toNat v3)).2.1 (rd aX v1 (Int.toNat v3)).2.2.1 (rd aX v1 (Int.toNat v3)).2.2.2.1 (rd aX v1 (Int.toNat v3)).2.2.2.2)).bind fun y6=>
   ((f215 y6.1.1 y6.1.2 v4 v5)).bind fun y7=>
   cond (decide (0<y7.1)) (
    some (R3.ret ((v3,()),((v4,v5,()),((),()),()),()))) (
    some (R3.next ((v1,(),v2,(IntKind.wrap .i64 (v3+1)),()),((v4,v5,()),((),()),()),())))) (
   none)) (
  some (R3.out ((),((v4,v5,()),((),()),()),())))
noncomputable def mg (z:ia):Option (R3 ia nK ny):=wV z.1.1 z.1.2.2.1 z.1.2.2.2.1 z.2.1.1.1 z.2.1.1.2.1
noncomputable def f203 (v1:bn)(v2 v3:Int):Option bh:=
 ((iter aI mg ((v1,(),(v1.length:Int),0,()),((v2,v3,()),((),()),()),()))).bind fun r=>match r with
 | .inl y4=>
   some ((v1.length:Int),())
 | .inr z5=>
   cond (decide (z5.1.1=(-1))) (
    some ((v1.length:Int),())) (
    some (z5.1.1,()))
noncomputable def f193 (v1:bn)(v2 v3 v4 v5 v6:Int):Option (bn×Bool×Unit):=
 ((eu v1)).bind fun y7=>
 ((f151 v1 v3 v4)).bind fun y8=>
 cond (!(decide (y8.1=(-1)))) (
  some (y7.1,false,())) (
  cond (decide (32≤(v1.length:Int))) (
   some (y7.1,false,())) (
   ((f179 v2 v3 v4 v5 v6)).bind fun y9=>
   ((f203 v1 y9.1.1 y9.1.2)).bind fun y10=>
   ((ul y7.1 y10.1 [(v2,v3,v4,v5,v6)])).bind fun y11=>
   some (y11,true,())))
noncomputable def f194 (v1:bn)(v2 v3:Int):Option (bn×Bool×Unit):=
 ((eu v1)).bind fun y4=>
 ((f151 v1 v2 v3)).bind fun y5=>
 cond (decide (y5.1=(-1))) (
  some (y4.1,false,())) (
  cond ((((decide (0≤y5.1))&&(decide (y5.1≤(IntKind.wrap .i64 (y5.1+1)))))&&(decide ((IntKind.wrap .i64 (y5.1+1))≤(y4.1.length:Int))))&&(decide ((0+(y4.1.length:Int))≤(y4.1.length:Int)))) (
   cond (decide (y5.1=(IntKind.wrap .i64 (y5.1+1)))) (
    some (y4.1,true,())) (
    cond ((decide (0≤y5.1))&&(decide ((0+y5.1)≤(y4.1.length:Int)))) (
     cond (((decide (0≤(IntKind.wrap .i64 (y5.1+1))))&&(decide ((IntKind.wrap .i64 (y5.1+1))≤(((y4.1.length-0):Nat):Int))))&&(decide ((0+(((y4.1.length-0):Nat):Int))≤(y4.1.length:Int)))) (
      cond (decide (((0+(Int.toNat y5.1))+(List.drop (0+(Int.toNat (IntKind.wrap .i64 (y5.1+1)))) (List.take (0+(Int.toNat (((y4.1.length-0):Nat):Int))) y4.1)).length)≤y4.1.length)) (
       cond (((decide (0≤(((((0+(Int.toNat y5.1))+(List.drop (0+(Int.toNat (IntKind.wrap .i64 (y5.1+1)))) (List.take (0+(Int.toNat (((y4.1.length-0):Nat):Int))) y4.1)).length)-0):Nat):Int)))&&(decide ((((((0+(Int.toNat y5.1))+(List.drop (0+(Int.toNat (IntKind.wrap .i64 (y5.1+1)))) (List.take (0+(Int.toNat (((y4.1.length-0):Nat):Int))) y4.1)).length)-0):Nat):Int)≤(y4.1.length:Int))))&&(decide ((0+(y4.1.length:Int))≤(((((List.take (0+(Int.toNat y5.1)) y4.1)++(List.drop (0+(Int.toNat (IntKind.wrap .i64 (y5.1+1)))) (List.take (0+(Int.toNat (((y4.1.length-0):Nat):Int))) y4.1)))++(List.drop ((0+(Int.toNat y5.1))+(List.drop (0+(Int.toNat (IntKind.wrap .i64 (y5.1+1)))) (List.take (0+(Int.toNat (((y4.1.length-0):Nat):Int))) y4.1)).length) y4.1)).length:Nat):Int)))) (
        some ((List.drop 0 (List.take ((0+(Int.toNat y5.1))+(List.drop (0+(Int.toNat (IntKind.wrap .i64 (y5.1+1)))) (List.take (0+(Int.toNat (((y4.1.length-0):Nat):Int))) y4.1)).length) (((List.take (0+(Int.toNat (((((0+(Int.toNat y5.1))+(List.drop (0+(Int.toNat (IntKind.wrap .i64 (y5.1+1)))) (List.take (0+(Int.toNat (((y4.1.length-0):Nat):Int))) y4.1)).length)-0):Nat):Int))) (((List.take (0+(Int.toNat y5.1)) y4.1)++(List.drop (0+(Int.toNat (IntKind.wrap .i64 (y5.1+1)))) (List.take (0+(Int.toNat (((y4.1.length-0):Nat):Int))) y4.1)))++(List.drop ((0+(Int.toNat y5.1))+(List.drop (0+(Int.toNat (IntKind.wrap .i64 (y5.1+1)))) (List.take (0+(Int.toNat (((y4.1.length-0):Nat):Int))) y4.1)).length) y4.1)))++(List.replicate ((0+(Int.toNat (y4.1.length:Int)))-(0+(Int.toNat (((((0+(Int.toNat y5.1))+(List.drop (0+(Int.toNat (IntKind.wrap .i64 (y5.1+1)))) (List.take (0+(Int.toNat (((y4.1.length-0):Nat):Int))) y4.1)).length)-0):Nat):Int)))) (0,0,0,0,0)))++(List.drop ((0+(Int.toNat (((((0+(Int.toNat y5.1))+(List.drop (0+(Int.toNat (IntKind.wrap .i64 (y5.1+1)))) (List.take (0+(Int.toNat (((y4.1.length-0):Nat):Int))) y4.1)).length)-0):Nat):Int)))+((0+(Int.toNat (y4.1.length:Int)))-(0+(Int.toNat (((((0+(Int.toNat y5.1))+(List.drop (0+(Int.toNat (IntKind.wrap .i64 (y5.1+1)))) (List.take (0+(Int.toNat (((y4.1.length-0):Nat):Int))) y4.1)).length)-0):Nat):Int))))) (((List.take (0+(Int.toNat y5.1)) y4.1)++(List.drop (0+(Int.toNat (IntKind.wrap .i64 (y5.1+1)))) (List.take (0+(Int.toNat (((y4.1.length-0):Nat):Int))) y4.1)))++(List.drop ((0+(Int.toNat y5.1))+(List.drop (0+(Int.toNat (IntKind.wrap .i64 (y5.1+1)))) (List.take (0+(Int.toNat (((y4.1.length-0):Nat):Int))) y4.1)).length) y4.1)))))),true,())) (
        none)) (
       none)) (
      none)) (
     none))) (
   none))
noncomputable def f216 (v1 v2 v3:Int):Option ((pG×Int×Int×Int)×Unit):=
 some (((v1,v2),v1,v2,v3),())
noncomputable def f206 (v1 v2 v3:Int):Option (pG×Unit):=
 ((f216 v1 v2 v3)).bind fun y4=>
 some ((y4.1.1.1,y4.1.1.2),())
abbrev gQ:Type:=(aW×Unit×Int×Int×Unit)×xC×(Unit)
abbrev me:Type:=(Unit)×xC×(Unit)
abbrev lW:Type:=bh×xC×(Unit)
noncomputable def w6 (v1:aW)(v2 v3 v4 v5:Int):Option (R3 gQ me lW):=
 cond (decide (v3<v2)) (
  cond ((decide (0≤v3))&&(decide (v3<(v1.length:Int)))) (
   ((f206 (rd cr v1 (Int.toNat v3)).1 (rd cr v1 (Int.toNat v3)).2.1 (rd cr v1 (Int.toNat v3)).2.2)).bind fun y6=>
   ((f215 y6.1.1 y6.1.2 v4 v5)).bind fun y7=>
   cond (decide (0<y7.1)) (
    some (R3.ret ((v3,()),((v4,v5,()),((),()),()),()))) (
    some (R3.next ((v1,(),v2,(IntKind.wrap .i64 (v3+1)),()),((v4,v5,()),((),()),()),())))) (
   none)) (
  some (R3.out ((),((v4,v5,()),((),()),()),())))
noncomputable def nj (z:gQ):Option (R3 gQ me lW):=w6 z.1.1 z.1.2.2.1 z.1.2.2.2.1 z.2.1.1.1 z.2.1.1.2.1
noncomputable def f208 (v1:aW)(v2 v3:Int):Option bh:=
 ((iter aI nj ((v1,(),(v1.length:Int),0,()),((v2,v3,()),((),()),()),()))).bind fun r=>match r with
 | .inl y4=>
   some ((v1.length:Int),())
 | .inr z5=>
   cond (decide (z5.1.1=(-1))) (
    some ((v1.length:Int),())) (
    some (z5.1.1,()))
abbrev gS:Type:=E5×GN×(Unit)
abbrev lm:Type:=(Unit)×GN×(Unit)
abbrev mN:Type:=bh×GN×(Unit)
noncomputable def wg (v1 v2 v3 v4 v5:Int)(v6:aW):Option (R3 gS lm mN):=
 cond (decide (v2<v1)) (
  cond ((decide (0≤v2))&&(decide (v2<(v6.length:Int)))) (
   cond (decide ((Int.toNat v2)<v6.length)) (
    ((f206 (rd cr v6 (Int.toNat v2)).1 (rd cr v6 (Int.toNat v2)).2.1 (rd cr v6 (Int.toNat v2)).2.2)).bind fun y7=>
    ((f206 v3 v4 v5)).bind fun y8=>
    cond ((decide (y7.1.1=y8.1.1))&&((decide (y7.1.2=y8.1.2))&&true)) (
     some (R3.ret ((v2,()),((v3,v4,v5,()),v6,()),()))) (
     some (R3.next (((),(),v1,(IntKind.wrap .i64 (v2+1)),()),((v3,v4,v5,()),v6,()),())))) (
    none)) (
   none)) (
  some (R3.out ((),((v3,v4,v5,()),v6,()),())))
noncomputable def lP (z:gS):Option (R3 gS lm mN):=wg z.1.2.2.1 z.1.2.2.2.1 z.2.1.1.1 z.2.1.1.2.1 z.2.1.1.2.2.1 z.2.1.2.1
abbrev hY:Type:=E5×GN×(Unit)
abbrev mr:Type:=(Unit×Int×Unit)×GN×(Unit)
abbrev nI:Type:=Unit×jv×Unit
noncomputable def vO (v1 v2 v3 v4 v5:Int)(v6:aW):Option (R3 hY mr nI):=
 cond (decide (v2<(v6.length:Int))) (
  cond ((decide (0≤v2))&&(decide (v2<(v6.length:Int)))) (
   cond (decide ((Int.toNat v2)<v6.length)) (
    ((f206 (rd cr v6 (Int.toNat v2)).1 (rd cr v6 (Int.toNat v2)).2.1 (rd cr v6 (Int.toNat v2)).2.2)).bind fun y7=>
    ((f206 v3 v4 v5)).bind fun y8=>
    cond (!((decide (y7.1.1=y8.1.1))&&((decide (y7.1.2=y8.1.2))&&true))) (
     cond ((decide (0≤v1))&&(decide (v1<(v6.length:Int)))) (
      cond (decide ((Int.toNat v1)<v6.length)) (
       some (R3.next (((),(),(IntKind.wrap .i64 (v1+1)),(IntKind.wrap .i64 (v2+1)),()),((v3,v4,v5,()),(v6.set (Int.toNat v1) ((rd cr v6 (Int.toNat v2)).1,(rd cr v6 (Int.toNat v2)).2.1,(rd cr v6 (Int.toNat v2)).2.2)),()),()))) (
       none)) (
      none)) (
     some (R3.next (((),(),v1,(IntKind.wrap .i64 (v2+1)),()),((v3,v4,v5,()),v6,()),())))) (
    none)) (
   none)) (
  some (R3.out (((),v1,()),((v3,v4,v5,()),v6,()),())))
noncomputable def l9 (z:hY):Option (R3 hY mr nI):=vO z.1.2.2.1 z.1.2.2.2.1 z.2.1.1.1 z.2.1.1.2.1 z.2.1.1.2.2.1 z.2.1.2.1
noncomputable def f195 (v1:aW)(v2 v3 v4:Int):Option (aW×Unit):=
 ((eY v1)).bind fun y5=>
 ((iter aI lP (((),(),(y5.1.length:Int),0,()),((v2,v3,v4,()),y5.1,()),()))).bind fun r=>match r with
 | .inl y6=>
   ((f206 y6.2.1.1.1 y6.2.1.1.2.1 y6.2.1.1.2.2.1)).bind fun y8=>
   ((f208 y6.2.1.2.1 y8.1.1 y8.1.2)).bind fun y9=>
   ((mE y6.2.1.2.1 y9.1 [(y6.2.1.1.1,y6.2.1.1.2.1,y6.2.1.1.2.2.1)])).bind fun y10=>
   some (y10,())
 | .inr z7=>
   cond (decide (z7.1.1=(-1))) (
    ((f206 z7.2.1.1.1 z7.2.1.1.2.1 z7.2.1.1.2.2.1)).bind fun y11=>
    ((f208 z7.2.1.2.1 y11.1.1 y11.1.2)).bind fun y12=>
    ((mE z7.2.1.2.1 y12.1 [(z7.2.1.1.1,z7.2.1.1.2.1,z7.2.1.1.2.2.1)])).bind fun y13=>
    some (y13,())) (
    ((iter aI l9 (((),(),z7.1.1,(IntKind.wrap .i64 (z7.1.1+1)),()),((z7.2.1.1.1,z7.2.1.1.2.1,z7.2.1.1.2.2.1,()),z7.2.1.2.1,()),()))).bind fun r=>match r with
    | .inl y14=>
      cond (((decide (0≤y14.1.2.1))&&(decide (y14.1.2.1≤(((y14.2.1.2.1.length-0):Nat):Int))))&&(decide ((0+(((y14.2.1.2.1.length-0):Nat):Int))≤(y14.2.1.2.1.length:Int)))) (
       cond ((decide (0≤y14.1.2.1))&&(decide ((0+y14.1.2.1)≤(((((List.take (0+(Int.toNat y14.1.2.1)) y14.2.1.2.1)++(List.replicate ((0+(Int.toNat (((y14.2.1.2.1.length-0):Nat):Int)))-(0+(Int.toNat y14.1.2.1))) (0,0,0)))++(List.drop ((0+(Int.toNat y14.1.2.1))+((0+(Int.toNat (((y14.2.1.2.1.length-0):Nat):Int)))-(0+(Int.toNat y14.1.2.1)))) y14.2.1.2.1)).length:Nat):Int)))) (
        ((f206 y14.2.1.1.1 y14.2.1.1.2.1 y14.2.1.1.2.2.1)).bind fun y16=>
        ((f208 (List.drop 0 (List.take (0+(Int.toNat y14.1.2.1)) (((List.take (0+(Int.toNat y14.1.2.1)) y14.2.1.2.1)++(List.replicate ((0+(Int.toNat (((y14.2.1.2.1.length-0):Nat):Int)))-(0+(Int.toNat y14.1.2.1))) (0,0,0)))++(List.drop ((0+(Int.toNat y14.1.2.1))+((0+(Int.toNat (((y14.2.1.2.1.length-0):Nat):Int)))-(0+(Int.toNat y14.1.2.1)))) y14.2.1.2.1)))) y16.1.1 y16.1.2)).bind fun y17=>
        ((mE (List.take (0+(Int.toNat y14.1.2.1)) (((List.take (0+(Int.toNat y14.1.2.1)) y14.2.1.2.1)++(List.replicate ((0+(Int.toNat (((y14.2.1.2.1.length-0):Nat):Int)))-(0+(Int.toNat y14.1.2.1))) (0,0,0)))++(List.drop ((0+(Int.toNat y14.1.2.1))+((0+(Int.toNat (((y14.2.1.2.1.length-0):Nat):Int)))-(0+(Int.toNat y14.1.2.1)))) y14.2.1.2.1))) y17.1 [(y14.2.1.1.1,y14.2.1.1.2.1,y14.2.1.1.2.2.1)])).bind fun y18=>
        some (y18,())) (
        none)) (
       none)
    | .inr z15=>
      none)
abbrev C7:Type:=(bn×Int×Int×Unit)×(Unit)×aR×Unit
abbrev IF:Type:=(Unit)×(Unit)×aR×Unit
abbrev FZ:Type:=Unit×Unit×Unit
noncomputable def OL (v1:bn)(v2 v3:Int)(v4:aR):Option (R3 C7 IF FZ):=
 cond (decide (v3<v2)) (
  cond ((decide (0≤v3))&&(decide (v3<(v1.length:Int)))) (
   ((f189 (rd aX v1 (Int.toNat v3)).1 (rd aX v1 (Int.toNat v3)).2.1 (rd aX v1 (Int.toNat v3)).2.2.1 (rd aX v1 (Int.toNat v3)).2.2.2.1 (rd aX v1 (Int.toNat v3)).2.2.2.2)).bind fun y5=>
   cond ((decide (((v4.length+1) * 8)≤140737488355328))&&(decide ((v4.length+1)≤9223372036854775807))) (
    some (R3.next ((v1,v2,(IntKind.wrap .i64 (v3+1)),()),(),(v4++[y5.1.1.1]),()))) (
    none)) (
   none)) (
  some (R3.out ((),(),v4,())))
noncomputable def FX (z:C7):Option (R3 C7 IF FZ):=OL z.1.1 z.1.2.1 z.1.2.2.1 z.2.2.1
noncomputable def f196 (v1:bn):Option pO:=
 ((iter aI FX ((v1,(v1.length:Int),0,()),(),[],()))).bind fun r=>match r with
 | .inl y2=>
   ((Hu y2.2.2.1)).bind fun y4=>
   cond ((Nat.beq y4.length y2.2.2.1.length)&&true) (
    ((r6 y4)).bind fun y5=>
    some (y5,())) (
    none)
 | .inr z3=>
   none
abbrev Be:Type:=(aW×Int×Unit×aW×Int×Int×Unit)×(zN×Unit)×(Unit)
abbrev J6:Type:=EJ×(Unit)×(Unit)
abbrev Jc:Type:=bh×(Unit)×(Unit)
noncomputable def OZ (v1:aW)(v2:Int)(v3:aW)(v4 v5 v6 v7 v8:Int):Option (R3 Be J6 Jc):=
 cond (decide (v5<v4)) (
  cond ((decide (0≤v5))&&(decide (v5<(v3.length:Int)))) (
   cond (decide (v5=v2)) (
    some (R3.next ((v1,v2,(),v3,v4,(IntKind.wrap .i64 (v5+1)),()),((v6,v7,v8,()),()),()))) (
    ((f145 v6 v7 v8 (rd cr v3 (Int.toNat v5)).1 (rd cr v3 (Int.toNat v5)).2.1 (rd cr v3 (Int.toNat v5)).2.2)).bind fun y9=>
    cond y9.1 (
     some (R3.ret ((11,()),(),()))) (
     some (R3.next ((v1,v2,(),v3,v4,(IntKind.wrap .i64 (v5+1)),()),((v6,v7,v8,()),()),()))))) (
   none)) (
  some (R3.out ((v1,v2,()),(),())))
noncomputable def HL (z:Be):Option (R3 Be J6 Jc):=OZ z.1.1 z.1.2.1 z.1.2.2.2.1 z.1.2.2.2.2.1 z.1.2.2.2.2.2.1 z.2.1.1.1 z.2.1.1.2.1 z.2.1.1.2.2.1
noncomputable def f241 (v1 v2 v3 v4 v5 v6:Int)(v7:aR)(v8:aW)(v9 v10 v11 v12:Int):Option bh:=
 ((f146 v10 v11 v12 v2)).bind fun y13=>
 cond (!y13.1) (
  some (1,())) (
  ((iter aI HL ((v8,v9,(),v8,(v8.length:Int),0,()),((v10,v11,v12,()),()),()))).bind fun r=>match r with
  | .inl y14=>
    cond (decide (y14.1.2.1=(-1))) (
     cond (decide ((y14.1.1.length:Int)=3)) (
      some (9,())) (
      some (0,()))) (
     some (0,()))
  | .inr z15=>
    some (z15.1.1,()))
abbrev gY:Type:=JP×Qx×(Unit)
abbrev mM:Type:=(Unit)×Qx×(Unit)
abbrev nr:Type:=bh×Qx×(Unit)
noncomputable def wR (v1:aR)(v2 v3 v4 v5 v6 v7 v8 v9:Int)(v10:aR)(v11:aW)(v12 v13 v14 v15 v16 v17:Int):Option (R3 gY mM nr):=
 cond (decide (v3<v2)) (
  cond ((decide (0≤v3))&&(decide (v3<(v1.length:Int)))) (
   cond ((decide (0≤v6))&&(decide (v6<(v11.length:Int)))) (
    ((f177 (rd cr v11 (Int.toNat v6)).1 (rd cr v11 (Int.toNat v6)).2.1 (rd cr v11 (Int.toNat v6)).2.2 (rd aU v1 (Int.toNat v3)))).bind fun y18=>
    cond y18.1 (
     ((f177 v15 v16 v17 (rd aU v1 (Int.toNat v3)))).bind fun y19=>
     cond (!y19.1) (
      some (R3.ret ((v3,()),((v4,v5,v6,v7,v8,v9,v10,()),(v11,()),(v12,v13,v14,()),(v15,v16,v17,()),()),()))) (
      some (R3.next ((v1,(),v2,(IntKind.wrap .i64 (v3+1)),()),((v4,v5,v6,v7,v8,v9,v10,()),(v11,()),(v12,v13,v14,()),(v15,v16,v17,()),()),())))) (
     some (R3.next ((v1,(),v2,(IntKind.wrap .i64 (v3+1)),()),((v4,v5,v6,v7,v8,v9,v10,()),(v11,()),(v12,v13,v14,()),(v15,v16,v17,()),()),())))) (
    none)) (
   none)) (
  some (R3.out ((),((v4,v5,v6,v7,v8,v9,v10,()),(v11,()),(v12,v13,v14,()),(v15,v16,v17,()),()),())))
noncomputable def ix (z:gY):Option (R3 gY mM nr):=wR z.1.1 z.1.2.2.1 z.1.2.2.2.1 z.2.1.1.1 z.2.1.1.2.1 z.2.1.1.2.2.1 z.2.1.1.2.2.2.1 z.2.1.1.2.2.2.2.1 z.2.1.1.2.2.2.2.2.1 z.2.1.1.2.2.2.2.2.2.1 z.2.1.2.1.1 z.2.1.2.2.1.1 z.2.1.2.2.1.2.1 z.2.1.2.2.1.2.2.1 z.2.1.2.2.2.1.1 z.2.1.2.2.2.1.2.1 z.2.1.2.2.2.1.2.2.1
abbrev iC:Type:=JP×QD×(Unit)
abbrev nh:Type:=(Unit)×QD×(Unit)
abbrev nw:Type:=bh×QD×(Unit)
noncomputable def wT (v1:aR)(v2 v3 v4 v5 v6 v7 v8 v9:Int)(v10:aR)(v11:aW)(v12 v13 v14:Int):Option (R3 iC nh nw):=
 cond (decide (v3<v2)) (
  cond ((decide (0≤v3))&&(decide (v3<(v1.length:Int)))) (
   cond ((decide (0≤v6))&&(decide (v6<(v11.length:Int)))) (
    ((f177 (rd cr v11 (Int.toNat v6)).1 (rd cr v11 (Int.toNat v6)).2.1 (rd cr v11 (Int.toNat v6)).2.2 (rd aU v1 (Int.toNat v3)))).bind fun y15=>
    cond y15.1 (
     ((f177 v12 v13 v14 (rd aU v1 (Int.toNat v3)))).bind fun y16=>
     cond (!y16.1) (
      some (R3.ret ((v3,()),((v4,v5,v6,v7,v8,v9,v10,()),(v11,()),(v12,v13,v14,()),()),()))) (
      some (R3.next ((v1,(),v2,(IntKind.wrap .i64 (v3+1)),()),((v4,v5,v6,v7,v8,v9,v10,()),(v11,()),(v12,v13,v14,()),()),())))) (
     some (R3.next ((v1,(),v2,(IntKind.wrap .i64 (v3+1)),()),((v4,v5,v6,v7,v8,v9,v10,()),(v11,()),(v12,v13,v14,()),()),())))) (
    none)) (
   none)) (
  some (R3.out ((),((v4,v5,v6,v7,v8,v9,v10,()),(v11,()),(v12,v13,v14,()),()),())))
noncomputable def gP (z:iC):Option (R3 iC nh nw):=wT z.1.1 z.1.2.2.1 z.1.2.2.2.1 z.2.1.1.1 z.2.1.1.2.1 z.2.1.1.2.2.1 z.2.1.1.2.2.2.1 z.2.1.1.2.2.2.2.1 z.2.1.1.2.2.2.2.2.1 z.2.1.1.2.2.2.2.2.2.1 z.2.1.2.1.1 z.2.1.2.2.1.1 z.2.1.2.2.1.2.1 z.2.1.2.2.1.2.2.1
noncomputable def f222 (v1 v2 v3 v4 v5 v6:Int)(v7:aR)(v8:aW):Option bh:=
 ((f108 v8 v2)).bind fun y9=>
 cond (!y9.1) (
  some (1,())) (
  cond (!(decide (v1=0))) (
   cond (decide (v3<0)) (
    some (5,())) (
    cond (decide ((v8.length:Int)≤v3)) (
     some (5,())) (
     cond (decide (v1=0)) (
      ((f241 v1 v2 v3 v4 v5 v6 v7 v8 (-1) v4 v5 v6)).bind fun y10=>
      some (y10.1,())) (
      cond (decide (v1=1)) (
       cond ((decide (0≤v3))&&(decide (v3<(v8.length:Int)))) (
        cond (decide ((rd cr v8 (Int.toNat v3)).2.2=1)) (
         some (11,())) (
         some (0,()))) (
        none)) (
       cond (decide (v1=2)) (
        cond ((decide (0≤v3))&&(decide (v3<(v8.length:Int)))) (
         ((f241 v1 v2 v3 v4 v5 v6 v7 v8 v3 (rd cr v8 (Int.toNat v3)).1 v5 (rd cr v8 (Int.toNat v3)).2.2)).bind fun y11=>
         cond (!(decide (y11.1=0))) (
          some (y11.1,())) (
          ((iter aI ix ((v7,(),(v7.length:Int),0,()),((v1,v2,v3,v4,v5,v6,v7,()),(v8,()),((rd cr v8 (Int.toNat v3)).1,v5,(rd cr v8 (Int.toNat v3)).2.2,()),((rd cr v8 (Int.toNat v3)).1,v5,(rd cr v8 (Int.toNat v3)).2.2,()),()),()))).bind fun r=>match r with
          | .inl y12=>
            some (0,())
          | .inr z13=>
            cond (decide (0≤z13.1.1)) (
             some (12,())) (
             some (0,())))) (
         none)) (
        cond (decide (v1=3)) (
         cond ((decide (0≤v3))&&(decide (v3<(v8.length:Int)))) (
          cond (decide ((rd cr v8 (Int.toNat v3)).2.2=0)) (
           some (12,())) (
           ((iter aI gP ((v7,(),(v7.length:Int),0,()),((v1,v2,v3,v4,v5,v6,v7,()),(v8,()),(0,0,0,()),()),()))).bind fun r=>match r with
           | .inl y14=>
             some (0,())
           | .inr z15=>
             cond (decide (0≤z15.1.1)) (
              some (12,())) (
              some (0,())))) (
          none)) (
         some (0,())))))))) (
   cond (decide (v1=0)) (
    ((f241 v1 v2 v3 v4 v5 v6 v7 v8 (-1) v4 v5 v6)).bind fun y16=>
    some (y16.1,())) (
    cond (decide (v1=1)) (
     cond ((decide (0≤v3))&&(decide (v3<(v8.length:Int)))) (
      cond (decide ((rd cr v8 (Int.toNat v3)).2.2=1)) (
       some (11,())) (
       some (0,()))) (
      none)) (
     cond (decide (v1=2)) (
      cond ((decide (0≤v3))&&(decide (v3<(v8.length:Int)))) (
       ((f241 v1 v2 v3 v4 v5 v6 v7 v8 v3 (rd cr v8 (Int.toNat v3)).1 v5 (rd cr v8 (Int.toNat v3)).2.2)).bind fun y17=>
       cond (!(decide (y17.1=0))) (
        some (y17.1,())) (
        ((iter aI ix ((v7,(),(v7.length:Int),0,()),((v1,v2,v3,v4,v5,v6,v7,()),(v8,()),((rd cr v8 (Int.toNat v3)).1,v5,(rd cr v8 (Int.toNat v3)).2.2,()),((rd cr v8 (Int.toNat v3)).1,v5,(rd cr v8 (Int.toNat v3)).2.2,()),()),()))).bind fun r=>match r with
        | .inl y18=>
          some (0,())
        | .inr z19=>
          cond (decide (0≤z19.1.1)) (
           some (12,())) (
           some (0,())))) (
       none)) (
      cond (decide (v1=3)) (
       cond ((decide (0≤v3))&&(decide (v3<(v8.length:Int)))) (
        cond (decide ((rd cr v8 (Int.toNat v3)).2.2=0)) (
         some (12,())) (
         ((iter aI gP ((v7,(),(v7.length:Int),0,()),((v1,v2,v3,v4,v5,v6,v7,()),(v8,()),(0,0,0,()),()),()))).bind fun r=>match r with
         | .inl y20=>
           some (0,())
         | .inr z21=>
           cond (decide (0≤z21.1.1)) (
            some (12,())) (
            some (0,())))) (
        none)) (
       some (0,())))))))
noncomputable def f211 (v1 v2 v3 v4 v5 v6:Int)(v7:aR)(v8:aW):Option EJ:=
 ((iy v8)).bind fun y9=>
 ((f222 v1 v2 v3 v4 v5 v6 v7 v8)).bind fun y10=>
 cond (!(decide (y10.1=0))) (
  some (y9.1,y10.1,())) (
  cond (decide (v1=0)) (
   cond ((decide (((y9.1.length+1) * 24)≤140737488355328))&&(decide ((y9.1.length+1)≤9223372036854775807))) (
    some ((y9.1++[(v4,v5,v6)]),0,())) (
    none)) (
   cond (decide (v1=1)) (
    cond ((decide (0≤v3))&&(decide (v3<(y9.1.length:Int)))) (
     cond (decide ((Int.toNat v3)<y9.1.length)) (
      some ((y9.1.set (Int.toNat v3) ((rd cr y9.1 (Int.toNat v3)).1,(rd cr y9.1 (Int.toNat v3)).2.1,1)),0,())) (
      none)) (
     none)) (
    cond (decide (v1=2)) (
     cond ((decide (0≤v3))&&(decide (v3<(y9.1.length:Int)))) (
      cond (decide ((Int.toNat v3)<y9.1.length)) (
       some ((y9.1.set (Int.toNat v3) ((rd cr y9.1 (Int.toNat v3)).1,v5,(rd cr y9.1 (Int.toNat v3)).2.2)),0,())) (
       none)) (
      none)) (
     cond ((((decide (0≤v3))&&(decide (v3≤(IntKind.wrap .i64 (v3+1)))))&&(decide ((IntKind.wrap .i64 (v3+1))≤(y9.1.length:Int))))&&(decide ((0+(y9.1.length:Int))≤(y9.1.length:Int)))) (
      cond (decide (v3=(IntKind.wrap .i64 (v3+1)))) (
       some (y9.1,0,())) (
       cond ((decide (0≤v3))&&(decide ((0+v3)≤(y9.1.length:Int)))) (
        cond (((decide (0≤(IntKind.wrap .i64 (v3+1))))&&(decide ((IntKind.wrap .i64 (v3+1))≤(((y9.1.length-0):Nat):Int))))&&(decide ((0+(((y9.1.length-0):Nat):Int))≤(y9.1.length:Int)))) (
         cond (decide (((0+(Int.toNat v3))+(List.drop (0+(Int.toNat (IntKind.wrap .i64 (v3+1)))) (List.take (0+(Int.toNat (((y9.1.length-0):Nat):Int))) y9.1)).length)≤y9.1.length)) (
          cond (((decide (0≤(((((0+(Int.toNat v3))+(List.drop (0+(Int.toNat (IntKind.wrap .i64 (v3+1)))) (List.take (0+(Int.toNat (((y9.1.length-0):Nat):Int))) y9.1)).length)-0):Nat):Int)))&&(decide ((((((0+(Int.toNat v3))+(List.drop (0+(Int.toNat (IntKind.wrap .i64 (v3+1)))) (List.take (0+(Int.toNat (((y9.1.length-0):Nat):Int))) y9.1)).length)-0):Nat):Int)≤(y9.1.length:Int))))&&(decide ((0+(y9.1.length:Int))≤(((((List.take (0+(Int.toNat v3)) y9.1)++(List.drop (0+(Int.toNat (IntKind.wrap .i64 (v3+1)))) (List.take (0+(Int.toNat (((y9.1.length-0):Nat):Int))) y9.1)))++(List.drop ((0+(Int.toNat v3))+(List.drop (0+(Int.toNat (IntKind.wrap .i64 (v3+1)))) (List.take (0+(Int.toNat (((y9.1.length-0):Nat):Int))) y9.1)).length) y9.1)).length:Nat):Int)))) (
           some ((List.drop 0 (List.take ((0+(Int.toNat v3))+(List.drop (0+(Int.toNat (IntKind.wrap .i64 (v3+1)))) (List.take (0+(Int.toNat (((y9.1.length-0):Nat):Int))) y9.1)).length) (((List.take (0+(Int.toNat (((((0+(Int.toNat v3))+(List.drop (0+(Int.toNat (IntKind.wrap .i64 (v3+1)))) (List.take (0+(Int.toNat (((y9.1.length-0):Nat):Int))) y9.1)).length)-0):Nat):Int))) (((List.take (0+(Int.toNat v3)) y9.1)++(List.drop (0+(Int.toNat (IntKind.wrap .i64 (v3+1)))) (List.take (0+(Int.toNat (((y9.1.length-0):Nat):Int))) y9.1)))++(List.drop ((0+(Int.toNat v3))+(List.drop (0+(Int.toNat (IntKind.wrap .i64 (v3+1)))) (List.take (0+(Int.toNat (((y9.1.length-0):Nat):Int))) y9.1)).length) y9.1)))++(List.replicate ((0+(Int.toNat (y9.1.length:Int)))-(0+(Int.toNat (((((0+(Int.toNat v3))+(List.drop (0+(Int.toNat (IntKind.wrap .i64 (v3+1)))) (List.take (0+(Int.toNat (((y9.1.length-0):Nat):Int))) y9.1)).length)-0):Nat):Int)))) (0,0,0)))++(List.drop ((0+(Int.toNat (((((0+(Int.toNat v3))+(List.drop (0+(Int.toNat (IntKind.wrap .i64 (v3+1)))) (List.take (0+(Int.toNat (((y9.1.length-0):Nat):Int))) y9.1)).length)-0):Nat):Int)))+((0+(Int.toNat (y9.1.length:Int)))-(0+(Int.toNat (((((0+(Int.toNat v3))+(List.drop (0+(Int.toNat (IntKind.wrap .i64 (v3+1)))) (List.take (0+(Int.toNat (((y9.1.length-0):Nat):Int))) y9.1)).length)-0):Nat):Int))))) (((List.take (0+(Int.toNat v3)) y9.1)++(List.drop (0+(Int.toNat (IntKind.wrap .i64 (v3+1)))) (List.take (0+(Int.toNat (((y9.1.length-0):Nat):Int))) y9.1)))++(List.drop ((0+(Int.toNat v3))+(List.drop (0+(Int.toNat (IntKind.wrap .i64 (v3+1)))) (List.take (0+(Int.toNat (((y9.1.length-0):Nat):Int))) y9.1)).length) y9.1)))))),0,())) (
           none)) (
          none)) (
         none)) (
        none))) (
      none)))))
noncomputable def f197 (v1:aW)(v2 v3 v4:Int):Option EJ:=
 ((f211 0 v2 0 v3 v4 0 [] v1)).bind fun y5=>
 some (y5.1,y5.2.1,())
noncomputable def f198 (v1:aW)(v2 v3:Int):Option EJ:=
 ((f211 1 v2 v3 0 0 0 [] v1)).bind fun y4=>
 some (y4.1,y4.2.1,())
noncomputable def f199 (v1:aW)(v2 v3 v4:Int)(v5:aR):Option EJ:=
 ((f211 2 v2 v3 0 v4 0 v5 v1)).bind fun y6=>
 some (y6.1,y6.2.1,())
noncomputable def f200 (v1:aW)(v2 v3:Int)(v4:aR):Option EJ:=
 ((f211 3 v2 v3 0 0 0 v4 v1)).bind fun y5=>
 some (y5.1,y5.2.1,())
noncomputable def f129 (v1 v2 v3 v4 v5 v6 v7 v8 v9 v10 v11:Int)(v12:Bool)(v13:Int)(v14:aW)(v15:bn)(v16:aW)(v17 v18 v19 v20 v21 v22 v23 v24:Int)(v25:Bool):Option (K4×Int×Unit):=
 ((f78 v1 v2 v3 v4 v5 v6 v7 v8 v9 v10 v11 v12 v13 v14 v15 v16)).bind fun y26=>
 cond (!y26.1) (
  ((f128 v1 v2 v3 v4 v5 v6 v7 v8 v9 v10 v11 v12 v13 v14 v15 v16)).bind fun y27=>
  some ((((y27.1.1.1.1,y27.1.1.1.2),(y27.1.1.2.1.1,y27.1.1.2.1.2),y27.1.1.2.2.1,y27.1.1.2.2.2.1,y27.1.1.2.2.2.2.1,y27.1.1.2.2.2.2.2),(y27.1.2.1.1,y27.1.2.1.2.1,y27.1.2.1.2.2.1,y27.1.2.1.2.2.2),y27.1.2.2.1,y27.1.2.2.2.1,y27.1.2.2.2.2.1,y27.1.2.2.2.2.2),1,())) (
  ((f84 v17 v18 v19 v20 v21 v22 v23 v24 v25)).bind fun y28=>
  cond (!y28.1) (
   ((f128 v1 v2 v3 v4 v5 v6 v7 v8 v9 v10 v11 v12 v13 v14 v15 v16)).bind fun y29=>
   some ((((y29.1.1.1.1,y29.1.1.1.2),(y29.1.1.2.1.1,y29.1.1.2.1.2),y29.1.1.2.2.1,y29.1.1.2.2.2.1,y29.1.1.2.2.2.2.1,y29.1.1.2.2.2.2.2),(y29.1.2.1.1,y29.1.2.1.2.1,y29.1.2.1.2.2.1,y29.1.2.1.2.2.2),y29.1.2.2.1,y29.1.2.2.2.1,y29.1.2.2.2.2.1,y29.1.2.2.2.2.2),1,())) (
   ((f169 v1 v2 v3 v4 v5 v6 v7 v8 v9 v10 v11 v12 v13 v14 v15 v16 v18)).bind fun y30=>
   cond (!y30.2.1) (
    ((f128 v1 v2 v3 v4 v5 v6 v7 v8 v9 v10 v11 v12 v13 v14 v15 v16)).bind fun y31=>
    some ((((y31.1.1.1.1,y31.1.1.1.2),(y31.1.1.2.1.1,y31.1.1.2.1.2),y31.1.1.2.2.1,y31.1.1.2.2.2.1,y31.1.1.2.2.2.2.1,y31.1.1.2.2.2.2.2),(y31.1.2.1.1,y31.1.2.1.2.1,y31.1.2.1.2.2.1,y31.1.2.1.2.2.2),y31.1.2.2.1,y31.1.2.2.2.1,y31.1.2.2.2.2.1,y31.1.2.2.2.2.2),10,())) (
    cond (decide (v17=0)) (
     ((f193 y30.1.2.2.2.2.1 v19 v20 v21 v18 v18)).bind fun y32=>
     cond (!y32.2.1) (
      ((f128 v1 v2 v3 v4 v5 v6 v7 v8 v9 v10 v11 v12 v13 v14 v15 v16)).bind fun y33=>
      some ((((y33.1.1.1.1,y33.1.1.1.2),(y33.1.1.2.1.1,y33.1.1.2.1.2),y33.1.1.2.2.1,y33.1.1.2.2.2.1,y33.1.1.2.2.2.2.1,y33.1.1.2.2.2.2.2),(y33.1.2.1.1,y33.1.2.1.2.1,y33.1.2.1.2.2.1,y33.1.2.1.2.2.2),y33.1.2.2.1,y33.1.2.2.2.1,y33.1.2.2.2.2.1,y33.1.2.2.2.2.2),2,())) (
      ((f78 y30.1.1.1.1 y30.1.1.1.2 y30.1.1.2.1.1 y30.1.1.2.1.2 y30.1.1.2.2.1 y30.1.1.2.2.2.1 y30.1.1.2.2.2.2.1 y30.1.1.2.2.2.2.2 y30.1.2.1.1 y30.1.2.1.2.1 y30.1.2.1.2.2.1 y30.1.2.1.2.2.2 y30.1.2.2.1 y30.1.2.2.2.1 y32.1 y30.1.2.2.2.2.2)).bind fun y34=>
      cond (!y34.1) (
       ((f128 v1 v2 v3 v4 v5 v6 v7 v8 v9 v10 v11 v12 v13 v14 v15 v16)).bind fun y35=>
       some ((((y35.1.1.1.1,y35.1.1.1.2),(y35.1.1.2.1.1,y35.1.1.2.1.2),y35.1.1.2.2.1,y35.1.1.2.2.2.1,y35.1.1.2.2.2.2.1,y35.1.1.2.2.2.2.2),(y35.1.2.1.1,y35.1.2.1.2.1,y35.1.2.1.2.2.1,y35.1.2.1.2.2.2),y35.1.2.2.1,y35.1.2.2.2.1,y35.1.2.2.2.2.1,y35.1.2.2.2.2.2),2,())) (
       some ((((y30.1.1.1.1,y30.1.1.1.2),(y30.1.1.2.1.1,y30.1.1.2.1.2),y30.1.1.2.2.1,y30.1.1.2.2.2.1,y30.1.1.2.2.2.2.1,y30.1.1.2.2.2.2.2),(y30.1.2.1.1,y30.1.2.1.2.1,y30.1.2.1.2.2.1,y30.1.2.1.2.2.2),y30.1.2.2.1,y30.1.2.2.2.1,y32.1,y30.1.2.2.2.2.2),0,())))) (
     cond (decide (v17=1)) (
      ((f151 y30.1.2.2.2.2.1 v20 v21)).bind fun y36=>
      cond (decide (y36.1=(-1))) (
       ((f128 v1 v2 v3 v4 v5 v6 v7 v8 v9 v10 v11 v12 v13 v14 v15 v16)).bind fun y37=>
       some ((((y37.1.1.1.1,y37.1.1.1.2),(y37.1.1.2.1.1,y37.1.1.2.1.2),y37.1.1.2.2.1,y37.1.1.2.2.2.1,y37.1.1.2.2.2.2.1,y37.1.1.2.2.2.2.2),(y37.1.2.1.1,y37.1.2.1.2.1,y37.1.2.1.2.2.1,y37.1.2.1.2.2.2),y37.1.2.2.1,y37.1.2.2.2.1,y37.1.2.2.2.2.1,y37.1.2.2.2.2.2),2,())) (
       cond ((decide (0≤y36.1))&&(decide (y36.1<(y30.1.2.2.2.2.1.length:Int)))) (
        cond (!(decide ((rd aX y30.1.2.2.2.2.1 (Int.toNat y36.1)).1=v19))) (
         ((f128 v1 v2 v3 v4 v5 v6 v7 v8 v9 v10 v11 v12 v13 v14 v15 v16)).bind fun y38=>
         some ((((y38.1.1.1.1,y38.1.1.1.2),(y38.1.1.2.1.1,y38.1.1.2.1.2),y38.1.1.2.2.1,y38.1.1.2.2.2.1,y38.1.1.2.2.2.2.1,y38.1.1.2.2.2.2.2),(y38.1.2.1.1,y38.1.2.1.2.1,y38.1.2.1.2.2.1,y38.1.2.1.2.2.2),y38.1.2.2.1,y38.1.2.2.2.1,y38.1.2.2.2.2.1,y38.1.2.2.2.2.2),2,())) (
         ((f194 y30.1.2.2.2.2.1 v20 v21)).bind fun y39=>
         cond (decide (0<y30.1.2.1.2.2.1)) (
          ((f195 y30.1.2.2.2.2.2 v20 v21 (IntKind.wrap .i64 (v18+y30.1.2.1.2.2.1)))).bind fun y40=>
          ((f78 y30.1.1.1.1 y30.1.1.1.2 y30.1.1.2.1.1 y30.1.1.2.1.2 y30.1.1.2.2.1 y30.1.1.2.2.2.1 y30.1.1.2.2.2.2.1 y30.1.1.2.2.2.2.2 y30.1.2.1.1 y30.1.2.1.2.1 y30.1.2.1.2.2.1 y30.1.2.1.2.2.2 y30.1.2.2.1 y30.1.2.2.2.1 y39.1 y40.1)).bind fun y41=>
          cond (!y41.1) (
           ((f128 v1 v2 v3 v4 v5 v6 v7 v8 v9 v10 v11 v12 v13 v14 v15 v16)).bind fun y42=>
           some ((((y42.1.1.1.1,y42.1.1.1.2),(y42.1.1.2.1.1,y42.1.1.2.1.2),y42.1.1.2.2.1,y42.1.1.2.2.2.1,y42.1.1.2.2.2.2.1,y42.1.1.2.2.2.2.2),(y42.1.2.1.1,y42.1.2.1.2.1,y42.1.2.1.2.2.1,y42.1.2.1.2.2.2),y42.1.2.2.1,y42.1.2.2.2.1,y42.1.2.2.2.2.1,y42.1.2.2.2.2.2),2,())) (
           some ((((y30.1.1.1.1,y30.1.1.1.2),(y30.1.1.2.1.1,y30.1.1.2.1.2),y30.1.1.2.2.1,y30.1.1.2.2.2.1,y30.1.1.2.2.2.2.1,y30.1.1.2.2.2.2.2),(y30.1.2.1.1,y30.1.2.1.2.1,y30.1.2.1.2.2.1,y30.1.2.1.2.2.2),y30.1.2.2.1,y30.1.2.2.2.1,y39.1,y40.1),0,()))) (
          ((f78 y30.1.1.1.1 y30.1.1.1.2 y30.1.1.2.1.1 y30.1.1.2.1.2 y30.1.1.2.2.1 y30.1.1.2.2.2.1 y30.1.1.2.2.2.2.1 y30.1.1.2.2.2.2.2 y30.1.2.1.1 y30.1.2.1.2.1 y30.1.2.1.2.2.1 y30.1.2.1.2.2.2 y30.1.2.2.1 y30.1.2.2.2.1 y39.1 y30.1.2.2.2.2.2)).bind fun y43=>
          cond (!y43.1) (
           ((f128 v1 v2 v3 v4 v5 v6 v7 v8 v9 v10 v11 v12 v13 v14 v15 v16)).bind fun y44=>
           some ((((y44.1.1.1.1,y44.1.1.1.2),(y44.1.1.2.1.1,y44.1.1.2.1.2),y44.1.1.2.2.1,y44.1.1.2.2.2.1,y44.1.1.2.2.2.2.1,y44.1.1.2.2.2.2.2),(y44.1.2.1.1,y44.1.2.1.2.1,y44.1.2.1.2.2.1,y44.1.2.1.2.2.2),y44.1.2.2.1,y44.1.2.2.2.1,y44.1.2.2.2.2.1,y44.1.2.2.2.2.2),2,())) (
           some ((((y30.1.1.1.1,y30.1.1.1.2),(y30.1.1.2.1.1,y30.1.1.2.1.2),y30.1.1.2.2.1,y30.1.1.2.2.2.1,y30.1.1.2.2.2.2.1,y30.1.1.2.2.2.2.2),(y30.1.2.1.1,y30.1.2.1.2.1,y30.1.2.1.2.2.1,y30.1.2.1.2.2.2),y30.1.2.2.1,y30.1.2.2.2.1,y39.1,y30.1.2.2.2.2.2),0,()))))) (
        none))) (
      cond (decide (v17=6)) (
       ((f78 y30.1.1.1.1 y30.1.1.1.2 y30.1.1.2.1.1 y30.1.1.2.1.2 y30.1.1.2.2.1 y30.1.1.2.2.2.1 y30.1.1.2.2.2.2.1 y30.1.1.2.2.2.2.2 v22 v23 v24 v25 y30.1.2.2.1 y30.1.2.2.2.1 y30.1.2.2.2.2.1 y30.1.2.2.2.2.2)).bind fun y45=>
       cond (!y45.1) (
        ((f128 v1 v2 v3 v4 v5 v6 v7 v8 v9 v10 v11 v12 v13 v14 v15 v16)).bind fun y46=>
        some ((((y46.1.1.1.1,y46.1.1.1.2),(y46.1.1.2.1.1,y46.1.1.2.1.2),y46.1.1.2.2.1,y46.1.1.2.2.2.1,y46.1.1.2.2.2.2.1,y46.1.1.2.2.2.2.2),(y46.1.2.1.1,y46.1.2.1.2.1,y46.1.2.1.2.2.1,y46.1.2.1.2.2.2),y46.1.2.2.1,y46.1.2.2.2.1,y46.1.2.2.2.2.1,y46.1.2.2.2.2.2),2,())) (
        some ((((y30.1.1.1.1,y30.1.1.1.2),(y30.1.1.2.1.1,y30.1.1.2.1.2),y30.1.1.2.2.1,y30.1.1.2.2.2.1,y30.1.1.2.2.2.2.1,y30.1.1.2.2.2.2.2),(v22,v23,v24,v25),y30.1.2.2.1,y30.1.2.2.2.1,y30.1.2.2.2.2.1,y30.1.2.2.2.2.2),0,()))) (
       ((f29 y30.1.1.2.1.1 y30.1.1.2.1.2)).bind fun y47=>
       ((f196 y30.1.2.2.2.2.1)).bind fun y48=>
       cond (decide (v17=2)) (
        ((f197 y30.1.2.2.2.1 y47.1 v19 v20)).bind fun y49=>
        cond (!(decide (y49.2.1=0))) (
         ((f128 v1 v2 v3 v4 v5 v6 v7 v8 v9 v10 v11 v12 v13 v14 v15 v16)).bind fun y50=>
         some ((((y50.1.1.1.1,y50.1.1.1.2),(y50.1.1.2.1.1,y50.1.1.2.1.2),y50.1.1.2.2.1,y50.1.1.2.2.2.1,y50.1.1.2.2.2.2.1,y50.1.1.2.2.2.2.2),(y50.1.2.1.1,y50.1.2.1.2.1,y50.1.2.1.2.2.1,y50.1.2.1.2.2.2),y50.1.2.2.1,y50.1.2.2.2.1,y50.1.2.2.2.2.1,y50.1.2.2.2.2.2),2,())) (
         ((f78 y30.1.1.1.1 y30.1.1.1.2 y30.1.1.2.1.1 y30.1.1.2.1.2 y30.1.1.2.2.1 y30.1.1.2.2.2.1 y30.1.1.2.2.2.2.1 y30.1.1.2.2.2.2.2 y30.1.2.1.1 y30.1.2.1.2.1 y30.1.2.1.2.2.1 y30.1.2.1.2.2.2 y30.1.2.2.1 y49.1 y30.1.2.2.2.2.1 y30.1.2.2.2.2.2)).bind fun y51=>
         cond (!y51.1) (
          ((f128 v1 v2 v3 v4 v5 v6 v7 v8 v9 v10 v11 v12 v13 v14 v15 v16)).bind fun y52=>
          some ((((y52.1.1.1.1,y52.1.1.1.2),(y52.1.1.2.1.1,y52.1.1.2.1.2),y52.1.1.2.2.1,y52.1.1.2.2.2.1,y52.1.1.2.2.2.2.1,y52.1.1.2.2.2.2.2),(y52.1.2.1.1,y52.1.2.1.2.1,y52.1.2.1.2.2.1,y52.1.2.1.2.2.2),y52.1.2.2.1,y52.1.2.2.2.1,y52.1.2.2.2.2.1,y52.1.2.2.2.2.2),2,())) (
          some ((((y30.1.1.1.1,y30.1.1.1.2),(y30.1.1.2.1.1,y30.1.1.2.1.2),y30.1.1.2.2.1,y30.1.1.2.2.2.1,y30.1.1.2.2.2.2.1,y30.1.1.2.2.2.2.2),(y30.1.2.1.1,y30.1.2.1.2.1,y30.1.2.1.2.2.1,y30.1.2.1.2.2.2),y30.1.2.2.1,y49.1,y30.1.2.2.2.2.1,y30.1.2.2.2.2.2),0,())))) (
        cond (decide (v17=3)) (
         ((f198 y30.1.2.2.2.1 y47.1 v19)).bind fun y53=>
         cond (!(decide (y53.2.1=0))) (
          ((f128 v1 v2 v3 v4 v5 v6 v7 v8 v9 v10 v11 v12 v13 v14 v15 v16)).bind fun y54=>
          some ((((y54.1.1.1.1,y54.1.1.1.2),(y54.1.1.2.1.1,y54.1.1.2.1.2),y54.1.1.2.2.1,y54.1.1.2.2.2.1,y54.1.1.2.2.2.2.1,y54.1.1.2.2.2.2.2),(y54.1.2.1.1,y54.1.2.1.2.1,y54.1.2.1.2.2.1,y54.1.2.1.2.2.2),y54.1.2.2.1,y54.1.2.2.2.1,y54.1.2.2.2.2.1,y54.1.2.2.2.2.2),2,())) (
          ((f78 y30.1.1.1.1 y30.1.1.1.2 y30.1.1.2.1.1 y30.1.1.2.1.2 y30.1.1.2.2.1 y30.1.1.2.2.2.1 y30.1.1.2.2.2.2.1 y30.1.1.2.2.2.2.2 y30.1.2.1.1 y30.1.2.1.2.1 y30.1.2.1.2.2.1 y30.1.2.1.2.2.2 y30.1.2.2.1 y53.1 y30.1.2.2.2.2.1 y30.1.2.2.2.2.2)).bind fun y55=>
          cond (!y55.1) (
           ((f128 v1 v2 v3 v4 v5 v6 v7 v8 v9 v10 v11 v12 v13 v14 v15 v16)).bind fun y56=>
           some ((((y56.1.1.1.1,y56.1.1.1.2),(y56.1.1.2.1.1,y56.1.1.2.1.2),y56.1.1.2.2.1,y56.1.1.2.2.2.1,y56.1.1.2.2.2.2.1,y56.1.1.2.2.2.2.2),(y56.1.2.1.1,y56.1.2.1.2.1,y56.1.2.1.2.2.1,y56.1.2.1.2.2.2),y56.1.2.2.1,y56.1.2.2.2.1,y56.1.2.2.2.2.1,y56.1.2.2.2.2.2),2,())) (
           some ((((y30.1.1.1.1,y30.1.1.1.2),(y30.1.1.2.1.1,y30.1.1.2.1.2),y30.1.1.2.2.1,y30.1.1.2.2.2.1,y30.1.1.2.2.2.2.1,y30.1.1.2.2.2.2.2),(y30.1.2.1.1,y30.1.2.1.2.1,y30.1.2.1.2.2.1,y30.1.2.1.2.2.2),y30.1.2.2.1,y53.1,y30.1.2.2.2.2.1,y30.1.2.2.2.2.2),0,())))) (
         cond (decide (v17=4)) (
          ((f199 y30.1.2.2.2.1 y47.1 v19 v20 y48.1)).bind fun y57=>
          cond (!(decide (y57.2.1=0))) (
           ((f128 v1 v2 v3 v4 v5 v6 v7 v8 v9 v10 v11 v12 v13 v14 v15 v16)).bind fun y58=>
           some ((((y58.1.1.1.1,y58.1.1.1.2),(y58.1.1.2.1.1,y58.1.1.2.1.2),y58.1.1.2.2.1,y58.1.1.2.2.2.1,y58.1.1.2.2.2.2.1,y58.1.1.2.2.2.2.2),(y58.1.2.1.1,y58.1.2.1.2.1,y58.1.2.1.2.2.1,y58.1.2.1.2.2.2),y58.1.2.2.1,y58.1.2.2.2.1,y58.1.2.2.2.2.1,y58.1.2.2.2.2.2),2,())) (
           ((f78 y30.1.1.1.1 y30.1.1.1.2 y30.1.1.2.1.1 y30.1.1.2.1.2 y30.1.1.2.2.1 y30.1.1.2.2.2.1 y30.1.1.2.2.2.2.1 y30.1.1.2.2.2.2.2 y30.1.2.1.1 y30.1.2.1.2.1 y30.1.2.1.2.2.1 y30.1.2.1.2.2.2 y30.1.2.2.1 y57.1 y30.1.2.2.2.2.1 y30.1.2.2.2.2.2)).bind fun y59=>
           cond (!y59.1) (
            ((f128 v1 v2 v3 v4 v5 v6 v7 v8 v9 v10 v11 v12 v13 v14 v15 v16)).bind fun y60=>
            some ((((y60.1.1.1.1,y60.1.1.1.2),(y60.1.1.2.1.1,y60.1.1.2.1.2),y60.1.1.2.2.1,y60.1.1.2.2.2.1,y60.1.1.2.2.2.2.1,y60.1.1.2.2.2.2.2),(y60.1.2.1.1,y60.1.2.1.2.1,y60.1.2.1.2.2.1,y60.1.2.1.2.2.2),y60.1.2.2.1,y60.1.2.2.2.1,y60.1.2.2.2.2.1,y60.1.2.2.2.2.2),2,())) (
            some ((((y30.1.1.1.1,y30.1.1.1.2),(y30.1.1.2.1.1,y30.1.1.2.1.2),y30.1.1.2.2.1,y30.1.1.2.2.2.1,y30.1.1.2.2.2.2.1,y30.1.1.2.2.2.2.2),(y30.1.2.1.1,y30.1.2.1.2.1,y30.1.2.1.2.2.1,y30.1.2.1.2.2.2),y30.1.2.2.1,y57.1,y30.1.2.2.2.2.1,y30.1.2.2.2.2.2),0,())))) (
          ((f200 y30.1.2.2.2.1 y47.1 v19 y48.1)).bind fun y61=>
          cond (!(decide (y61.2.1=0))) (
           ((f128 v1 v2 v3 v4 v5 v6 v7 v8 v9 v10 v11 v12 v13 v14 v15 v16)).bind fun y62=>
           some ((((y62.1.1.1.1,y62.1.1.1.2),(y62.1.1.2.1.1,y62.1.1.2.1.2),y62.1.1.2.2.1,y62.1.1.2.2.2.1,y62.1.1.2.2.2.2.1,y62.1.1.2.2.2.2.2),(y62.1.2.1.1,y62.1.2.1.2.1,y62.1.2.1.2.2.1,y62.1.2.1.2.2.2),y62.1.2.2.1,y62.1.2.2.2.1,y62.1.2.2.2.2.1,y62.1.2.2.2.2.2),2,())) (
           ((f78 y30.1.1.1.1 y30.1.1.1.2 y30.1.1.2.1.1 y30.1.1.2.1.2 y30.1.1.2.2.1 y30.1.1.2.2.2.1 y30.1.1.2.2.2.2.1 y30.1.1.2.2.2.2.2 y30.1.2.1.1 y30.1.2.1.2.1 y30.1.2.1.2.2.1 y30.1.2.1.2.2.2 y30.1.2.2.1 y61.1 y30.1.2.2.2.2.1 y30.1.2.2.2.2.2)).bind fun y63=>
           cond (!y63.1) (
            ((f128 v1 v2 v3 v4 v5 v6 v7 v8 v9 v10 v11 v12 v13 v14 v15 v16)).bind fun y64=>
            some ((((y64.1.1.1.1,y64.1.1.1.2),(y64.1.1.2.1.1,y64.1.1.2.1.2),y64.1.1.2.2.1,y64.1.1.2.2.2.1,y64.1.1.2.2.2.2.1,y64.1.1.2.2.2.2.2),(y64.1.2.1.1,y64.1.2.1.2.1,y64.1.2.1.2.2.1,y64.1.2.1.2.2.2),y64.1.2.2.1,y64.1.2.2.2.1,y64.1.2.2.2.2.1,y64.1.2.2.2.2.2),2,())) (
            some ((((y30.1.1.1.1,y30.1.1.1.2),(y30.1.1.2.1.1,y30.1.1.2.1.2),y30.1.1.2.2.1,y30.1.1.2.2.2.1,y30.1.1.2.2.2.2.1,y30.1.1.2.2.2.2.2),(y30.1.2.1.1,y30.1.2.1.2.1,y30.1.2.1.2.2.1,y30.1.2.1.2.2.2),y30.1.2.2.1,y61.1,y30.1.2.2.2.2.1,y30.1.2.2.2.2.2),0,()))))))))))))
abbrev IJ:Type:=(Unit×Unit×Unit×Int×uX×Int×Int×Unit)×(Eb×Rm×Eb×Unit)×aW×bn×aW×Unit
abbrev Nl:Type:=(Unit×Unit×Unit×Int×Unit)×(Eb×Rm×Eb×Unit)×aW×bn×aW×Unit
abbrev Ms:Type:=Unit×Unit×Unit
noncomputable def TI (v1:Int)(v2:uX)(v3 v4 v5 v6 v7 v8 v9 v10 v11 v12 v13 v14 v15:Int)(v16:Bool)(v17:Int)(v18:aW)(v19:bn)(v20:aW)(v21 v22 v23 v24 v25 v26 v27 v28 v29 v30 v31:Int)(v32:Bool)(v33 v34 v35 v36 v37 v38 v39 v40 v41 v42 v43 v44:Int)(v45:Bool)(v46:Int)(v47:aW)(v48:bn)(v49 v50:aW)(v51:bn)(v52:aW):Option (R3 IJ Nl Ms):=
 cond (decide (v4<v3)) (
  cond ((decide (0≤v4))&&(decide (v4<(v2.length:Int)))) (
   ((f129 v34 v35 v36 v37 v38 v39 v40 v41 v42 v43 v44 v45 v46 v47 v48 v49 (rd b8 v2 (Int.toNat v4)).1 (rd b8 v2 (Int.toNat v4)).2.1 (rd b8 v2 (Int.toNat v4)).2.2.1 (rd b8 v2 (Int.toNat v4)).2.2.2.1 (rd b8 v2 (Int.toNat v4)).2.2.2.2.1 (rd b8 v2 (Int.toNat v4)).2.2.2.2.2.1 (rd b8 v2 (Int.toNat v4)).2.2.2.2.2.2.1 (rd b8 v2 (Int.toNat v4)).2.2.2.2.2.2.2.1 (rd b8 v2 (Int.toNat v4)).2.2.2.2.2.2.2.2)).bind fun y53=>
   cond (!(decide (y53.2.1=0))) (
    some (R3.out (((),(),(),y53.2.1,()),((v5,v6,v7,v8,v9,v10,v11,v12,v13,v14,v15,v16,v17,v18,v19,v20,()),(v21,v22,v23,v24,v25,v26,v27,v28,v29,v30,v31,v32,v33,(),(),(),()),(y53.1.1.1.1,y53.1.1.1.2,y53.1.1.2.1.1,y53.1.1.2.1.2,y53.1.1.2.2.1,y53.1.1.2.2.2.1,y53.1.1.2.2.2.2.1,y53.1.1.2.2.2.2.2,y53.1.2.1.1,y53.1.2.1.2.1,y53.1.2.1.2.2.1,y53.1.2.1.2.2.2,y53.1.2.2.1,y53.1.2.2.2.1,y53.1.2.2.2.2.1,y53.1.2.2.2.2.2,()),()),v50,v51,v52,()))) (
    some (R3.next (((),(),(),y53.2.1,v2,v3,(IntKind.wrap .i64 (v4+1)),()),((v5,v6,v7,v8,v9,v10,v11,v12,v13,v14,v15,v16,v17,v18,v19,v20,()),(v21,v22,v23,v24,v25,v26,v27,v28,v29,v30,v31,v32,v33,(),(),(),()),(y53.1.1.1.1,y53.1.1.1.2,y53.1.1.2.1.1,y53.1.1.2.1.2,y53.1.1.2.2.1,y53.1.1.2.2.2.1,y53.1.1.2.2.2.2.1,y53.1.1.2.2.2.2.2,y53.1.2.1.1,y53.1.2.1.2.1,y53.1.2.1.2.2.1,y53.1.2.1.2.2.2,y53.1.2.2.1,y53.1.2.2.2.1,y53.1.2.2.2.2.1,y53.1.2.2.2.2.2,()),()),v50,v51,v52,())))) (
   none)) (
  some (R3.out (((),(),(),v1,()),((v5,v6,v7,v8,v9,v10,v11,v12,v13,v14,v15,v16,v17,v18,v19,v20,()),(v21,v22,v23,v24,v25,v26,v27,v28,v29,v30,v31,v32,v33,(),(),(),()),(v34,v35,v36,v37,v38,v39,v40,v41,v42,v43,v44,v45,v46,v47,v48,v49,()),()),v50,v51,v52,())))
noncomputable def M0 (z:IJ):Option (R3 IJ Nl Ms):=TI z.1.2.2.2.1 z.1.2.2.2.2.1 z.1.2.2.2.2.2.1 z.1.2.2.2.2.2.2.1 z.2.1.1.1 z.2.1.1.2.1 z.2.1.1.2.2.1 z.2.1.1.2.2.2.1 z.2.1.1.2.2.2.2.1 z.2.1.1.2.2.2.2.2.1 z.2.1.1.2.2.2.2.2.2.1 z.2.1.1.2.2.2.2.2.2.2.1 z.2.1.1.2.2.2.2.2.2.2.2.1 z.2.1.1.2.2.2.2.2.2.2.2.2.1 z.2.1.1.2.2.2.2.2.2.2.2.2.2.1 z.2.1.1.2.2.2.2.2.2.2.2.2.2.2.1 z.2.1.1.2.2.2.2.2.2.2.2.2.2.2.2.1 z.2.1.1.2.2.2.2.2.2.2.2.2.2.2.2.2.1 z.2.1.1.2.2.2.2.2.2.2.2.2.2.2.2.2.2.1 z.2.1.1.2.2.2.2.2.2.2.2.2.2.2.2.2.2.2.1 z.2.1.2.1.1 z.2.1.2.1.2.1 z.2.1.2.1.2.2.1 z.2.1.2.1.2.2.2.1 z.2.1.2.1.2.2.2.2.1 z.2.1.2.1.2.2.2.2.2.1 z.2.1.2.1.2.2.2.2.2.2.1 z.2.1.2.1.2.2.2.2.2.2.2.1 z.2.1.2.1.2.2.2.2.2.2.2.2.1 z.2.1.2.1.2.2.2.2.2.2.2.2.2.1 z.2.1.2.1.2.2.2.2.2.2.2.2.2.2.1 z.2.1.2.1.2.2.2.2.2.2.2.2.2.2.2.1 z.2.1.2.1.2.2.2.2.2.2.2.2.2.2.2.2.1 z.2.1.2.2.1.1 z.2.1.2.2.1.2.1 z.2.1.2.2.1.2.2.1 z.2.1.2.2.1.2.2.2.1 z.2.1.2.2.1.2.2.2.2.1 z.2.1.2.2.1.2.2.2.2.2.1 z.2.1.2.2.1.2.2.2.2.2.2.1 z.2.1.2.2.1.2.2.2.2.2.2.2.1 z.2.1.2.2.1.2.2.2.2.2.2.2.2.1 z.2.1.2.2.1.2.2.2.2.2.2.2.2.2.1 z.2.1.2.2.1.2.2.2.2.2.2.2.2.2.2.1 z.2.1.2.2.1.2.2.2.2.2.2.2.2.2.2.2.1 z.2.1.2.2.1.2.2.2.2.2.2.2.2.2.2.2.2.1 z.2.1.2.2.1.2.2.2.2.2.2.2.2.2.2.2.2.2.1 z.2.1.2.2.1.2.2.2.2.2.2.2.2.2.2.2.2.2.2.1 z.2.1.2.2.1.2.2.2.2.2.2.2.2.2.2.2.2.2.2.2.1 z.2.2.1 z.2.2.2.1 z.2.2.2.2.1
noncomputable def f94 (v1 v2 v3 v4 v5 v6 v7 v8 v9 v10 v11:Int)(v12:Bool)(v13:Int)(v14:aW)(v15:bn)(v16:aW)(v17:uX):Option (K4×Int×Unit):=
 ((f128 v1 v2 v3 v4 v5 v6 v7 v8 v9 v10 v11 v12 v13 v14 v15 v16)).bind fun y18=>
 ((iter aI M0 (((),(),(),0,v17,(v17.length:Int),0,()),((v1,v2,v3,v4,v5,v6,v7,v8,v9,v10,v11,v12,v13,v14,v15,v16,()),(0,0,0,0,0,0,0,0,0,0,0,false,0,(),(),(),()),(y18.1.1.1.1,y18.1.1.1.2,y18.1.1.2.1.1,y18.1.1.2.1.2,y18.1.1.2.2.1,y18.1.1.2.2.2.1,y18.1.1.2.2.2.2.1,y18.1.1.2.2.2.2.2,y18.1.2.1.1,y18.1.2.1.2.1,y18.1.2.1.2.2.1,y18.1.2.1.2.2.2,y18.1.2.2.1,y18.1.2.2.2.1,y18.1.2.2.2.2.1,y18.1.2.2.2.2.2,()),()),[],[],[],()))).bind fun r=>match r with
 | .inl y19=>
   cond (!(decide (y19.1.2.2.2.1=0))) (
    ((f128 y19.2.1.1.1 y19.2.1.1.2.1 y19.2.1.1.2.2.1 y19.2.1.1.2.2.2.1 y19.2.1.1.2.2.2.2.1 y19.2.1.1.2.2.2.2.2.1 y19.2.1.1.2.2.2.2.2.2.1 y19.2.1.1.2.2.2.2.2.2.2.1 y19.2.1.1.2.2.2.2.2.2.2.2.1 y19.2.1.1.2.2.2.2.2.2.2.2.2.1 y19.2.1.1.2.2.2.2.2.2.2.2.2.2.1 y19.2.1.1.2.2.2.2.2.2.2.2.2.2.2.1 y19.2.1.1.2.2.2.2.2.2.2.2.2.2.2.2.1 y19.2.1.1.2.2.2.2.2.2.2.2.2.2.2.2.2.1 y19.2.1.1.2.2.2.2.2.2.2.2.2.2.2.2.2.2.1 y19.2.1.1.2.2.2.2.2.2.2.2.2.2.2.2.2.2.2.1)).bind fun y21=>
    some ((((y21.1.1.1.1,y21.1.1.1.2),(y21.1.1.2.1.1,y21.1.1.2.1.2),y21.1.1.2.2.1,y21.1.1.2.2.2.1,y21.1.1.2.2.2.2.1,y21.1.1.2.2.2.2.2),(y21.1.2.1.1,y21.1.2.1.2.1,y21.1.2.1.2.2.1,y21.1.2.1.2.2.2),y21.1.2.2.1,y21.1.2.2.2.1,y21.1.2.2.2.2.1,y21.1.2.2.2.2.2),y19.1.2.2.2.1,())) (
    some ((((y19.2.1.2.2.1.1,y19.2.1.2.2.1.2.1),(y19.2.1.2.2.1.2.2.1,y19.2.1.2.2.1.2.2.2.1),y19.2.1.2.2.1.2.2.2.2.1,y19.2.1.2.2.1.2.2.2.2.2.1,y19.2.1.2.2.1.2.2.2.2.2.2.1,y19.2.1.2.2.1.2.2.2.2.2.2.2.1),(y19.2.1.2.2.1.2.2.2.2.2.2.2.2.1,y19.2.1.2.2.1.2.2.2.2.2.2.2.2.2.1,y19.2.1.2.2.1.2.2.2.2.2.2.2.2.2.2.1,y19.2.1.2.2.1.2.2.2.2.2.2.2.2.2.2.2.1),y19.2.1.2.2.1.2.2.2.2.2.2.2.2.2.2.2.2.1,y19.2.1.2.2.1.2.2.2.2.2.2.2.2.2.2.2.2.2.1,y19.2.1.2.2.1.2.2.2.2.2.2.2.2.2.2.2.2.2.2.1,y19.2.1.2.2.1.2.2.2.2.2.2.2.2.2.2.2.2.2.2.2.1),0,()))
 | .inr z20=>
   none
abbrev kM:Type:=(Unit×Unit×Unit×Unit)×(TT×Eb×HZ×pH×pO×HZ×Tr×HZ×Unit)×aW×bn×aW×uX×Unit
abbrev qy:Type:=Unit×(Unit×Unit×Unit×Unit×Unit×Unit×Unit×Unit)×Unit
abbrev qs:Type:=(Unit)×(TT×Eb×HZ×pH×pO×HZ×Tr×Unit)×aW×bn×aW×uX×Unit
noncomputable def Cx (v1 v2 v3 v4 v5 v6 v7 v8 v9 v10 v11:Int)(v12:Bool)(v13 v14 v15 v16 v17 v18 v19 v20 v21 v22 v23 v24 v25 v26:Int)(v27:Bool)(v28:Int)(v29:aW)(v30:bn)(v31:aW)(v32 v33 v34 v35 v36 v37 v38 v39 v40 v41 v42:Int)(v43:Bool)(v44:Int)(v45:aW)(v46:bn)(v47:aW)(v48 v49:Int)(v50:aR)(v51 v52 v53 v54 v55 v56 v57 v58 v59 v60 v61:Int)(v62:Bool)(v63:Int)(v64:aW)(v65:bn)(v66:aW)(v67 v68 v69 v70 v71 v72 v73 v74 v75 v76 v77 v78 v79:Int)(v80:Bool)(v81:Int)(v82:aW)(v83:bn)(v84:aW)(v85 v86:Int)(v87:aW)(v88:bn)(v89:aW)(v90:uX):Option (R3 kM qy qs):=
 ((f70 v50 v86)).bind fun y91=>
 cond (!(decide (y91.2.2.1=0))) (
  some (R3.ret ((),((v1,v2,v3,v4,v5,v6,v7,v8,v9,v10,v11,v12,v13,(),(),(),v14,v15,()),(v16,v17,v18,v19,v20,v21,v22,v23,v24,v25,v26,v27,v28,v29,v30,v31,()),(v32,v33,v34,v35,v36,v37,v38,v39,v40,v41,v42,v43,v44,v45,v46,v47,v48,v49,()),((),()),(v50,()),(v51,v52,v53,v54,v55,v56,v57,v58,v59,v60,v61,v62,v63,v64,v65,v66,v67,v68,()),((),(),(),(),(),(),(),(),(),(),(),(),(),(),(),(),(),(),(),(),(),(),(),(),(),(),(),(),(),(),(),(),(),(),(),(),(),()),()),v87,v88,v89,v90,()))) (
  cond (!(decide (y91.1.1=2))) (
   some (R3.ret ((),((v1,v2,v3,v4,v5,v6,v7,v8,v9,v10,v11,v12,v13,(),(),(),v14,v15,()),(v16,v17,v18,v19,v20,v21,v22,v23,v24,v25,v26,v27,v28,v29,v30,v31,()),(v32,v33,v34,v35,v36,v37,v38,v39,v40,v41,v42,v43,v44,v45,v46,v47,v48,v49,()),((),()),(v50,()),(v51,v52,v53,v54,v55,v56,v57,v58,v59,v60,v61,v62,v63,v64,v65,v66,v67,v68,()),((),(),(),(),(),(),(),(),(),(),(),(),(),(),(),(),(),(),(),(),(),(),(),(),(),(),(),(),(),(),(),(),(),(),(),(),(),()),()),v87,v88,v89,v90,()))) (
   ((f93 v85 y91.1.2)).bind fun y92=>
   ((f94 v69 v70 v71 v72 v73 v74 v75 v76 v77 v78 v79 v80 v81 v82 v83 v84 y92.1)).bind fun y93=>
   cond (!y92.2.1) (
    some (R3.ret ((),((v1,v2,v3,v4,v5,v6,v7,v8,v9,v10,v11,v12,v13,(),(),(),v14,v15,()),(v16,v17,v18,v19,v20,v21,v22,v23,v24,v25,v26,v27,v28,v29,v30,v31,()),(v32,v33,v34,v35,v36,v37,v38,v39,v40,v41,v42,v43,v44,v45,v46,v47,v48,v49,()),((),()),(v50,()),(v51,v52,v53,v54,v55,v56,v57,v58,v59,v60,v61,v62,v63,v64,v65,v66,v67,v68,()),((),(),(),(),(),(),(),(),(),(),(),(),(),(),(),(),(),(),(),(),(),(),(),(),(),(),(),(),(),(),(),(),(),(),(),(),(),()),()),v87,v88,v89,v90,()))) (
    cond (!(decide (y93.2.1=0))) (
     some (R3.ret ((),((v1,v2,v3,v4,v5,v6,v7,v8,v9,v10,v11,v12,v13,(),(),(),v14,v15,()),(v16,v17,v18,v19,v20,v21,v22,v23,v24,v25,v26,v27,v28,v29,v30,v31,()),(v32,v33,v34,v35,v36,v37,v38,v39,v40,v41,v42,v43,v44,v45,v46,v47,v48,v49,()),((),()),(v50,()),(v51,v52,v53,v54,v55,v56,v57,v58,v59,v60,v61,v62,v63,v64,v65,v66,v67,v68,()),((),(),(),(),(),(),(),(),(),(),(),(),(),(),(),(),(),(),(),(),(),(),(),(),(),(),(),(),(),(),(),(),(),(),(),(),(),()),()),v87,v88,v89,v90,()))) (
     cond (decide (0<(y92.1.length:Int))) (
      cond ((decide (0≤(IntKind.wrap .i64 ((y92.1.length:Int)-1))))&&(decide ((IntKind.wrap .i64 ((y92.1.length:Int)-1))<(y92.1.length:Int)))) (
       cond ((decide (((v90.length+y92.1.length) * 72)≤140737488355328))&&(decide ((v90.length+y92.1.length)≤9223372036854775807))) (
        some (R3.next (((),(),(),()),((v1,v2,v3,v4,v5,v6,v7,v8,v9,v10,v11,v12,v13,(),(),(),v14,v15,()),(v16,v17,v18,v19,v20,v21,v22,v23,v24,v25,v26,v27,v28,v29,v30,v31,()),(y93.1.1.1.1,y93.1.1.1.2,y93.1.1.2.1.1,y93.1.1.2.1.2,y93.1.1.2.2.1,y93.1.1.2.2.2.1,y93.1.1.2.2.2.2.1,y93.1.1.2.2.2.2.2,y93.1.2.1.1,y93.1.2.1.2.1,y93.1.2.1.2.2.1,y93.1.2.1.2.2.2,y93.1.2.2.1,y93.1.2.2.2.1,y93.1.2.2.2.2.1,y93.1.2.2.2.2.2,(rd b8 y92.1 (Int.toNat (IntKind.wrap .i64 ((y92.1.length:Int)-1)))).2.1,y91.2.1,()),((),()),(v50,()),(v51,v52,v53,v54,v55,v56,v57,v58,v59,v60,v61,v62,v63,v64,v65,v66,v67,v68,()),((),(),(),(),(),(),(),(),(),(),(),(),(),(),(),(),(),(),(),(),(),(),(),(),(),(),(),(),(),(),(),(),(),(),(),(),(),()),(y93.1.1.1.1,y93.1.1.1.2,y93.1.1.2.1.1,y93.1.1.2.1.2,y93.1.1.2.2.1,y93.1.1.2.2.2.1,y93.1.1.2.2.2.2.1,y93.1.1.2.2.2.2.2,y93.1.2.1.1,y93.1.2.1.2.1,y93.1.2.1.2.2.1,y93.1.2.1.2.2.2,y93.1.2.2.1,y93.1.2.2.2.1,y93.1.2.2.2.2.1,y93.1.2.2.2.2.2,(rd b8 y92.1 (Int.toNat (IntKind.wrap .i64 ((y92.1.length:Int)-1)))).2.1,y91.2.1,()),()),v87,v88,v89,(v90++y92.1),()))) (
        none)) (
       none)) (
      cond ((decide (((v90.length+y92.1.length) * 72)≤140737488355328))&&(decide ((v90.length+y92.1.length)≤9223372036854775807))) (
       some (R3.next (((),(),(),()),((v1,v2,v3,v4,v5,v6,v7,v8,v9,v10,v11,v12,v13,(),(),(),v14,v15,()),(v16,v17,v18,v19,v20,v21,v22,v23,v24,v25,v26,v27,v28,v29,v30,v31,()),(y93.1.1.1.1,y93.1.1.1.2,y93.1.1.2.1.1,y93.1.1.2.1.2,y93.1.1.2.2.1,y93.1.1.2.2.2.1,y93.1.1.2.2.2.2.1,y93.1.1.2.2.2.2.2,y93.1.2.1.1,y93.1.2.1.2.1,y93.1.2.1.2.2.1,y93.1.2.1.2.2.2,y93.1.2.2.1,y93.1.2.2.2.1,y93.1.2.2.2.2.1,y93.1.2.2.2.2.2,v85,y91.2.1,()),((),()),(v50,()),(v51,v52,v53,v54,v55,v56,v57,v58,v59,v60,v61,v62,v63,v64,v65,v66,v67,v68,()),((),(),(),(),(),(),(),(),(),(),(),(),(),(),(),(),(),(),(),(),(),(),(),(),(),(),(),(),(),(),(),(),(),(),(),(),(),()),(y93.1.1.1.1,y93.1.1.1.2,y93.1.1.2.1.1,y93.1.1.2.1.2,y93.1.1.2.2.1,y93.1.1.2.2.2.1,y93.1.1.2.2.2.2.1,y93.1.1.2.2.2.2.2,y93.1.2.1.1,y93.1.2.1.2.1,y93.1.2.1.2.2.1,y93.1.2.1.2.2.2,y93.1.2.2.1,y93.1.2.2.2.1,y93.1.2.2.2.2.1,y93.1.2.2.2.2.2,v85,y91.2.1,()),()),v87,v88,v89,(v90++y92.1),()))) (
       none))))))
noncomputable def qO (z:kM):Option (R3 kM qy qs):=Cx z.2.1.1.1 z.2.1.1.2.1 z.2.1.1.2.2.1 z.2.1.1.2.2.2.1 z.2.1.1.2.2.2.2.1 z.2.1.1.2.2.2.2.2.1 z.2.1.1.2.2.2.2.2.2.1 z.2.1.1.2.2.2.2.2.2.2.1 z.2.1.1.2.2.2.2.2.2.2.2.1 z.2.1.1.2.2.2.2.2.2.2.2.2.1 z.2.1.1.2.2.2.2.2.2.2.2.2.2.1 z.2.1.1.2.2.2.2.2.2.2.2.2.2.2.1 z.2.1.1.2.2.2.2.2.2.2.2.2.2.2.2.1 z.2.1.1.2.2.2.2.2.2.2.2.2.2.2.2.2.2.2.2.1 z.2.1.1.2.2.2.2.2.2.2.2.2.2.2.2.2.2.2.2.2.1 z.2.1.2.1.1 z.2.1.2.1.2.1 z.2.1.2.1.2.2.1 z.2.1.2.1.2.2.2.1 z.2.1.2.1.2.2.2.2.1 z.2.1.2.1.2.2.2.2.2.1 z.2.1.2.1.2.2.2.2.2.2.1 z.2.1.2.1.2.2.2.2.2.2.2.1 z.2.1.2.1.2.2.2.2.2.2.2.2.1 z.2.1.2.1.2.2.2.2.2.2.2.2.2.1 z.2.1.2.1.2.2.2.2.2.2.2.2.2.2.1 z.2.1.2.1.2.2.2.2.2.2.2.2.2.2.2.1 z.2.1.2.1.2.2.2.2.2.2.2.2.2.2.2.2.1 z.2.1.2.1.2.2.2.2.2.2.2.2.2.2.2.2.2.1 z.2.1.2.1.2.2.2.2.2.2.2.2.2.2.2.2.2.2.1 z.2.1.2.1.2.2.2.2.2.2.2.2.2.2.2.2.2.2.2.1 z.2.1.2.2.1.1 z.2.1.2.2.1.2.1 z.2.1.2.2.1.2.2.1 z.2.1.2.2.1.2.2.2.1 z.2.1.2.2.1.2.2.2.2.1 z.2.1.2.2.1.2.2.2.2.2.1 z.2.1.2.2.1.2.2.2.2.2.2.1 z.2.1.2.2.1.2.2.2.2.2.2.2.1 z.2.1.2.2.1.2.2.2.2.2.2.2.2.1 z.2.1.2.2.1.2.2.2.2.2.2.2.2.2.1 z.2.1.2.2.1.2.2.2.2.2.2.2.2.2.2.1 z.2.1.2.2.1.2.2.2.2.2.2.2.2.2.2.2.1 z.2.1.2.2.1.2.2.2.2.2.2.2.2.2.2.2.2.1 z.2.1.2.2.1.2.2.2.2.2.2.2.2.2.2.2.2.2.1 z.2.1.2.2.1.2.2.2.2.2.2.2.2.2.2.2.2.2.2.1 z.2.1.2.2.1.2.2.2.2.2.2.2.2.2.2.2.2.2.2.2.1 z.2.1.2.2.1.2.2.2.2.2.2.2.2.2.2.2.2.2.2.2.2.1 z.2.1.2.2.1.2.2.2.2.2.2.2.2.2.2.2.2.2.2.2.2.2.1 z.2.1.2.2.2.2.1.1 z.2.1.2.2.2.2.2.1.1 z.2.1.2.2.2.2.2.1.2.1 z.2.1.2.2.2.2.2.1.2.2.1 z.2.1.2.2.2.2.2.1.2.2.2.1 z.2.1.2.2.2.2.2.1.2.2.2.2.1 z.2.1.2.2.2.2.2.1.2.2.2.2.2.1 z.2.1.2.2.2.2.2.1.2.2.2.2.2.2.1 z.2.1.2.2.2.2.2.1.2.2.2.2.2.2.2.1 z.2.1.2.2.2.2.2.1.2.2.2.2.2.2.2.2.1 z.2.1.2.2.2.2.2.1.2.2.2.2.2.2.2.2.2.1 z.2.1.2.2.2.2.2.1.2.2.2.2.2.2.2.2.2.2.1 z.2.1.2.2.2.2.2.1.2.2.2.2.2.2.2.2.2.2.2.1 z.2.1.2.2.2.2.2.1.2.2.2.2.2.2.2.2.2.2.2.2.1 z.2.1.2.2.2.2.2.1.2.2.2.2.2.2.2.2.2.2.2.2.2.1 z.2.1.2.2.2.2.2.1.2.2.2.2.2.2.2.2.2.2.2.2.2.2.1 z.2.1.2.2.2.2.2.1.2.2.2.2.2.2.2.2.2.2.2.2.2.2.2.1 z.2.1.2.2.2.2.2.1.2.2.2.2.2.2.2.2.2.2.2.2.2.2.2.2.1 z.2.1.2.2.2.2.2.1.2.2.2.2.2.2.2.2.2.2.2.2.2.2.2.2.2.1 z.2.1.2.2.2.2.2.2.2.1.1 z.2.1.2.2.2.2.2.2.2.1.2.1 z.2.1.2.2.2.2.2.2.2.1.2.2.1 z.2.1.2.2.2.2.2.2.2.1.2.2.2.1 z.2.1.2.2.2.2.2.2.2.1.2.2.2.2.1 z.2.1.2.2.2.2.2.2.2.1.2.2.2.2.2.1 z.2.1.2.2.2.2.2.2.2.1.2.2.2.2.2.2.1 z.2.1.2.2.2.2.2.2.2.1.2.2.2.2.2.2.2.1 z.2.1.2.2.2.2.2.2.2.1.2.2.2.2.2.2.2.2.1 z.2.1.2.2.2.2.2.2.2.1.2.2.2.2.2.2.2.2.2.1 z.2.1.2.2.2.2.2.2.2.1.2.2.2.2.2.2.2.2.2.2.1 z.2.1.2.2.2.2.2.2.2.1.2.2.2.2.2.2.2.2.2.2.2.1 z.2.1.2.2.2.2.2.2.2.1.2.2.2.2.2.2.2.2.2.2.2.2.1 z.2.1.2.2.2.2.2.2.2.1.2.2.2.2.2.2.2.2.2.2.2.2.2.1 z.2.1.2.2.2.2.2.2.2.1.2.2.2.2.2.2.2.2.2.2.2.2.2.2.1 z.2.1.2.2.2.2.2.2.2.1.2.2.2.2.2.2.2.2.2.2.2.2.2.2.2.1 z.2.1.2.2.2.2.2.2.2.1.2.2.2.2.2.2.2.2.2.2.2.2.2.2.2.2.1 z.2.1.2.2.2.2.2.2.2.1.2.2.2.2.2.2.2.2.2.2.2.2.2.2.2.2.2.1 z.2.2.1 z.2.2.2.1 z.2.2.2.2.1 z.2.2.2.2.2.1
noncomputable def f36 (v1:aR):Option ((K4×Int×Int)×uX×Bool×Unit):=
 ((f39 v1)).bind fun y2=>
 cond (!y2.2.2.1) (
  some (((((0,0),(0,0),0,0,0,0),(0,0,0,false),0,[],[],[]),0,0),[],false,())) (
  ((iter aI qO (((),(),(),()),((0,0,0,0,0,0,0,0,0,0,0,false,0,(),(),(),0,0,()),(y2.1.1.1.1,y2.1.1.1.2,y2.1.1.2.1.1,y2.1.1.2.1.2,y2.1.1.2.2.1,y2.1.1.2.2.2.1,y2.1.1.2.2.2.2.1,y2.1.1.2.2.2.2.2,y2.1.2.1.1,y2.1.2.1.2.1,y2.1.2.1.2.2.1,y2.1.2.1.2.2.2,y2.1.2.2.1,y2.1.2.2.2.1,y2.1.2.2.2.2.1,y2.1.2.2.2.2.2,()),(y2.1.1.1.1,y2.1.1.1.2,y2.1.1.2.1.1,y2.1.1.2.1.2,y2.1.1.2.2.1,y2.1.1.2.2.2.1,y2.1.1.2.2.2.2.1,y2.1.1.2.2.2.2.2,y2.1.2.1.1,y2.1.2.1.2.1,y2.1.2.1.2.2.1,y2.1.2.1.2.2.2,y2.1.2.2.1,y2.1.2.2.2.1,y2.1.2.2.2.2.1,y2.1.2.2.2.2.2,y2.1.2.2.1,y2.2.1,()),((),()),(v1,()),(y2.1.1.1.1,y2.1.1.1.2,y2.1.1.2.1.1,y2.1.1.2.1.2,y2.1.1.2.2.1,y2.1.1.2.2.2.1,y2.1.1.2.2.2.2.1,y2.1.1.2.2.2.2.2,y2.1.2.1.1,y2.1.2.1.2.1,y2.1.2.1.2.2.1,y2.1.2.1.2.2.2,y2.1.2.2.1,y2.1.2.2.2.1,y2.1.2.2.2.2.1,y2.1.2.2.2.2.2,y2.1.2.2.1,y2.2.1,()),((),(),(),(),(),(),(),(),(),(),(),(),(),(),(),(),(),(),(),(),(),(),(),(),(),(),(),(),(),(),(),(),(),(),(),(),(),()),(y2.1.1.1.1,y2.1.1.1.2,y2.1.1.2.1.1,y2.1.1.2.1.2,y2.1.1.2.2.1,y2.1.1.2.2.2.1,y2.1.1.2.2.2.2.1,y2.1.1.2.2.2.2.2,y2.1.2.1.1,y2.1.2.1.2.1,y2.1.2.1.2.2.1,y2.1.2.1.2.2.2,y2.1.2.2.1,y2.1.2.2.2.1,y2.1.2.2.2.2.1,y2.1.2.2.2.2.2,y2.1.2.2.1,y2.2.1,()),()),[],[],[],[],()))).bind fun r=>match r with
  | .inl y3=>
    none
  | .inr z4=>
    some (((((z4.2.1.2.2.1.1,z4.2.1.2.2.1.2.1),(z4.2.1.2.2.1.2.2.1,z4.2.1.2.2.1.2.2.2.1),z4.2.1.2.2.1.2.2.2.2.1,z4.2.1.2.2.1.2.2.2.2.2.1,z4.2.1.2.2.1.2.2.2.2.2.2.1,z4.2.1.2.2.1.2.2.2.2.2.2.2.1),(z4.2.1.2.2.1.2.2.2.2.2.2.2.2.1,z4.2.1.2.2.1.2.2.2.2.2.2.2.2.2.1,z4.2.1.2.2.1.2.2.2.2.2.2.2.2.2.2.1,z4.2.1.2.2.1.2.2.2.2.2.2.2.2.2.2.2.1),z4.2.1.2.2.1.2.2.2.2.2.2.2.2.2.2.2.2.1,z4.2.1.2.2.1.2.2.2.2.2.2.2.2.2.2.2.2.2.1,z4.2.1.2.2.1.2.2.2.2.2.2.2.2.2.2.2.2.2.2.1,z4.2.1.2.2.1.2.2.2.2.2.2.2.2.2.2.2.2.2.2.2.1),z4.2.1.2.2.1.2.2.2.2.2.2.2.2.2.2.2.2.2.2.2.2.1,z4.2.1.2.2.1.2.2.2.2.2.2.2.2.2.2.2.2.2.2.2.2.2.1),z4.2.2.2.2.2.1,true,()))
noncomputable def f41 (v1:aR):Option (uX×Unit):=
 ((f36 v1)).bind fun y2=>
 some (y2.2.1,())
noncomputable def f43 (v1 v2 v3 v4 v5 v6 v7 v8 v9 v10 v11:Int)(v12:Bool):Option (K4×Bool×Unit):=
 ((f78 v1 v2 v3 v4 v5 v6 v7 v8 v9 v10 v11 v12 0 [] [] [])).bind fun y13=>
 cond (!y13.1) (
  some ((((0,0),(0,0),0,0,0,0),(0,0,0,false),0,[],[],[]),false,())) (
  some ((((v1,v2),(v3,v4),v5,v6,v7,v8),(v9,v10,v11,v12),0,[],[],[]),true,()))
noncomputable def f44  : Option ((pG×pG×Int×Int×Int×Int)×Unit):=
 some (((167772160,31),(184549376,32),1000,1099,20,10),())
noncomputable def f45 (v1:Int):Option (qu×Bool×Unit):=
 ((f34 v1 [])).bind fun y2=>
 cond (!y2.1) (
  some ((0,[]),false,())) (
  some ((v1,[]),true,()))
abbrev Df:Type:=bh×(Unit)×aR×Unit
abbrev GX:Type:=bh×(Unit)×aR×Unit
abbrev G4:Type:=Unit×Unit×Unit
noncomputable def O9 (v1:Int)(v2:aR):Option (R3 Df GX G4):=
 cond (decide (128≤v1)) (
  cond ((decide (((v2.length+1) * 1)≤140737488355328))&&(decide ((v2.length+1)≤9223372036854775807))) (
   some (R3.next (((Int.fdiv v1 128),()),(),(v2++[(aN .or .u8 (IntKind.wrap .u8 v1) 128)]),()))) (
   none)) (
  some (R3.out ((v1,()),(),v2,())))
noncomputable def Hs (z:Df):Option (R3 Df GX G4):=O9 z.1.1 z.2.2.1
noncomputable def f121 (v1:aR)(v2:Int):Option pO:=
 ((iter aI Hs ((v2,()),(),v1,()))).bind fun r=>match r with
 | .inl y3=>
   cond ((decide (((y3.2.2.1.length+1) * 1)≤140737488355328))&&(decide ((y3.2.2.1.length+1)≤9223372036854775807))) (
    some ((y3.2.2.1++[(IntKind.wrap .u8 y3.1.1)]),())) (
    none)
 | .inr z4=>
   none
noncomputable def TZ (v1:aR)(v2:Int):Option (List (Ty.T tw)):=(f121 v1 v2).map (·.1)
abbrev gV:Type:=bh×(Unit)×aR×Unit
abbrev nH:Type:=bh×(Unit)×aR×Unit
abbrev lX:Type:=Unit×Unit×Unit
noncomputable def w5 (v1:Int)(v2:aR):Option (R3 gV nH lX):=
 cond (decide (128≤v1)) (
  cond ((decide (((v2.length+1) * 1)≤140737488355328))&&(decide ((v2.length+1)≤9223372036854775807))) (
   some (R3.next (((Int.fdiv v1 128),()),(),(v2++[(aN .or .u8 (IntKind.wrap .u8 v1) 128)]),()))) (
   none)) (
  some (R3.out ((v1,()),(),v2,())))
noncomputable def lS (z:gV):Option (R3 gV nH lX):=w5 z.1.1 z.2.2.1
noncomputable def f117 (v1:Int):Option pO:=
 ((f120 v1)).bind fun y2=>
 cond (!y2.1) (
  some ([],())) (
  ((iter aI lS ((v1,()),(),[],()))).bind fun r=>match r with
  | .inl y3=>
    cond ((decide (((y3.2.2.1.length+1) * 1)≤140737488355328))&&(decide ((y3.2.2.1.length+1)≤9223372036854775807))) (
     some ((y3.2.2.1++[(IntKind.wrap .u8 y3.1.1)]),())) (
     none)
  | .inr z4=>
    none)
abbrev AA:Type:=((List aR)×Int×(List aR)×Int×Int×Unit)×(Unit)×(Unit)
abbrev IM:Type:=((List aR)×Int×Unit)×(Unit)×(Unit)
abbrev JX:Type:=Unit×Unit×Unit
noncomputable def Oq (v1:(List aR))(v2:Int)(v3:(List aR))(v4 v5:Int):Option (R3 AA IM JX):=
 cond (decide (v5<v4)) (
  cond ((decide (0≤v5))&&(decide (v5<(v3.length:Int)))) (
   cond (decide ((IntKind.wrap .i64 (v2+(((rd (.row tw) v3 (Int.toNat v5)).length:Nat):Int)))<0)) (
    none) (
    some (R3.next ((v1,(IntKind.wrap .i64 (v2+(((rd (.row tw) v3 (Int.toNat v5)).length:Nat):Int))),v3,v4,(IntKind.wrap .i64 (v5+1)),()),(),())))) (
   none)) (
  some (R3.out ((v1,v2,()),(),())))
noncomputable def HI (z:AA):Option (R3 AA IM JX):=Oq z.1.1 z.1.2.1 z.1.2.2.1 z.1.2.2.2.1 z.1.2.2.2.2.1
abbrev uP:Type:=((List aR)×Int×Int×Unit)×(Unit)×aR×Unit
abbrev Eo:Type:=(Unit)×(Unit)×aR×Unit
abbrev DX:Type:=Unit×Unit×Unit
noncomputable def Lv (v1:(List aR))(v2 v3:Int)(v4:aR):Option (R3 uP Eo DX):=
 cond (decide (v3<v2)) (
  cond ((decide (0≤v3))&&(decide (v3<(v1.length:Int)))) (
   cond ((decide (((v4.length+(rd (.row tw) v1 (Int.toNat v3)).length) * 1)≤140737488355328))&&(decide ((v4.length+(rd (.row tw) v1 (Int.toNat v3)).length)≤9223372036854775807))) (
    some (R3.next ((v1,v2,(IntKind.wrap .i64 (v3+1)),()),(),(v4++(rd (.row tw) v1 (Int.toNat v3))),()))) (
    none)) (
   none)) (
  some (R3.out ((),(),v4,())))
noncomputable def Du (z:uP):Option (R3 uP Eo DX):=Lv z.1.1 z.1.2.1 z.1.2.2.1 z.2.2.1
noncomputable def f123 (v1:(List aR)):Option pO:=
 ((iter aI HI ((v1,0,v1,(v1.length:Int),0,()),(),()))).bind fun r=>match r with
 | .inl y2=>
   ((IK y2.1.2.1)).bind fun y4=>
   ((iter aI Du ((y2.1.1,(y2.1.1.length:Int),0,()),(),y4.1,()))).bind fun r=>match r with
   | .inl y5=>
     some (y5.2.2.1,())
   | .inr z6=>
     none
 | .inr z3=>
   none
noncomputable def f122 (v1:aR):Option pO:=
 ((f136 v1)).bind fun y2=>
 ((f135 y2.1)).bind fun y3=>
 ((f123 [v1,y3.1])).bind fun y4=>
 some (y4.1,())
noncomputable def f87 (v1:Int)(v2:aR):Option sO:=
 cond (decide (v1<0)) (
  some ([],false,())) (
  cond (decide (255<v1)) (
   some ([],false,())) (
   cond (decide (1000<(v2.length:Int))) (
    some ([],false,())) (
    ((f117 (v2.length:Int))).bind fun y3=>
    ((f123 [[(IntKind.wrap .u8 v1)],y3.1,v2])).bind fun y4=>
    ((f122 y4.1)).bind fun y5=>
    some (y5.1,true,()))))
abbrev GS:Type:=E5×(ux×ux×Unit)×dL×dL×Unit
abbrev NQ:Type:=jv×(ux×ux×Unit)×dL×dL×Unit
abbrev NA:Type:=Unit×Unit×Unit
noncomputable def SD (v1 v2 v3 v4:Int)(v5 v6:dL):Option (R3 GS NQ NA):=
 cond (decide (v2<v1)) (
  cond ((decide (0≤v2))&&(decide (v2<(v5.length:Int)))) (
   cond (decide ((Int.toNat v2)<v5.length)) (
    ((dO (rd bT v5 (Int.toNat v2)).2.1)).bind fun y7=>
    cond ((decide (0≤v2))&&(decide (v2<(v5.length:Int)))) (
     cond (decide ((Int.toNat v2)<v5.length)) (
      some (R3.next (((),(),v1,(IntKind.wrap .i64 (v2+1)),()),((v3,(),()),(v4,(),()),()),(v5.set (Int.toNat v2) ((rd bT v5 (Int.toNat v2)).1,y7.1,(rd bT v5 (Int.toNat v2)).2.2)),v6,()))) (
      none)) (
     none)) (
    none)) (
   none)) (
  some (R3.out (((),(),()),((v3,(),()),(v4,(),()),()),v5,v6,())))
noncomputable def MH (z:GS):Option (R3 GS NQ NA):=SD z.1.2.2.1 z.1.2.2.2.1 z.2.1.1.1 z.2.1.2.1.1 z.2.2.1 z.2.2.2.1
noncomputable def f95 (v1:Int)(v2:dL):Option (qu×Unit):=
 ((ij v2)).bind fun y3=>
 ((iter aI MH (((),(),(y3.1.length:Int),0,()),((v1,(),()),(0,(),()),()),y3.1,[],()))).bind fun r=>match r with
 | .inl y4=>
   some ((y4.2.1.1.1,y4.2.2.1),())
 | .inr z5=>
   none
abbrev uH:Type:=E5×(ux×((List (Int×List Int×Int))×Nat)×ux×Unit)×dL×Unit
abbrev DZ:Type:=jv×(ux×((List (Int×List Int×Int))×Nat)×ux×Unit)×dL×Unit
abbrev DG:Type:=Unit×Unit×Unit
noncomputable def KU (v1 v2 v3:Int)(v4:dL)(v5:Nat)(v6:Int)(v7:dL):Option (R3 uH DZ DG):=
 cond (decide (v2<v1)) (
  cond ((decide (0≤v2))&&(decide (v2<(v4.length:Int)))) (
   cond ((decide ((Int.toNat v2)<v4.length))&&(decide (v5≤(Int.toNat v2)))) (
    ((Ns (rd bT v4 (Int.toNat v2)).2.1)).bind fun y8=>
    cond (decide (v5<v4.length)) (
     cond ((decide (0≤v2))&&(decide (v2<(((v4.set v5 ((rd bT v4 v5).1,(rd bT v4 (Int.toNat v2)).2.1,(rd bT v4 v5).2.2)).length:Nat):Int)))) (
      cond ((((decide ((Int.toNat v2)<(v4.set v5 ((rd bT v4 v5).1,(rd bT v4 (Int.toNat v2)).2.1,(rd bT v4 v5).2.2)).length))&&(decide (v5=(Int.toNat v2))))&&(decide (v5=(Int.toNat v2))))&&(decide ((rd bT v4 (Int.toNat v2)).2.1.length≤(rd bT (v4.set v5 ((rd bT v4 v5).1,(rd bT v4 (Int.toNat v2)).2.1,(rd bT v4 v5).2.2)) (Int.toNat v2)).2.1.length))) (
       some (R3.next (((),(),v1,(IntKind.wrap .i64 (v2+1)),()),((v3,(),()),(((v4.set v5 ((rd bT v4 v5).1,(rd bT v4 (Int.toNat v2)).2.1,(rd bT v4 v5).2.2)).set (Int.toNat v2) ((rd bT (v4.set v5 ((rd bT v4 v5).1,(rd bT v4 (Int.toNat v2)).2.1,(rd bT v4 v5).2.2)) (Int.toNat v2)).1,(List.take (rd bT v4 (Int.toNat v2)).2.1.length (rd bT (v4.set v5 ((rd bT v4 v5).1,(rd bT v4 (Int.toNat v2)).2.1,(rd bT v4 v5).2.2)) (Int.toNat v2)).2.1),(rd bT (v4.set v5 ((rd bT v4 v5).1,(rd bT v4 (Int.toNat v2)).2.1,(rd bT v4 v5).2.2)) (Int.toNat v2)).2.2)),(v5+1)),(v6,(),()),()),v7,()))) (
       none)) (
      none)) (
     none)) (
    none)) (
   none)) (
  some (R3.out (((),(),()),((v3,(),()),(v4,v5),(v6,(),()),()),v7,())))
noncomputable def Ev (z:uH):Option (R3 uH DZ DG):=KU z.1.2.2.1 z.1.2.2.2.1 z.2.1.1.1 z.2.1.2.1.1 z.2.1.2.1.2 z.2.1.2.2.1.1 z.2.2.1
noncomputable def zD (v1:Int)(v2:dL):Option (qu×Unit):=
 ((ij v2)).bind fun y3=>
 ((iter aI Ev (((),(),(y3.1.length:Int),0,()),((v1,(),()),(y3.1,0),(0,(),()),()),[],()))).bind fun r=>match r with
 | .inl y4=>
   cond ((decide (y4.2.1.2.1.1.length≤y4.2.1.2.1.2))&&true) (
    some ((y4.2.1.1.1,y4.2.1.2.1.1),())) (
    none)
 | .inr z5=>
   none
abbrev gZ:Type:=(Unit×Int×Int×Unit)×((Int×dL×Unit)×bh×Unit)×(Unit)
abbrev mT:Type:=bh×((Int×dL×Unit)×bh×Unit)×(Unit)
abbrev nv:Type:=Unit×jv×Unit
noncomputable def uS (v1 v2 v3:Int)(v4:dL)(v5:Int):Option (R3 gZ mT nv):=
 cond (decide (v1<v2)) (
  cond ((decide (0≤(IntKind.wrap .i64 (Int.fdiv (IntKind.wrap .u64 (IntKind.wrap .i64 (v1+v2))) 2))))&&(decide ((IntKind.wrap .i64 (Int.fdiv (IntKind.wrap .u64 (IntKind.wrap .i64 (v1+v2))) 2))<(v4.length:Int)))) (
   cond (!(decide (v5≤(rd bT v4 (Int.toNat (IntKind.wrap .i64 (Int.fdiv (IntKind.wrap .u64 (IntKind.wrap .i64 (v1+v2))) 2)))).1))) (
    some (R3.next (((),(IntKind.wrap .i64 ((IntKind.wrap .i64 (Int.fdiv (IntKind.wrap .u64 (IntKind.wrap .i64 (v1+v2))) 2))+1)),v2,()),((v3,v4,()),(v5,()),()),()))) (
    some (R3.next (((),v1,(IntKind.wrap .i64 (Int.fdiv (IntKind.wrap .u64 (IntKind.wrap .i64 (v1+v2))) 2)),()),((v3,v4,()),(v5,()),()),())))) (
   none)) (
  some (R3.out ((v1,()),((v3,v4,()),(v5,()),()),())))
noncomputable def mD (z:gZ):Option (R3 gZ mT nv):=uS z.1.2.1 z.1.2.2.1 z.2.1.1.1 z.2.1.1.2.1 z.2.1.2.1.1
noncomputable def f119 (v1:Int)(v2:dL)(v3:Int):Option bh:=
 ((iter aI mD (((),0,(v2.length:Int),()),((v1,v2,()),(v3,()),()),()))).bind fun r=>match r with
 | .inl y4=>
   some (y4.1.1,())
 | .inr z5=>
   none
noncomputable def f96 (v1:Int)(v2:dL)(v3:Int):Option bh:=
 ((f34 v1 v2)).bind fun y4=>
 cond (!y4.1) (
  some ((-1),())) (
  ((f119 v1 v2 v3)).bind fun y5=>
  cond (decide (y5.1<(v2.length:Int))) (
   cond ((decide (0≤y5.1))&&(decide (y5.1<(v2.length:Int)))) (
    cond (decide ((rd bT v2 (Int.toNat y5.1)).1=v3)) (
     some (y5.1,())) (
     some ((-1),()))) (
    none)) (
   some ((-1),())))
noncomputable def f124 (v1:Int)(v2:dL)(v3:Int)(v4:aR):Option (qu×Int×Unit):=
 ((f34 v1 v2)).bind fun y5=>
 cond (!y5.1) (
  ((zD v1 v2)).bind fun y6=>
  some ((y6.1.1,y6.1.2),1,())) (
  ((f96 v1 v2 v3)).bind fun y7=>
  cond (decide (y7.1=(-1))) (
   ((zD v1 v2)).bind fun y8=>
   some ((y8.1.1,y8.1.2),5,())) (
   ((zD v1 v2)).bind fun y9=>
   ((f63 y9.1.2)).bind fun y10=>
   cond (decide ((IntKind.wrap .i64 (y9.1.1-y10.1))<(v4.length:Int))) (
    ((zD v1 v2)).bind fun y11=>
    some ((y11.1.1,y11.1.2),9,())) (
    cond ((decide (0≤y7.1))&&(decide (y7.1<(y9.1.2.length:Int)))) (
     cond (decide ((Int.toNat y7.1)<y9.1.2.length)) (
      cond (((decide ((Int.toNat y7.1)<y9.1.2.length))&&(decide ((rd bT y9.1.2 (Int.toNat y7.1)).2.1.length=(rd bT y9.1.2 (Int.toNat y7.1)).2.1.length)))&&(decide (((rd bT y9.1.2 (Int.toNat y7.1)).2.1.length+v4.length)≤140737488355328))) (
       cond ((decide (0≤y7.1))&&(decide (y7.1<(((y9.1.2.set (Int.toNat y7.1) ((rd bT y9.1.2 (Int.toNat y7.1)).1,((rd bT y9.1.2 (Int.toNat y7.1)).2.1++v4),(rd bT y9.1.2 (Int.toNat y7.1)).2.2)).length:Nat):Int)))) (
        cond ((((decide ((Int.toNat y7.1)<(y9.1.2.set (Int.toNat y7.1) ((rd bT y9.1.2 (Int.toNat y7.1)).1,((rd bT y9.1.2 (Int.toNat y7.1)).2.1++v4),(rd bT y9.1.2 (Int.toNat y7.1)).2.2)).length))&&(decide ((Int.toNat y7.1)=(Int.toNat y7.1))))&&(decide ((Int.toNat y7.1)=(Int.toNat y7.1))))&&(decide (((rd bT y9.1.2 (Int.toNat y7.1)).2.1.length+v4.length)≤(rd bT (y9.1.2.set (Int.toNat y7.1) ((rd bT y9.1.2 (Int.toNat y7.1)).1,((rd bT y9.1.2 (Int.toNat y7.1)).2.1++v4),(rd bT y9.1.2 (Int.toNat y7.1)).2.2)) (Int.toNat y7.1)).2.1.length))) (
         some ((y9.1.1,((y9.1.2.set (Int.toNat y7.1) ((rd bT y9.1.2 (Int.toNat y7.1)).1,((rd bT y9.1.2 (Int.toNat y7.1)).2.1++v4),(rd bT y9.1.2 (Int.toNat y7.1)).2.2)).set (Int.toNat y7.1) ((rd bT (y9.1.2.set (Int.toNat y7.1) ((rd bT y9.1.2 (Int.toNat y7.1)).1,((rd bT y9.1.2 (Int.toNat y7.1)).2.1++v4),(rd bT y9.1.2 (Int.toNat y7.1)).2.2)) (Int.toNat y7.1)).1,(List.take ((rd bT y9.1.2 (Int.toNat y7.1)).2.1.length+v4.length) (rd bT (y9.1.2.set (Int.toNat y7.1) ((rd bT y9.1.2 (Int.toNat y7.1)).1,((rd bT y9.1.2 (Int.toNat y7.1)).2.1++v4),(rd bT y9.1.2 (Int.toNat y7.1)).2.2)) (Int.toNat y7.1)).2.1),(rd bT (y9.1.2.set (Int.toNat y7.1) ((rd bT y9.1.2 (Int.toNat y7.1)).1,((rd bT y9.1.2 (Int.toNat y7.1)).2.1++v4),(rd bT y9.1.2 (Int.toNat y7.1)).2.2)) (Int.toNat y7.1)).2.2))),0,())) (
         none)) (
        none)) (
       none)) (
      none)) (
     none))))
noncomputable def f88 (v1:aR)(v2:Int)(v3:dL)(v4:Int):Option (qu×Int×Unit):=
 ((f124 v2 v3 v4 v1)).bind fun y5=>
 some ((y5.1.1,y5.1.2),y5.2.1,())
noncomputable def f89 (v1:Int)(v2:dL)(v3:Int):Option (qu×Int×Unit):=
 ((f34 v1 v2)).bind fun y4=>
 cond (!y4.1) (
  ((f95 v1 v2)).bind fun y5=>
  some ((y5.1.1,y5.1.2),1,())) (
  ((f96 v1 v2 v3)).bind fun y6=>
  cond (decide (y6.1=(-1))) (
   ((f95 v1 v2)).bind fun y7=>
   some ((y7.1.1,y7.1.2),5,())) (
   ((f95 v1 v2)).bind fun y8=>
   cond ((decide (0≤y6.1))&&(decide (y6.1<(y8.1.2.length:Int)))) (
    cond (decide ((Int.toNat y6.1)<y8.1.2.length)) (
     cond ((decide (0≤y6.1))&&(decide (y6.1<(y8.1.2.length:Int)))) (
      cond (decide ((Int.toNat y6.1)<y8.1.2.length)) (
       some ((y8.1.1,(y8.1.2.set (Int.toNat y6.1) ((rd bT y8.1.2 (Int.toNat y6.1)).1,(rd bT y8.1.2 (Int.toNat y6.1)).2.1,(((rd bT y8.1.2 (Int.toNat y6.1)).2.1.length:Nat):Int)))),0,())) (
       none)) (
      none)) (
     none)) (
    none)))
abbrev Jo:Type:=(aR×Int×Int×Unit)×(Unit)×aR×Unit
abbrev NO:Type:=(Unit)×(Unit)×aR×Unit
abbrev ML:Type:=bZ×(Unit)×aR×Unit
noncomputable def Sa (v1:aR)(v2 v3:Int)(v4:aR):Option (R3 Jo NO ML):=
 cond (decide (v3<v2)) (
  cond ((decide (0≤v3))&&(decide (v3<(v1.length:Int)))) (
   ((f120 (rd aU v1 (Int.toNat v3)))).bind fun y5=>
   cond (!y5.1) (
    some (R3.ret ((false,()),(),[],()))) (
    ((TZ v4 (rd aU v1 (Int.toNat v3)))).bind fun y6=>
    some (R3.next ((v1,v2,(IntKind.wrap .i64 (v3+1)),()),(),y6,())))) (
   none)) (
  some (R3.out ((),(),v4,())))
noncomputable def My (z:Jo):Option (R3 Jo NO ML):=Sa z.1.1 z.1.2.1 z.1.2.2.1 z.2.2.1
noncomputable def f86 (v1:aR):Option sO:=
 cond (decide (400<(v1.length:Int))) (
  some ([],false,())) (
  ((iter aI My ((v1,(v1.length:Int),0,()),(),[],()))).bind fun r=>match r with
  | .inl y2=>
    some (y2.2.2.1,true,())
  | .inr z3=>
    some (z3.2.2.1,z3.1.1,()))
noncomputable def f113 (v1 v2:Int):Option bh:=
 some ((IntKind.wrap .i64 ((IntKind.wrap .i64 (v1 * 8))+v2)),())
abbrev BQ:Type:=(aW×Int×Int×Unit)×(Unit)×aR×Unit
abbrev Ih:Type:=(Unit)×(Unit)×aR×Unit
abbrev J2:Type:=Unit×Unit×Unit
noncomputable def O2 (v1:aW)(v2 v3:Int)(v4:aR):Option (R3 BQ Ih J2):=
 cond (decide (v3<v2)) (
  cond ((decide (0≤v3))&&(decide (v3<(v1.length:Int)))) (
   cond ((decide (((v4.length+3) * 8)≤140737488355328))&&(decide ((v4.length+3)≤9223372036854775807))) (
    some (R3.next ((v1,v2,(IntKind.wrap .i64 (v3+1)),()),(),(v4++[(rd cr v1 (Int.toNat v3)).1,(rd cr v1 (Int.toNat v3)).2.1,(rd cr v1 (Int.toNat v3)).2.2]),()))) (
    none)) (
   none)) (
  some (R3.out ((),(),v4,())))
noncomputable def CQ (z:BQ):Option (R3 BQ Ih J2):=O2 z.1.1 z.1.2.1 z.1.2.2.1 z.2.2.1
noncomputable def f114 (v1 v2 v3 v4 v5 v6 v7 v8 v9 v10 v11:Int)(v12:Bool)(v13:Int)(v14:aW)(v15:bn)(v16:aW):Option pO:=
 cond v12 (
  cond (decide (11<15)) (
   cond (decide (11<15)) (
    ((iter aI CQ ((v14,(v14.length:Int),0,()),(),[v1,v2,v3,v4,v5,v6,v7,v8,v9,v10,v11,1,v13,(v15.length:Int),(v16.length:Int)],()))).bind fun r=>match r with
    | .inl y17=>
      some (y17.2.2.1,())
    | .inr z18=>
      none) (
    none)) (
   none)) (
  ((iter aI CQ ((v14,(v14.length:Int),0,()),(),[v1,v2,v3,v4,v5,v6,v7,v8,v9,v10,v11,0,v13,(v15.length:Int),(v16.length:Int)],()))).bind fun r=>match r with
  | .inl y19=>
    some (y19.2.2.1,())
  | .inr z20=>
    none)
abbrev gC:Type:=JP×jA×(Unit)
abbrev nc:Type:=(Unit)×jA×(Unit)
abbrev nE:Type:=bh×jA×(Unit)
noncomputable def vT (v1:aR)(v2 v3 v4:Int):Option (R3 gC nc nE):=
 cond (decide (v3<v2)) (
  cond ((decide (0≤v3))&&(decide (v3<(v1.length:Int)))) (
   cond (decide ((rd aU v1 (Int.toNat v3))<0)) (
    some (R3.ret ((v3,()),((v4,()),()),()))) (
    cond (!(decide (v4<0))) (
     cond (!(decide ((Int.fdiv (rd aU v1 (Int.toNat v3)) ((2:Int) ^ ((min (Int.toNat v4) 64):Nat)))=0))) (
      some (R3.ret ((v3,()),((v4,()),()),()))) (
      some (R3.next ((v1,(),v2,(IntKind.wrap .i64 (v3+1)),()),((v4,()),()),())))) (
     none))) (
   none)) (
  some (R3.out ((),((v4,()),()),())))
noncomputable def nk (z:gC):Option (R3 gC nc nE):=vT z.1.1 z.1.2.2.1 z.1.2.2.2.1 z.2.1.1.1
abbrev AO:Type:=Q0×jA×aR×Unit
abbrev vq:Type:=Q0×jA×aR×Unit
abbrev Ds:Type:=Q0×jA×aR×Unit
abbrev Ek:Type:=Unit×Unit×Unit
noncomputable def KZ (v1 v2:Int)(v3:aR)(v4 v5 v6:Int)(v7:aR):Option (R3 vq Ds Ek):=
 cond (decide (8≤v2)) (
  cond ((decide (((v7.length+1) * 1)≤140737488355328))&&(decide ((v7.length+1)≤9223372036854775807))) (
   some (R3.next (((),(Int.fdiv v1 256),(IntKind.wrap .i64 (v2-8)),v3,v4,v5,()),((v6,()),()),(v7++[(IntKind.wrap .u8 v1)]),()))) (
   none)) (
  some (R3.out (((),v1,v2,v3,v4,v5,()),((v6,()),()),v7,())))
noncomputable def Er (z:vq):Option (R3 vq Ds Ek):=KZ z.1.2.1 z.1.2.2.1 z.1.2.2.2.1 z.1.2.2.2.2.1 z.1.2.2.2.2.2.1 z.2.1.1.1 z.2.2.1
abbrev ID:Type:=Bn×(Unit)×aR×Unit
abbrev J8:Type:=Unit×Unit×Unit
noncomputable def PO (v1 v2:Int)(v3:aR)(v4 v5 v6:Int)(v7:aR):Option (R3 AO ID J8):=
 cond (decide (v5<v4)) (
  cond ((decide (0≤v5))&&(decide (v5<(v3.length:Int)))) (
   cond (!(decide (v2<0))) (
    ((iter aI Er (((),(aN .or .u64 v1 (IntKind.wrap .u64 ((IntKind.wrap .u64 (rd aU v3 (Int.toNat v5))) * ((2:Int) ^ ((min (Int.toNat v2) 64):Nat))))),(IntKind.wrap .i64 (v2+v6)),v3,v4,v5,()),((v6,()),()),v7,()))).bind fun r=>match r with
    | .inl y8=>
      some (R3.next (((),y8.1.2.1,y8.1.2.2.1,y8.1.2.2.2.1,y8.1.2.2.2.2.1,(IntKind.wrap .i64 (y8.1.2.2.2.2.2.1+1)),()),((y8.2.1.1.1,()),()),y8.2.2.1,()))
    | .inr z9=>
      some (R3.ret ((),(),()))) (
    none)) (
   none)) (
  some (R3.out ((v1,v2,()),(),v7,())))
noncomputable def Ck (z:AO):Option (R3 AO ID J8):=PO z.1.2.1 z.1.2.2.1 z.1.2.2.2.1 z.1.2.2.2.2.1 z.1.2.2.2.2.2.1 z.2.1.1.1 z.2.2.1
noncomputable def f115 (v1:aR)(v2:Int):Option sO:=
 ((f140 (v1.length:Int) v2)).bind fun y3=>
 cond (decide (y3.1=(-1))) (
  some ([],false,())) (
  ((iter aI nk ((v1,(),(v1.length:Int),0,()),((v2,()),()),()))).bind fun r=>match r with
  | .inl y4=>
    cond ((decide (0≤y3.1))&&(decide ((y3.1 * 1)≤140737488355328))) (
     ((iter aI Ck (((),0,0,v1,(v1.length:Int),0,()),((y4.2.1.1.1,()),()),[],()))).bind fun r=>match r with
     | .inl y6=>
       cond (decide (0<y6.1.2.1)) (
        cond ((decide (((y6.2.2.1.length+1) * 1)≤140737488355328))&&(decide ((y6.2.2.1.length+1)≤9223372036854775807))) (
         some ((y6.2.2.1++[(IntKind.wrap .u8 y6.1.1)]),true,())) (
         none)) (
        some (y6.2.2.1,true,()))
     | .inr z7=>
       none) (
     none)
  | .inr z5=>
    cond (decide (0≤z5.1.1)) (
     some ([],false,())) (
     cond ((decide (0≤y3.1))&&(decide ((y3.1 * 1)≤140737488355328))) (
      ((iter aI Ck (((),0,0,v1,(v1.length:Int),0,()),((z5.2.1.1.1,()),()),[],()))).bind fun r=>match r with
      | .inl y8=>
        cond (decide (0<y8.1.2.1)) (
         cond ((decide (((y8.2.2.1.length+1) * 1)≤140737488355328))&&(decide ((y8.2.2.1.length+1)≤9223372036854775807))) (
          some ((y8.2.2.1++[(IntKind.wrap .u8 y8.1.1)]),true,())) (
          none)) (
         some (y8.2.2.1,true,()))
      | .inr z9=>
        none) (
      none)))
noncomputable def f155 (v1:Int):Option bh:=
 cond (decide (v1<(-274877906944))) (
  some ((-1),())) (
  cond (decide (274877906944<v1)) (
   some ((-1),())) (
   cond (decide (v1<0)) (
    some ((aN .xor .i64 (-1) (IntKind.wrap .i64 (v1 * 2))),())) (
    some ((IntKind.wrap .i64 (v1 * 2)),()))))
abbrev CI:Type:=JP×jA×aR×Unit
abbrev Ix:Type:=(Unit)×(Unit)×aR×Unit
abbrev Hw:Type:=bZ×(Unit)×aR×Unit
noncomputable def O5 (v1:aR)(v2 v3 v4:Int)(v5:aR):Option (R3 CI Ix Hw):=
 cond (decide (v3<v2)) (
  cond ((decide (0≤v3))&&(decide (v3<(v1.length:Int)))) (
   ((f143 (rd aU v1 (Int.toNat v3)))).bind fun y6=>
   cond (!y6.1) (
    some (R3.ret ((false,()),(),[],()))) (
    cond ((decide (0≤v3))&&(decide (v3<(v1.length:Int)))) (
     ((f155 (IntKind.wrap .i64 ((rd aU v1 (Int.toNat v3))-v4)))).bind fun y7=>
     cond ((decide (0≤v3))&&(decide (v3<(v5.length:Int)))) (
      cond (decide ((Int.toNat v3)<v5.length)) (
       some (R3.next ((v1,(),v2,(IntKind.wrap .i64 (v3+1)),()),(((rd aU v1 (Int.toNat v3)),()),()),(v5.set (Int.toNat v3) y7.1),()))) (
       none)) (
      none)) (
     none))) (
   none)) (
  some (R3.out ((),(),v5,())))
noncomputable def Kq (z:CI):Option (R3 CI Ix Hw):=O5 z.1.1 z.1.2.2.1 z.1.2.2.2.1 z.2.1.1.1 z.2.2.1
noncomputable def f116 (v1:aR):Option sO:=
 cond (((decide (0≤(v1.length:Int)))&&(decide ((v1.length:Int)≤(v1.length:Int))))&&(decide (((v1.length:Int) * 8)≤140737488355328))) (
  ((iter aI Kq ((v1,(),(v1.length:Int),0,()),((0,()),()),(List.replicate (Int.toNat (v1.length:Int)) 0),()))).bind fun r=>match r with
  | .inl y2=>
    ((f86 y2.2.2.1)).bind fun y4=>
    some (y4.1,y4.2.1,())
  | .inr z3=>
    some (z3.2.2.1,z3.1.1,())) (
  none)
abbrev jb:Type:=KC×vA×(Unit)
abbrev pz:Type:=(Unit)×vA×(Unit)
abbrev oZ:Type:=bh×vA×(Unit)
noncomputable def Ae (v1:bn)(v2 v3 v4 v5 v6 v7 v8 v9 v10 v11 v12 v13 v14:Int)(v15:Bool)(v16:Int)(v17:aW)(v18:bn)(v19:aW):Option (R3 jb pz oZ):=
 cond (decide (v3<v2)) (
  cond ((decide (0≤v3))&&(decide (v3<(v1.length:Int)))) (
   cond (!(decide ((rd aX v1 (Int.toNat v3)).2.2.2.2=v16))) (
    some (R3.ret ((v3,()),((v4,v5,v6,v7,v8,v9,v10,v11,v12,v13,v14,v15,v16,v17,v18,v19,()),()),()))) (
    some (R3.next ((v1,(),v2,(IntKind.wrap .i64 (v3+1)),()),((v4,v5,v6,v7,v8,v9,v10,v11,v12,v13,v14,v15,v16,v17,v18,v19,()),()),())))) (
   none)) (
  some (R3.out ((),((v4,v5,v6,v7,v8,v9,v10,v11,v12,v13,v14,v15,v16,v17,v18,v19,()),()),())))
noncomputable def o8 (z:jb):Option (R3 jb pz oZ):=Ae z.1.1 z.1.2.2.1 z.1.2.2.2.1 z.2.1.1.1 z.2.1.1.2.1 z.2.1.1.2.2.1 z.2.1.1.2.2.2.1 z.2.1.1.2.2.2.2.1 z.2.1.1.2.2.2.2.2.1 z.2.1.1.2.2.2.2.2.2.1 z.2.1.1.2.2.2.2.2.2.2.1 z.2.1.1.2.2.2.2.2.2.2.2.1 z.2.1.1.2.2.2.2.2.2.2.2.2.1 z.2.1.1.2.2.2.2.2.2.2.2.2.2.1 z.2.1.1.2.2.2.2.2.2.2.2.2.2.2.1 z.2.1.1.2.2.2.2.2.2.2.2.2.2.2.2.1 z.2.1.1.2.2.2.2.2.2.2.2.2.2.2.2.2.1 z.2.1.1.2.2.2.2.2.2.2.2.2.2.2.2.2.2.1 z.2.1.1.2.2.2.2.2.2.2.2.2.2.2.2.2.2.2.1
abbrev JU:Type:=KW×vA×aR×aR×aR×aR×Unit
abbrev Nq:Type:=pH×vA×aR×aR×aR×aR×Unit
abbrev M3:Type:=Unit×Unit×Unit
noncomputable def Sz (v1:bn)(v2 v3 v4 v5 v6 v7 v8 v9 v10 v11 v12 v13 v14:Int)(v15:Bool)(v16:Int)(v17:aW)(v18:bn)(v19:aW)(v20 v21 v22 v23:aR):Option (R3 JU Nq M3):=
 cond (decide (v3<v2)) (
  cond ((decide (0≤v3))&&(decide (v3<(v1.length:Int)))) (
   ((f113 (rd aX v1 (Int.toNat v3)).2.1 (rd aX v1 (Int.toNat v3)).2.2.1)).bind fun y24=>
   cond ((decide (((v20.length+1) * 8)≤140737488355328))&&(decide ((v20.length+1)≤9223372036854775807))) (
    cond ((decide (((v21.length+1) * 8)≤140737488355328))&&(decide ((v21.length+1)≤9223372036854775807))) (
     some (R3.next (((),v1,v2,(IntKind.wrap .i64 (v3+1)),()),((v4,v5,v6,v7,v8,v9,v10,v11,v12,v13,v14,v15,v16,v17,v18,v19,()),()),(v20++[(aN .or .i64 (IntKind.wrap .i64 ((rd aX v1 (Int.toNat v3)).1 * 32)) y24.1)]),(v21++[(rd aX v1 (Int.toNat v3)).2.2.2.1]),v22,v23,()))) (
     none)) (
    none)) (
   none)) (
  some (R3.out (((),()),((v4,v5,v6,v7,v8,v9,v10,v11,v12,v13,v14,v15,v16,v17,v18,v19,()),()),v20,v21,v22,v23,())))
noncomputable def GU (z:JU):Option (R3 JU Nq M3):=Sz z.1.2.1 z.1.2.2.1 z.1.2.2.2.1 z.2.1.1.1 z.2.1.1.2.1 z.2.1.1.2.2.1 z.2.1.1.2.2.2.1 z.2.1.1.2.2.2.2.1 z.2.1.1.2.2.2.2.2.1 z.2.1.1.2.2.2.2.2.2.1 z.2.1.1.2.2.2.2.2.2.2.1 z.2.1.1.2.2.2.2.2.2.2.2.1 z.2.1.1.2.2.2.2.2.2.2.2.2.1 z.2.1.1.2.2.2.2.2.2.2.2.2.2.1 z.2.1.1.2.2.2.2.2.2.2.2.2.2.2.1 z.2.1.1.2.2.2.2.2.2.2.2.2.2.2.2.1 z.2.1.1.2.2.2.2.2.2.2.2.2.2.2.2.2.1 z.2.1.1.2.2.2.2.2.2.2.2.2.2.2.2.2.2.1 z.2.1.1.2.2.2.2.2.2.2.2.2.2.2.2.2.2.2.1 z.2.2.1 z.2.2.2.1 z.2.2.2.2.1 z.2.2.2.2.2.1
abbrev BX:Type:=(Unit×aW×Int×Int×Unit)×vA×aR×aR×aR×aR×Unit
abbrev GZ:Type:=pH×vA×aR×aR×aR×aR×Unit
abbrev JR:Type:=Unit×Unit×Unit
noncomputable def Qy (v1:aW)(v2 v3 v4 v5 v6 v7 v8 v9 v10 v11 v12 v13 v14:Int)(v15:Bool)(v16:Int)(v17:aW)(v18:bn)(v19:aW)(v20 v21 v22 v23:aR):Option (R3 BX GZ JR):=
 cond (decide (v3<v2)) (
  cond ((decide (0≤v3))&&(decide (v3<(v1.length:Int)))) (
   ((f113 (rd cr v1 (Int.toNat v3)).1 (rd cr v1 (Int.toNat v3)).2.1)).bind fun y24=>
   cond ((decide (((v22.length+1) * 8)≤140737488355328))&&(decide ((v22.length+1)≤9223372036854775807))) (
    cond ((decide (((v23.length+1) * 8)≤140737488355328))&&(decide ((v23.length+1)≤9223372036854775807))) (
     some (R3.next (((),v1,v2,(IntKind.wrap .i64 (v3+1)),()),((v4,v5,v6,v7,v8,v9,v10,v11,v12,v13,v14,v15,v16,v17,v18,v19,()),()),v20,v21,(v22++[y24.1]),(v23++[(rd cr v1 (Int.toNat v3)).2.2]),()))) (
     none)) (
    none)) (
   none)) (
  some (R3.out (((),()),((v4,v5,v6,v7,v8,v9,v10,v11,v12,v13,v14,v15,v16,v17,v18,v19,()),()),v20,v21,v22,v23,())))
noncomputable def AL (z:BX):Option (R3 BX GZ JR):=Qy z.1.2.1 z.1.2.2.1 z.1.2.2.2.1 z.2.1.1.1 z.2.1.1.2.1 z.2.1.1.2.2.1 z.2.1.1.2.2.2.1 z.2.1.1.2.2.2.2.1 z.2.1.1.2.2.2.2.2.1 z.2.1.1.2.2.2.2.2.2.1 z.2.1.1.2.2.2.2.2.2.2.1 z.2.1.1.2.2.2.2.2.2.2.2.1 z.2.1.1.2.2.2.2.2.2.2.2.2.1 z.2.1.1.2.2.2.2.2.2.2.2.2.2.1 z.2.1.1.2.2.2.2.2.2.2.2.2.2.2.1 z.2.1.1.2.2.2.2.2.2.2.2.2.2.2.2.1 z.2.1.1.2.2.2.2.2.2.2.2.2.2.2.2.2.1 z.2.1.1.2.2.2.2.2.2.2.2.2.2.2.2.2.2.1 z.2.1.1.2.2.2.2.2.2.2.2.2.2.2.2.2.2.2.1 z.2.2.1 z.2.2.2.1 z.2.2.2.2.1 z.2.2.2.2.2.1
noncomputable def f79 (v1 v2 v3 v4 v5 v6 v7 v8 v9 v10 v11:Int)(v12:Bool)(v13:Int)(v14:aW)(v15:bn)(v16:aW):Option sO:=
 ((f78 v1 v2 v3 v4 v5 v6 v7 v8 v9 v10 v11 v12 v13 v14 v15 v16)).bind fun y17=>
 cond (!y17.1) (
  some ([],false,())) (
  ((iter aI o8 ((v15,(),(v15.length:Int),0,()),((v1,v2,v3,v4,v5,v6,v7,v8,v9,v10,v11,v12,v13,v14,v15,v16,()),()),()))).bind fun r=>match r with
  | .inl y18=>
    ((iter aI GU (((),y18.2.1.1.2.2.2.2.2.2.2.2.2.2.2.2.2.2.1,(y18.2.1.1.2.2.2.2.2.2.2.2.2.2.2.2.2.2.1.length:Int),0,()),((y18.2.1.1.1,y18.2.1.1.2.1,y18.2.1.1.2.2.1,y18.2.1.1.2.2.2.1,y18.2.1.1.2.2.2.2.1,y18.2.1.1.2.2.2.2.2.1,y18.2.1.1.2.2.2.2.2.2.1,y18.2.1.1.2.2.2.2.2.2.2.1,y18.2.1.1.2.2.2.2.2.2.2.2.1,y18.2.1.1.2.2.2.2.2.2.2.2.2.1,y18.2.1.1.2.2.2.2.2.2.2.2.2.2.1,y18.2.1.1.2.2.2.2.2.2.2.2.2.2.2.1,y18.2.1.1.2.2.2.2.2.2.2.2.2.2.2.2.1,y18.2.1.1.2.2.2.2.2.2.2.2.2.2.2.2.2.1,y18.2.1.1.2.2.2.2.2.2.2.2.2.2.2.2.2.2.1,y18.2.1.1.2.2.2.2.2.2.2.2.2.2.2.2.2.2.2.1,()),()),[],[],[],[],()))).bind fun r=>match r with
    | .inl y20=>
      ((iter aI AL (((),y20.2.1.1.2.2.2.2.2.2.2.2.2.2.2.2.2.2.2.1,(y20.2.1.1.2.2.2.2.2.2.2.2.2.2.2.2.2.2.2.1.length:Int),0,()),((y20.2.1.1.1,y20.2.1.1.2.1,y20.2.1.1.2.2.1,y20.2.1.1.2.2.2.1,y20.2.1.1.2.2.2.2.1,y20.2.1.1.2.2.2.2.2.1,y20.2.1.1.2.2.2.2.2.2.1,y20.2.1.1.2.2.2.2.2.2.2.1,y20.2.1.1.2.2.2.2.2.2.2.2.1,y20.2.1.1.2.2.2.2.2.2.2.2.2.1,y20.2.1.1.2.2.2.2.2.2.2.2.2.2.1,y20.2.1.1.2.2.2.2.2.2.2.2.2.2.2.1,y20.2.1.1.2.2.2.2.2.2.2.2.2.2.2.2.1,y20.2.1.1.2.2.2.2.2.2.2.2.2.2.2.2.2.1,y20.2.1.1.2.2.2.2.2.2.2.2.2.2.2.2.2.2.1,y20.2.1.1.2.2.2.2.2.2.2.2.2.2.2.2.2.2.2.1,()),()),y20.2.2.1,y20.2.2.2.1,y20.2.2.2.2.1,y20.2.2.2.2.2.1,()))).bind fun r=>match r with
      | .inl y22=>
        ((f114 y22.2.1.1.1 y22.2.1.1.2.1 y22.2.1.1.2.2.1 y22.2.1.1.2.2.2.1 y22.2.1.1.2.2.2.2.1 y22.2.1.1.2.2.2.2.2.1 y22.2.1.1.2.2.2.2.2.2.1 y22.2.1.1.2.2.2.2.2.2.2.1 y22.2.1.1.2.2.2.2.2.2.2.2.1 y22.2.1.1.2.2.2.2.2.2.2.2.2.1 y22.2.1.1.2.2.2.2.2.2.2.2.2.2.1 y22.2.1.1.2.2.2.2.2.2.2.2.2.2.2.1 y22.2.1.1.2.2.2.2.2.2.2.2.2.2.2.2.1 y22.2.1.1.2.2.2.2.2.2.2.2.2.2.2.2.2.1 y22.2.1.1.2.2.2.2.2.2.2.2.2.2.2.2.2.2.1 y22.2.1.1.2.2.2.2.2.2.2.2.2.2.2.2.2.2.2.1)).bind fun y24=>
        ((f86 y24.1)).bind fun y25=>
        ((f115 y22.2.2.1 10)).bind fun y26=>
        ((f116 y22.2.2.2.1)).bind fun y27=>
        ((f115 y22.2.2.2.2.1 5)).bind fun y28=>
        ((f116 y22.2.2.2.2.2.1)).bind fun y29=>
        ((f117 (y25.1.length:Int))).bind fun y30=>
        cond ((decide ((y30.1.length * 1)≤140737488355328))&&(decide (y30.1.length≤9223372036854775807))) (
         cond ((decide (((y30.1.length+y25.1.length) * 1)≤140737488355328))&&(decide ((y30.1.length+y25.1.length)≤9223372036854775807))) (
          ((f117 (y26.1.length:Int))).bind fun y31=>
          cond ((decide ((((y30.1++y25.1).length+y31.1.length) * 1)≤140737488355328))&&(decide (((y30.1++y25.1).length+y31.1.length)≤9223372036854775807))) (
           cond ((decide (((((y30.1++y25.1)++y31.1).length+y26.1.length) * 1)≤140737488355328))&&(decide ((((y30.1++y25.1)++y31.1).length+y26.1.length)≤9223372036854775807))) (
            ((f117 (y27.1.length:Int))).bind fun y32=>
            cond ((decide ((((((y30.1++y25.1)++y31.1)++y26.1).length+y32.1.length) * 1)≤140737488355328))&&(decide (((((y30.1++y25.1)++y31.1)++y26.1).length+y32.1.length)≤9223372036854775807))) (
             cond ((decide (((((((y30.1++y25.1)++y31.1)++y26.1)++y32.1).length+y27.1.length) * 1)≤140737488355328))&&(decide ((((((y30.1++y25.1)++y31.1)++y26.1)++y32.1).length+y27.1.length)≤9223372036854775807))) (
              ((f117 (y28.1.length:Int))).bind fun y33=>
              cond ((decide ((((((((y30.1++y25.1)++y31.1)++y26.1)++y32.1)++y27.1).length+y33.1.length) * 1)≤140737488355328))&&(decide (((((((y30.1++y25.1)++y31.1)++y26.1)++y32.1)++y27.1).length+y33.1.length)≤9223372036854775807))) (
               cond ((decide (((((((((y30.1++y25.1)++y31.1)++y26.1)++y32.1)++y27.1)++y33.1).length+y28.1.length) * 1)≤140737488355328))&&(decide ((((((((y30.1++y25.1)++y31.1)++y26.1)++y32.1)++y27.1)++y33.1).length+y28.1.length)≤9223372036854775807))) (
                ((f117 (y29.1.length:Int))).bind fun y34=>
                cond ((decide ((((((((((y30.1++y25.1)++y31.1)++y26.1)++y32.1)++y27.1)++y33.1)++y28.1).length+y34.1.length) * 1)≤140737488355328))&&(decide (((((((((y30.1++y25.1)++y31.1)++y26.1)++y32.1)++y27.1)++y33.1)++y28.1).length+y34.1.length)≤9223372036854775807))) (
                 cond ((decide (((((((((((y30.1++y25.1)++y31.1)++y26.1)++y32.1)++y27.1)++y33.1)++y28.1)++y34.1).length+y29.1.length) * 1)≤140737488355328))&&(decide ((((((((((y30.1++y25.1)++y31.1)++y26.1)++y32.1)++y27.1)++y33.1)++y28.1)++y34.1).length+y29.1.length)≤9223372036854775807))) (
                  some ((((((((((y30.1++y25.1)++y31.1)++y26.1)++y32.1)++y27.1)++y33.1)++y28.1)++y34.1)++y29.1),true,())) (
                  none)) (
                 none)) (
                none)) (
               none)) (
              none)) (
             none)) (
            none)) (
           none)) (
          none)) (
         none)
      | .inr z23=>
        none
    | .inr z21=>
      none
  | .inr z19=>
    cond (decide (0≤z19.1.1)) (
     some ([],false,())) (
     ((iter aI GU (((),z19.2.1.1.2.2.2.2.2.2.2.2.2.2.2.2.2.2.1,(z19.2.1.1.2.2.2.2.2.2.2.2.2.2.2.2.2.2.1.length:Int),0,()),((z19.2.1.1.1,z19.2.1.1.2.1,z19.2.1.1.2.2.1,z19.2.1.1.2.2.2.1,z19.2.1.1.2.2.2.2.1,z19.2.1.1.2.2.2.2.2.1,z19.2.1.1.2.2.2.2.2.2.1,z19.2.1.1.2.2.2.2.2.2.2.1,z19.2.1.1.2.2.2.2.2.2.2.2.1,z19.2.1.1.2.2.2.2.2.2.2.2.2.1,z19.2.1.1.2.2.2.2.2.2.2.2.2.2.1,z19.2.1.1.2.2.2.2.2.2.2.2.2.2.2.1,z19.2.1.1.2.2.2.2.2.2.2.2.2.2.2.2.1,z19.2.1.1.2.2.2.2.2.2.2.2.2.2.2.2.2.1,z19.2.1.1.2.2.2.2.2.2.2.2.2.2.2.2.2.2.1,z19.2.1.1.2.2.2.2.2.2.2.2.2.2.2.2.2.2.2.1,()),()),[],[],[],[],()))).bind fun r=>match r with
     | .inl y35=>
       ((iter aI AL (((),y35.2.1.1.2.2.2.2.2.2.2.2.2.2.2.2.2.2.2.1,(y35.2.1.1.2.2.2.2.2.2.2.2.2.2.2.2.2.2.2.1.length:Int),0,()),((y35.2.1.1.1,y35.2.1.1.2.1,y35.2.1.1.2.2.1,y35.2.1.1.2.2.2.1,y35.2.1.1.2.2.2.2.1,y35.2.1.1.2.2.2.2.2.1,y35.2.1.1.2.2.2.2.2.2.1,y35.2.1.1.2.2.2.2.2.2.2.1,y35.2.1.1.2.2.2.2.2.2.2.2.1,y35.2.1.1.2.2.2.2.2.2.2.2.2.1,y35.2.1.1.2.2.2.2.2.2.2.2.2.2.1,y35.2.1.1.2.2.2.2.2.2.2.2.2.2.2.1,y35.2.1.1.2.2.2.2.2.2.2.2.2.2.2.2.1,y35.2.1.1.2.2.2.2.2.2.2.2.2.2.2.2.2.1,y35.2.1.1.2.2.2.2.2.2.2.2.2.2.2.2.2.2.1,y35.2.1.1.2.2.2.2.2.2.2.2.2.2.2.2.2.2.2.1,()),()),y35.2.2.1,y35.2.2.2.1,y35.2.2.2.2.1,y35.2.2.2.2.2.1,()))).bind fun r=>match r with
       | .inl y37=>
         ((f114 y37.2.1.1.1 y37.2.1.1.2.1 y37.2.1.1.2.2.1 y37.2.1.1.2.2.2.1 y37.2.1.1.2.2.2.2.1 y37.2.1.1.2.2.2.2.2.1 y37.2.1.1.2.2.2.2.2.2.1 y37.2.1.1.2.2.2.2.2.2.2.1 y37.2.1.1.2.2.2.2.2.2.2.2.1 y37.2.1.1.2.2.2.2.2.2.2.2.2.1 y37.2.1.1.2.2.2.2.2.2.2.2.2.2.1 y37.2.1.1.2.2.2.2.2.2.2.2.2.2.2.1 y37.2.1.1.2.2.2.2.2.2.2.2.2.2.2.2.1 y37.2.1.1.2.2.2.2.2.2.2.2.2.2.2.2.2.1 y37.2.1.1.2.2.2.2.2.2.2.2.2.2.2.2.2.2.1 y37.2.1.1.2.2.2.2.2.2.2.2.2.2.2.2.2.2.2.1)).bind fun y39=>
         ((f86 y39.1)).bind fun y40=>
         ((f115 y37.2.2.1 10)).bind fun y41=>
         ((f116 y37.2.2.2.1)).bind fun y42=>
         ((f115 y37.2.2.2.2.1 5)).bind fun y43=>
         ((f116 y37.2.2.2.2.2.1)).bind fun y44=>
         ((f117 (y40.1.length:Int))).bind fun y45=>
         cond ((decide ((y45.1.length * 1)≤140737488355328))&&(decide (y45.1.length≤9223372036854775807))) (
          cond ((decide (((y45.1.length+y40.1.length) * 1)≤140737488355328))&&(decide ((y45.1.length+y40.1.length)≤9223372036854775807))) (
           ((f117 (y41.1.length:Int))).bind fun y46=>
           cond ((decide ((((y45.1++y40.1).length+y46.1.length) * 1)≤140737488355328))&&(decide (((y45.1++y40.1).length+y46.1.length)≤9223372036854775807))) (
            cond ((decide (((((y45.1++y40.1)++y46.1).length+y41.1.length) * 1)≤140737488355328))&&(decide ((((y45.1++y40.1)++y46.1).length+y41.1.length)≤9223372036854775807))) (
             ((f117 (y42.1.length:Int))).bind fun y47=>
             cond ((decide ((((((y45.1++y40.1)++y46.1)++y41.1).length+y47.1.length) * 1)≤140737488355328))&&(decide (((((y45.1++y40.1)++y46.1)++y41.1).length+y47.1.length)≤9223372036854775807))) (
              cond ((decide (((((((y45.1++y40.1)++y46.1)++y41.1)++y47.1).length+y42.1.length) * 1)≤140737488355328))&&(decide ((((((y45.1++y40.1)++y46.1)++y41.1)++y47.1).length+y42.1.length)≤9223372036854775807))) (
               ((f117 (y43.1.length:Int))).bind fun y48=>
               cond ((decide ((((((((y45.1++y40.1)++y46.1)++y41.1)++y47.1)++y42.1).length+y48.1.length) * 1)≤140737488355328))&&(decide (((((((y45.1++y40.1)++y46.1)++y41.1)++y47.1)++y42.1).length+y48.1.length)≤9223372036854775807))) (
                cond ((decide (((((((((y45.1++y40.1)++y46.1)++y41.1)++y47.1)++y42.1)++y48.1).length+y43.1.length) * 1)≤140737488355328))&&(decide ((((((((y45.1++y40.1)++y46.1)++y41.1)++y47.1)++y42.1)++y48.1).length+y43.1.length)≤9223372036854775807))) (
                 ((f117 (y44.1.length:Int))).bind fun y49=>
                 cond ((decide ((((((((((y45.1++y40.1)++y46.1)++y41.1)++y47.1)++y42.1)++y48.1)++y43.1).length+y49.1.length) * 1)≤140737488355328))&&(decide (((((((((y45.1++y40.1)++y46.1)++y41.1)++y47.1)++y42.1)++y48.1)++y43.1).length+y49.1.length)≤9223372036854775807))) (
                  cond ((decide (((((((((((y45.1++y40.1)++y46.1)++y41.1)++y47.1)++y42.1)++y48.1)++y43.1)++y49.1).length+y44.1.length) * 1)≤140737488355328))&&(decide ((((((((((y45.1++y40.1)++y46.1)++y41.1)++y47.1)++y42.1)++y48.1)++y43.1)++y49.1).length+y44.1.length)≤9223372036854775807))) (
                   some ((((((((((y45.1++y40.1)++y46.1)++y41.1)++y47.1)++y42.1)++y48.1)++y43.1)++y49.1)++y44.1),true,())) (
                   none)) (
                  none)) (
                 none)) (
                none)) (
               none)) (
              none)) (
             none)) (
            none)) (
           none)) (
          none)
       | .inr z38=>
         none
     | .inr z36=>
       none))
noncomputable def f80 (v1:Int)(v2:dL):Option Bn:=
 cond (decide ((IntKind.wrap .i64 ((v2.length:Int)-1))<0)) (
  some (0,(IntKind.wrap .i64 ((v2.length:Int)-1)),())) (
  cond ((decide (0≤(IntKind.wrap .i64 ((v2.length:Int)-1))))&&(decide ((IntKind.wrap .i64 ((v2.length:Int)-1))<(v2.length:Int)))) (
   some ((rd bT v2 (Int.toNat (IntKind.wrap .i64 ((v2.length:Int)-1)))).1,(IntKind.wrap .i64 ((v2.length:Int)-1)),())) (
   none))
noncomputable def f82 (v1:Int)(v2:dL)(v3:Int):Option (qu×Int×Unit):=
 ((f95 v1 v2)).bind fun y4=>
 ((f34 v1 v2)).bind fun y5=>
 cond (!y5.1) (
  some ((y4.1.1,y4.1.2),1,())) (
  cond (decide (v3<1)) (
   some ((y4.1.1,y4.1.2),1,())) (
   cond (decide (1073741824<v3)) (
    some ((y4.1.1,y4.1.2),1,())) (
    ((f96 v1 v2 v3)).bind fun y6=>
    cond (!(decide (y6.1=(-1)))) (
     some ((y4.1.1,y4.1.2),11,())) (
     cond (decide ((v2.length:Int)=12)) (
      some ((y4.1.1,y4.1.2),9,())) (
      ((f119 v1 v2 v3)).bind fun y7=>
      ((zy y4.1.2 y7.1 [(v3,[],0)])).bind fun y8=>
      some ((y4.1.1,y8),0,()))))))
noncomputable def f46 (v1:Int)(v2:dL)(v3 v4 v5 v6 v7 v8 v9 v10 v11 v12 v13:Int)(v14:Bool)(v15:Int)(v16:aW)(v17:bn)(v18:aW):Option ((qu×Int×Int)×Int×Unit):=
 ((f79 v3 v4 v5 v6 v7 v8 v9 v10 v11 v12 v13 v14 v15 v16 v17 v18)).bind fun y19=>
 ((f80 v1 v2)).bind fun y20=>
 cond (!y19.2.1) (
  some (((0,[]),0,0),1,())) (
  ((f34 v1 v2)).bind fun y21=>
  cond (!y21.1) (
   some (((0,[]),0,0),1,())) (
   cond (decide (y20.1=1073741824)) (
    some (((0,[]),0,0),1,())) (
    ((f82 v1 v2 (IntKind.wrap .i64 (y20.1+1)))).bind fun y22=>
    cond (decide (y22.2.1=0)) (
     ((f87 1 y19.1)).bind fun y23=>
     cond (!y23.2.1) (
      some (((0,[]),0,0),1,())) (
      cond (decide (y22.2.1=0)) (
       ((f88 y23.1 y22.1.1 y22.1.2 (IntKind.wrap .i64 (y20.1+1)))).bind fun y24=>
       cond (decide (y24.2.1=0)) (
        ((f89 y24.1.1 y24.1.2 (IntKind.wrap .i64 (y20.1+1)))).bind fun y25=>
        cond (!(decide (y25.2.1=0))) (
         some (((0,[]),0,0),y25.2.1,())) (
         some (((y25.1.1,y25.1.2),(IntKind.wrap .i64 (y20.1+1)),v15),0,()))) (
        cond (!(decide (y24.2.1=0))) (
         some (((0,[]),0,0),y24.2.1,())) (
         some (((y24.1.1,y24.1.2),(IntKind.wrap .i64 (y20.1+1)),v15),0,())))) (
       cond (decide (y22.2.1=0)) (
        ((f89 y22.1.1 y22.1.2 (IntKind.wrap .i64 (y20.1+1)))).bind fun y26=>
        cond (!(decide (y26.2.1=0))) (
         some (((0,[]),0,0),y26.2.1,())) (
         some (((y26.1.1,y26.1.2),(IntKind.wrap .i64 (y20.1+1)),v15),0,()))) (
        cond (!(decide (y22.2.1=0))) (
         some (((0,[]),0,0),y22.2.1,())) (
         some (((y22.1.1,y22.1.2),(IntKind.wrap .i64 (y20.1+1)),v15),0,())))))) (
     cond (!(decide (y22.2.1=0))) (
      some (((0,[]),0,0),y22.2.1,())) (
      some (((y22.1.1,y22.1.2),(IntKind.wrap .i64 (y20.1+1)),v15),0,()))))))
noncomputable def f21  : Option ((qu×Int×Int)×K4×Unit):=
 (f44).bind fun y1=>
 ((f43 y1.1.1.1 y1.1.1.2 y1.1.2.1.1 y1.1.2.1.2 y1.1.2.2.1 y1.1.2.2.2.1 y1.1.2.2.2.2.1 y1.1.2.2.2.2.2 1 9 5 false)).bind fun y2=>
 ((f45 2000)).bind fun y3=>
 ((f46 y3.1.1 y3.1.2 y2.1.1.1.1 y2.1.1.1.2 y2.1.1.2.1.1 y2.1.1.2.1.2 y2.1.1.2.2.1 y2.1.1.2.2.2.1 y2.1.1.2.2.2.2.1 y2.1.1.2.2.2.2.2 y2.1.2.1.1 y2.1.2.1.2.1 y2.1.2.1.2.2.1 y2.1.2.1.2.2.2 y2.1.2.2.1 y2.1.2.2.2.1 y2.1.2.2.2.2.1 y2.1.2.2.2.2.2)).bind fun y4=>
 some (((y4.1.1.1,y4.1.1.2),y4.1.2.1,y4.1.2.2),(((y2.1.1.1.1,y2.1.1.1.2),(y2.1.1.2.1.1,y2.1.1.2.1.2),y2.1.1.2.2.1,y2.1.1.2.2.2.1,y2.1.1.2.2.2.2.1,y2.1.1.2.2.2.2.2),(y2.1.2.1.1,y2.1.2.1.2.1,y2.1.2.1.2.2.1,y2.1.2.1.2.2.2),y2.1.2.2.1,y2.1.2.2.2.1,y2.1.2.2.2.2.1,y2.1.2.2.2.2.2),())
noncomputable def f47 (v1:Int)(v2:dL)(v3 v4:Int):Option bZ:=
 ((f80 v1 v2)).bind fun y5=>
 ((f34 v1 v2)).bind fun y6=>
 cond y6.1 (
  cond (decide (0<y5.1)) (
   cond (decide (y5.1=v3)) (
    cond (decide (0≤v4)) (
     some ((decide (v4≤1073741824)),())) (
     some (false,()))) (
    some (false,()))) (
   some (false,()))) (
  some (false,()))
abbrev JC:Type:=(Unit×Unit×Unit×dL×Int×Int×Unit)×SX×dL×dL×Unit
abbrev MM:Type:=(Unit×Unit×Unit×Unit)×SX×dL×dL×Unit
abbrev MI:Type:=Unit×Unit×Unit
noncomputable def Tt (v1:dL)(v2 v3 v4:Int)(v5:dL)(v6 v7 v8 v9 v10 v11:Int)(v12 v13:dL):Option (R3 JC MM MI):=
 cond (decide (v3<v2)) (
  cond ((decide (0≤v3))&&(decide (v3<(v1.length:Int)))) (
   cond ((decide (((rd bT v1 (Int.toNat v3)).2.1.length * 1)≤140737488355328))&&(decide ((rd bT v1 (Int.toNat v3)).2.1.length≤9223372036854775807))) (
    cond ((decide (((v13.length+1) * 40)≤140737488355328))&&(decide ((v13.length+1)≤9223372036854775807))) (
     some (R3.next (((),(),(),v1,v2,(IntKind.wrap .i64 (v3+1)),()),((v4,v5,v6,v7,()),(v8,(),v9,v10,()),(v11,(),()),()),v12,(v13++[((rd bT v1 (Int.toNat v3)).1,(rd bT v1 (Int.toNat v3)).2.1,(rd bT v1 (Int.toNat v3)).2.2)]),()))) (
     none)) (
    none)) (
   none)) (
  some (R3.out (((),(),(),()),((v4,v5,v6,v7,()),(v8,(),v9,v10,()),(v11,(),()),()),v12,v13,())))
noncomputable def Nd (z:JC):Option (R3 JC MM MI):=Tt z.1.2.2.2.1 z.1.2.2.2.2.1 z.1.2.2.2.2.2.1 z.2.1.1.1 z.2.1.1.2.1 z.2.1.1.2.2.1 z.2.1.1.2.2.2.1 z.2.1.2.1.1 z.2.1.2.1.2.2.1 z.2.1.2.1.2.2.2.1 z.2.1.2.2.1.1 z.2.2.1 z.2.2.2.1
noncomputable def f48 (v1:Int)(v2:dL)(v3 v4:Int):Option ((qu×Int×Int)×Unit):=
 ((iter aI Nd (((),(),(),v2,(v2.length:Int),0,()),((v1,v2,v3,v4,()),(0,(),0,0,()),(v1,(),()),()),[],[],()))).bind fun r=>match r with
 | .inl y5=>
   some (((y5.2.1.2.2.1.1,y5.2.2.2.1),y5.2.1.1.2.2.1,y5.2.1.1.2.2.2.1),())
 | .inr z6=>
   none
noncomputable def f85 (v1 v2 v3 v4 v5 v6 v7 v8:Int)(v9:Bool):Option pO:=
 cond (decide (v1=0)) (
  some ([(aN .or .i64 (aN .or .i64 (IntKind.wrap .i64 (v3 * 32)) (IntKind.wrap .i64 (v4 * 8))) v5)],())) (
  cond (decide (v1=1)) (
   some ([(aN .or .i64 (aN .or .i64 (IntKind.wrap .i64 (v3 * 32)) (IntKind.wrap .i64 (v4 * 8))) v5)],())) (
   cond (decide (v1=2)) (
    some ([(aN .or .i64 (IntKind.wrap .i64 (v3 * 8)) v4)],())) (
    cond (decide (v1=4)) (
     some ([(aN .or .i64 (IntKind.wrap .i64 (v3 * 8)) v4)],())) (
     cond (decide (v1=3)) (
      some ([v3],())) (
      cond (decide (v1=5)) (
       some ([v3],())) (
       cond v9 (
        cond (decide (3<4)) (
         cond (decide (3<4)) (
          some ([v6,v7,v8,1],())) (
          none)) (
         none)) (
        some ([v6,v7,v8,0],()))))))))
abbrev IG:Type:=(Int×uX×Int×Int×Unit)×(Unit)×aR×Unit
abbrev Mv:Type:=(Unit)×(Unit)×aR×Unit
abbrev M8:Type:=bZ×(Unit)×aR×Unit
noncomputable def S8 (v1:Int)(v2:uX)(v3 v4:Int)(v5:aR):Option (R3 IG Mv M8):=
 cond (decide (v4<v3)) (
  cond ((decide (0≤v4))&&(decide (v4<(v2.length:Int)))) (
   ((f84 (rd b8 v2 (Int.toNat v4)).1 (rd b8 v2 (Int.toNat v4)).2.1 (rd b8 v2 (Int.toNat v4)).2.2.1 (rd b8 v2 (Int.toNat v4)).2.2.2.1 (rd b8 v2 (Int.toNat v4)).2.2.2.2.1 (rd b8 v2 (Int.toNat v4)).2.2.2.2.2.1 (rd b8 v2 (Int.toNat v4)).2.2.2.2.2.2.1 (rd b8 v2 (Int.toNat v4)).2.2.2.2.2.2.2.1 (rd b8 v2 (Int.toNat v4)).2.2.2.2.2.2.2.2)).bind fun y6=>
   cond (!y6.1) (
    some (R3.ret ((false,()),(),[],()))) (
    cond (decide ((rd b8 v2 (Int.toNat v4)).2.1<v1)) (
     some (R3.ret ((false,()),(),[],()))) (
     cond ((decide (((v5.length+1) * 8)≤140737488355328))&&(decide ((v5.length+1)≤9223372036854775807))) (
      ((f85 (rd b8 v2 (Int.toNat v4)).1 (rd b8 v2 (Int.toNat v4)).2.1 (rd b8 v2 (Int.toNat v4)).2.2.1 (rd b8 v2 (Int.toNat v4)).2.2.2.1 (rd b8 v2 (Int.toNat v4)).2.2.2.2.1 (rd b8 v2 (Int.toNat v4)).2.2.2.2.2.1 (rd b8 v2 (Int.toNat v4)).2.2.2.2.2.2.1 (rd b8 v2 (Int.toNat v4)).2.2.2.2.2.2.2.1 (rd b8 v2 (Int.toNat v4)).2.2.2.2.2.2.2.2)).bind fun y7=>
      cond ((decide ((((v5++[(IntKind.wrap .i64 ((IntKind.wrap .i64 ((IntKind.wrap .i64 ((rd b8 v2 (Int.toNat v4)).2.1-v1)) * 16))+(rd b8 v2 (Int.toNat v4)).1))]).length+y7.1.length) * 8)≤140737488355328))&&(decide (((v5++[(IntKind.wrap .i64 ((IntKind.wrap .i64 ((IntKind.wrap .i64 ((rd b8 v2 (Int.toNat v4)).2.1-v1)) * 16))+(rd b8 v2 (Int.toNat v4)).1))]).length+y7.1.length)≤9223372036854775807))) (
       some (R3.next (((rd b8 v2 (Int.toNat v4)).2.1,v2,v3,(IntKind.wrap .i64 (v4+1)),()),(),((v5++[(IntKind.wrap .i64 ((IntKind.wrap .i64 ((IntKind.wrap .i64 ((rd b8 v2 (Int.toNat v4)).2.1-v1)) * 16))+(rd b8 v2 (Int.toNat v4)).1))])++y7.1),()))) (
       none)) (
      none)))) (
   none)) (
  some (R3.out ((),(),v5,())))
noncomputable def M7 (z:IG):Option (R3 IG Mv M8):=S8 z.1.1 z.1.2.1 z.1.2.2.1 z.1.2.2.2.1 z.2.2.1
noncomputable def f49 (v1:Int)(v2:uX):Option sO:=
 ((f83 v1 0 1073741824)).bind fun y3=>
 cond (!y3.1) (
  some ([],false,())) (
  ((iter aI M7 ((v1,v2,(v2.length:Int),0,()),(),[],()))).bind fun r=>match r with
  | .inl y4=>
    ((f86 y4.2.2.1)).bind fun y6=>
    some (y6.1,y6.2.1,())
  | .inr z5=>
    some (z5.2.2.1,z5.1.1,()))
noncomputable def f22 (v1:Int)(v2:dL)(v3 v4:Int)(v5:uX):Option ((qu×Int×Int)×Int×Unit):=
 ((f47 v1 v2 v3 v4)).bind fun y6=>
 cond (!y6.1) (
  ((f48 v1 v2 v3 v4)).bind fun y7=>
  some (((y7.1.1.1,y7.1.1.2),y7.1.2.1,y7.1.2.2),1,())) (
  cond (decide ((v5.length:Int)=0)) (
   ((f48 v1 v2 v3 v4)).bind fun y8=>
   some (((y8.1.1.1,y8.1.1.2),y8.1.2.1,y8.1.2.2),1,())) (
   ((f49 v4 v5)).bind fun y9=>
   cond (!y9.2.1) (
    ((f48 v1 v2 v3 v4)).bind fun y10=>
    some (((y10.1.1.1,y10.1.1.2),y10.1.2.1,y10.1.2.2),1,())) (
    ((f87 2 y9.1)).bind fun y11=>
    cond (!y11.2.1) (
     ((f48 v1 v2 v3 v4)).bind fun y12=>
     some (((y12.1.1.1,y12.1.1.2),y12.1.2.1,y12.1.2.2),1,())) (
     ((f88 y11.1 v1 v2 v3)).bind fun y13=>
     cond (decide (y13.2.1=0)) (
      ((f89 y13.1.1 y13.1.2 v3)).bind fun y14=>
      cond (!(decide (y14.2.1=0))) (
       ((f48 v1 v2 v3 v4)).bind fun y15=>
       some (((y15.1.1.1,y15.1.1.2),y15.1.2.1,y15.1.2.2),y14.2.1,())) (
       cond ((decide (0≤(IntKind.wrap .i64 ((v5.length:Int)-1))))&&(decide ((IntKind.wrap .i64 ((v5.length:Int)-1))<(v5.length:Int)))) (
        some (((y14.1.1,y14.1.2),v3,(rd b8 v5 (Int.toNat (IntKind.wrap .i64 ((v5.length:Int)-1)))).2.1),0,())) (
        none))) (
      cond (!(decide (y13.2.1=0))) (
       ((f48 v1 v2 v3 v4)).bind fun y16=>
       some (((y16.1.1.1,y16.1.1.2),y16.1.2.1,y16.1.2.2),y13.2.1,())) (
       cond ((decide (0≤(IntKind.wrap .i64 ((v5.length:Int)-1))))&&(decide ((IntKind.wrap .i64 ((v5.length:Int)-1))<(v5.length:Int)))) (
        some (((y13.1.1,y13.1.2),v3,(rd b8 v5 (Int.toNat (IntKind.wrap .i64 ((v5.length:Int)-1)))).2.1),0,())) (
        none)))))))
abbrev kD:Type:=(Unit×Unit×Int×Unit)×QU×(Unit)
abbrev qS:Type:=(Unit)×QU×(Unit)
abbrev sn:Type:=(Unit)×QU×(Unit)
noncomputable def CK (v1 v2:Int)(v3:dL)(v4 v5 v6 v7 v8 v9 v10 v11:Int)(v12:Bool)(v13:dL):Option (R3 kD qS sn):=
 cond (decide (0≤v1)) (
  cond ((decide (0≤v1))&&(decide (v1<(v13.length:Int)))) (
   ((f39 (rd bT v13 (Int.toNat v1)).2.1)).bind fun y14=>
   cond y14.2.2.1 (
    some (R3.ret ((),((v2,v3,()),(y14.1.1.1.1,y14.1.1.1.2,y14.1.1.2.1.1,y14.1.1.2.1.2,y14.1.1.2.2.1,y14.1.1.2.2.2.1,y14.1.1.2.2.2.2.1,y14.1.1.2.2.2.2.2,()),(true,()),(v13,()),((),(),(),(),(),(),(),(),(),(),(),(),(),(),(),(),(),(),(),(),(),(),(),(),(),(),(),(),(),()),()),()))) (
    some (R3.next (((),(),(IntKind.wrap .i64 (v1-1)),()),((v2,v3,()),(v4,v5,v6,v7,v8,v9,v10,v11,()),(v12,()),(v13,()),((),(),(),(),(),(),(),(),(),(),(),(),(),(),(),(),(),(),(),(),(),(),(),(),(),(),(),(),(),()),()),())))) (
   none)) (
  some (R3.out ((),((v2,v3,()),(v4,v5,v6,v7,v8,v9,v10,v11,()),(v12,()),(v13,()),((),(),(),(),(),(),(),(),(),(),(),(),(),(),(),(),(),(),(),(),(),(),(),(),(),(),(),(),(),()),()),())))
noncomputable def qM (z:kD):Option (R3 kD qS sn):=CK z.1.2.2.1 z.2.1.1.1 z.2.1.1.2.1 z.2.1.2.1.1 z.2.1.2.1.2.1 z.2.1.2.1.2.2.1 z.2.1.2.1.2.2.2.1 z.2.1.2.1.2.2.2.2.1 z.2.1.2.1.2.2.2.2.2.1 z.2.1.2.1.2.2.2.2.2.2.1 z.2.1.2.1.2.2.2.2.2.2.2.1 z.2.1.2.2.1.1 z.2.1.2.2.2.1.1
noncomputable def f23 (v1:Int)(v2:dL):Option ((pG×pG×Int×Int×Int×Int)×Bool×Unit):=
 ((f34 v1 v2)).bind fun y3=>
 cond (!y3.1) (
  some (((0,0),(0,0),0,0,0,0),false,())) (
  ((iter aI qM (((),(),(IntKind.wrap .i64 ((v2.length:Int)-1)),()),((v1,v2,()),(0,0,0,0,0,0,0,0,()),(false,()),(v2,()),((),(),(),(),(),(),(),(),(),(),(),(),(),(),(),(),(),(),(),(),(),(),(),(),(),(),(),(),(),()),()),()))).bind fun r=>match r with
  | .inl y4=>
    some (((0,0),(0,0),0,0,0,0),false,())
  | .inr z5=>
    some (((z5.2.1.2.1.1,z5.2.1.2.1.2.1),(z5.2.1.2.1.2.2.1,z5.2.1.2.1.2.2.2.1),z5.2.1.2.1.2.2.2.2.1,z5.2.1.2.1.2.2.2.2.2.1,z5.2.1.2.1.2.2.2.2.2.2.1,z5.2.1.2.1.2.2.2.2.2.2.2.1),z5.2.1.2.2.1.1,()))
noncomputable def f9 (v1:bn):Option bZ:=
 some ((decide ((v1.length:Int)≤200)),())
abbrev Js:Type:=(bn×Unit×Int×Int×Int×Unit)×((Int×Int×Int×Int×Int×Unit)×Unit)×(Unit)
abbrev Nh:Type:=Bn×(Unit)×(Unit)
abbrev Nz:Type:=Unit×Unit×Unit
noncomputable def Tp (v1:bn)(v2 v3 v4 v5 v6 v7 v8 v9:Int):Option (R3 Js Nh Nz):=
 cond (decide (v4<(v1.length:Int))) (
  cond ((decide (0≤v4))&&(decide (v4<(v1.length:Int)))) (
   cond (decide ((rd aX v1 (Int.toNat v4)).2.2.2.2=(-1))) (
    cond ((decide (0≤v4))&&(decide (v4<(v1.length:Int)))) (
     cond ((decide ((rd aX v1 (Int.toNat v4)).1=v5))&&((decide ((rd aX v1 (Int.toNat v4)).2.1=v6))&&((decide ((rd aX v1 (Int.toNat v4)).2.2.1=v7))&&((decide ((rd aX v1 (Int.toNat v4)).2.2.2.1=v8))&&((decide ((rd aX v1 (Int.toNat v4)).2.2.2.2=(-1)))&&true))))) (
      some (R3.next ((v1,(),(IntKind.wrap .i64 (v2+1)),(IntKind.wrap .i64 (v3+1)),(IntKind.wrap .i64 (v4+1)),()),((v5,v6,v7,v8,v9,()),()),()))) (
      some (R3.next ((v1,(),v2,(IntKind.wrap .i64 (v3+1)),(IntKind.wrap .i64 (v4+1)),()),((v5,v6,v7,v8,v9,()),()),())))) (
     none)) (
    some (R3.next ((v1,(),v2,v3,(IntKind.wrap .i64 (v4+1)),()),((v5,v6,v7,v8,v9,()),()),())))) (
   none)) (
  some (R3.out ((v2,v3,()),(),())))
noncomputable def TG (z:Js):Option (R3 Js Nh Nz):=Tp z.1.1 z.1.2.2.1 z.1.2.2.2.1 z.1.2.2.2.2.1 z.2.1.1.1 z.2.1.1.2.1 z.2.1.1.2.2.1 z.2.1.1.2.2.2.1 z.2.1.1.2.2.2.2.1
noncomputable def f20 (v1:bn)(v2 v3 v4 v5 v6:Int):Option Bn:=
 ((iter aI TG ((v1,(),0,0,0,()),((v2,v3,v4,v5,v6,()),()),()))).bind fun r=>match r with
 | .inl y7=>
   some (y7.1.1,y7.1.2.1,())
 | .inr z8=>
   none
abbrev IU:Type:=(Unit×dL×Int×Int×Unit)×(jv×nM×Unit)×bn×Unit
abbrev kN:Type:=(Unit×Unit×Unit×Int×Int×Unit)×Sp×(Unit)
abbrev ji:Type:=KC×N4×(Unit)
abbrev pg:Type:=(Unit)×N4×(Unit)
abbrev oU:Type:=bh×N4×(Unit)
noncomputable def yw (v1:bn)(v2 v3:Int)(v4:nM)(v5:bn)(v6:Int)(v7:aR)(v8 v9 v10 v11 v12 v13 v14 v15 v16 v17 v18 v19:Int)(v20:Bool)(v21:Int)(v22:aW)(v23:bn)(v24:aW)(v25 v26 v27 v28 v29 v30 v31 v32 v33 v34 v35:Int)(v36:Bool)(v37:Int)(v38:aW)(v39:bn)(v40:aW)(v41 v42 v43 v44 v45:Int):Option (R3 ji pg oU):=
 cond (decide (v3<v2)) (
  cond ((decide (0≤v3))&&(decide (v3<(v1.length:Int)))) (
   ((f75 v41 v42 v43 v44 v45)).bind fun y46=>
   cond ((decide (y46.1.1=(rd aX v1 (Int.toNat v3)).1))&&((decide (y46.1.2.1=(rd aX v1 (Int.toNat v3)).2.1))&&((decide (y46.1.2.2=(rd aX v1 (Int.toNat v3)).2.2.1))&&true))) (
    cond (decide (v44=(rd aX v1 (Int.toNat v3)).2.2.2.1)) (
     some (R3.ret ((v3,()),(((),(),()),v4,v5,(v6,v7,v8,()),(v9,v10,v11,v12,v13,v14,v15,v16,v17,v18,v19,v20,v21,v22,v23,v24,()),(v25,v26,v27,v28,v29,v30,v31,v32,v33,v34,v35,v36,v37,v38,v39,v40,()),(v41,v42,v43,v44,v45,()),()),()))) (
     some (R3.next ((v1,(),v2,(IntKind.wrap .i64 (v3+1)),()),(((),(),()),v4,v5,(v6,v7,v8,()),(v9,v10,v11,v12,v13,v14,v15,v16,v17,v18,v19,v20,v21,v22,v23,v24,()),(v25,v26,v27,v28,v29,v30,v31,v32,v33,v34,v35,v36,v37,v38,v39,v40,()),(v41,v42,v43,v44,v45,()),()),())))) (
    some (R3.next ((v1,(),v2,(IntKind.wrap .i64 (v3+1)),()),(((),(),()),v4,v5,(v6,v7,v8,()),(v9,v10,v11,v12,v13,v14,v15,v16,v17,v18,v19,v20,v21,v22,v23,v24,()),(v25,v26,v27,v28,v29,v30,v31,v32,v33,v34,v35,v36,v37,v38,v39,v40,()),(v41,v42,v43,v44,v45,()),()),())))) (
   none)) (
  some (R3.out ((),(((),(),()),v4,v5,(v6,v7,v8,()),(v9,v10,v11,v12,v13,v14,v15,v16,v17,v18,v19,v20,v21,v22,v23,v24,()),(v25,v26,v27,v28,v29,v30,v31,v32,v33,v34,v35,v36,v37,v38,v39,v40,()),(v41,v42,v43,v44,v45,()),()),())))
noncomputable def oY (z:ji):Option (R3 ji pg oU):=yw z.1.1 z.1.2.2.1 z.1.2.2.2.1 z.2.1.2.1 z.2.1.2.2.1 z.2.1.2.2.2.1.1 z.2.1.2.2.2.1.2.1 z.2.1.2.2.2.1.2.2.1 z.2.1.2.2.2.2.1.1 z.2.1.2.2.2.2.1.2.1 z.2.1.2.2.2.2.1.2.2.1 z.2.1.2.2.2.2.1.2.2.2.1 z.2.1.2.2.2.2.1.2.2.2.2.1 z.2.1.2.2.2.2.1.2.2.2.2.2.1 z.2.1.2.2.2.2.1.2.2.2.2.2.2.1 z.2.1.2.2.2.2.1.2.2.2.2.2.2.2.1 z.2.1.2.2.2.2.1.2.2.2.2.2.2.2.2.1 z.2.1.2.2.2.2.1.2.2.2.2.2.2.2.2.2.1 z.2.1.2.2.2.2.1.2.2.2.2.2.2.2.2.2.2.1 z.2.1.2.2.2.2.1.2.2.2.2.2.2.2.2.2.2.2.1 z.2.1.2.2.2.2.1.2.2.2.2.2.2.2.2.2.2.2.2.1 z.2.1.2.2.2.2.1.2.2.2.2.2.2.2.2.2.2.2.2.2.1 z.2.1.2.2.2.2.1.2.2.2.2.2.2.2.2.2.2.2.2.2.2.1 z.2.1.2.2.2.2.1.2.2.2.2.2.2.2.2.2.2.2.2.2.2.2.1 z.2.1.2.2.2.2.2.1.1 z.2.1.2.2.2.2.2.1.2.1 z.2.1.2.2.2.2.2.1.2.2.1 z.2.1.2.2.2.2.2.1.2.2.2.1 z.2.1.2.2.2.2.2.1.2.2.2.2.1 z.2.1.2.2.2.2.2.1.2.2.2.2.2.1 z.2.1.2.2.2.2.2.1.2.2.2.2.2.2.1 z.2.1.2.2.2.2.2.1.2.2.2.2.2.2.2.1 z.2.1.2.2.2.2.2.1.2.2.2.2.2.2.2.2.1 z.2.1.2.2.2.2.2.1.2.2.2.2.2.2.2.2.2.1 z.2.1.2.2.2.2.2.1.2.2.2.2.2.2.2.2.2.2.1 z.2.1.2.2.2.2.2.1.2.2.2.2.2.2.2.2.2.2.2.1 z.2.1.2.2.2.2.2.1.2.2.2.2.2.2.2.2.2.2.2.2.1 z.2.1.2.2.2.2.2.1.2.2.2.2.2.2.2.2.2.2.2.2.2.1 z.2.1.2.2.2.2.2.1.2.2.2.2.2.2.2.2.2.2.2.2.2.2.1 z.2.1.2.2.2.2.2.1.2.2.2.2.2.2.2.2.2.2.2.2.2.2.2.1 z.2.1.2.2.2.2.2.2.1.1 z.2.1.2.2.2.2.2.2.1.2.1 z.2.1.2.2.2.2.2.2.1.2.2.1 z.2.1.2.2.2.2.2.2.1.2.2.2.1 z.2.1.2.2.2.2.2.2.1.2.2.2.2.1
abbrev qR:Type:=jv×Sp×(Unit)
abbrev qG:Type:=Unit×(Unit×Unit×Unit×Unit×Unit×Unit)×Unit
noncomputable def BL (v1 v2:Int)(v3:nM)(v4:bn)(v5:Int)(v6:aR)(v7 v8 v9 v10 v11 v12 v13 v14 v15 v16 v17 v18:Int)(v19:Bool)(v20:Int)(v21:aW)(v22:bn)(v23:aW)(v24 v25 v26 v27 v28 v29 v30 v31 v32 v33 v34:Int)(v35:Bool)(v36:Int)(v37:aW)(v38:bn)(v39:aW):Option (R3 kN qR qG):=
 cond (decide (v2<v1)) (
  cond ((decide (0≤v2))&&(decide (v2<(v4.length:Int)))) (
   cond (decide ((Int.toNat v2)<v4.length)) (
    cond (decide ((rd aX v4 (Int.toNat v2)).2.2.2.2=(-1))) (
     cond ((decide (0≤v2))&&(decide (v2<(v4.length:Int)))) (
      cond (decide ((Int.toNat v2)<v4.length)) (
       ((iter aI oY ((v38,(),(v38.length:Int),0,()),(((),(),()),v3,v4,(v5,v6,v7,()),(v8,v9,v10,v11,v12,v13,v14,v15,v16,v17,v18,v19,v20,v21,v22,v23,()),(v24,v25,v26,v27,v28,v29,v30,v31,v32,v33,v34,v35,v36,v37,v38,v39,()),((rd aX v4 (Int.toNat v2)).1,(rd aX v4 (Int.toNat v2)).2.1,(rd aX v4 (Int.toNat v2)).2.2.1,(rd aX v4 (Int.toNat v2)).2.2.2.1,(rd aX v4 (Int.toNat v2)).2.2.2.2,()),()),()))).bind fun r=>match r with
       | .inl y40=>
         cond ((decide (0≤v2))&&(decide (v2<(y40.2.1.2.2.1.length:Int)))) (
          cond (decide ((Int.toNat v2)<y40.2.1.2.2.1.length)) (
           ((f75 (rd aX y40.2.1.2.2.1 (Int.toNat v2)).1 (rd aX y40.2.1.2.2.1 (Int.toNat v2)).2.1 (rd aX y40.2.1.2.2.1 (Int.toNat v2)).2.2.1 (rd aX y40.2.1.2.2.1 (Int.toNat v2)).2.2.2.1 (rd aX y40.2.1.2.2.1 (Int.toNat v2)).2.2.2.2)).bind fun y42=>
           cond (jm y40.2.1.2.1 (y42.1.1,y42.1.2.1,y42.1.2.2)) (
            cond ((decide (0≤(bc y40.2.1.2.1 (y42.1.1,y42.1.2.1,y42.1.2.2))))&&(decide ((bc y40.2.1.2.1 (y42.1.1,y42.1.2.1,y42.1.2.2))<(y40.2.1.2.2.1.length:Int)))) (
             cond (decide ((Int.toNat (bc y40.2.1.2.1 (y42.1.1,y42.1.2.1,y42.1.2.2)))<y40.2.1.2.2.1.length)) (
              some (R3.next (((),(),(),v1,(IntKind.wrap .i64 (v2+1)),()),(((),(),()),(j0 y40.2.1.2.1 (y42.1.1,y42.1.2.1,y42.1.2.2)),(y40.2.1.2.2.1.set (Int.toNat (bc y40.2.1.2.1 (y42.1.1,y42.1.2.1,y42.1.2.2))) ((rd aX y40.2.1.2.2.1 (Int.toNat (bc y40.2.1.2.1 (y42.1.1,y42.1.2.1,y42.1.2.2)))).1,(rd aX y40.2.1.2.2.1 (Int.toNat (bc y40.2.1.2.1 (y42.1.1,y42.1.2.1,y42.1.2.2)))).2.1,(rd aX y40.2.1.2.2.1 (Int.toNat (bc y40.2.1.2.1 (y42.1.1,y42.1.2.1,y42.1.2.2)))).2.2.1,(rd aX y40.2.1.2.2.1 (Int.toNat (bc y40.2.1.2.1 (y42.1.1,y42.1.2.1,y42.1.2.2)))).2.2.2.1,y40.2.1.2.2.2.2.2.1.2.2.2.2.2.2.2.2.2.2.2.2.1)),(y40.2.1.2.2.2.1.1,y40.2.1.2.2.2.1.2.1,y40.2.1.2.2.2.1.2.2.1,()),(y40.2.1.2.2.2.2.1.1,y40.2.1.2.2.2.2.1.2.1,y40.2.1.2.2.2.2.1.2.2.1,y40.2.1.2.2.2.2.1.2.2.2.1,y40.2.1.2.2.2.2.1.2.2.2.2.1,y40.2.1.2.2.2.2.1.2.2.2.2.2.1,y40.2.1.2.2.2.2.1.2.2.2.2.2.2.1,y40.2.1.2.2.2.2.1.2.2.2.2.2.2.2.1,y40.2.1.2.2.2.2.1.2.2.2.2.2.2.2.2.1,y40.2.1.2.2.2.2.1.2.2.2.2.2.2.2.2.2.1,y40.2.1.2.2.2.2.1.2.2.2.2.2.2.2.2.2.2.1,y40.2.1.2.2.2.2.1.2.2.2.2.2.2.2.2.2.2.2.1,y40.2.1.2.2.2.2.1.2.2.2.2.2.2.2.2.2.2.2.2.1,y40.2.1.2.2.2.2.1.2.2.2.2.2.2.2.2.2.2.2.2.2.1,y40.2.1.2.2.2.2.1.2.2.2.2.2.2.2.2.2.2.2.2.2.2.1,y40.2.1.2.2.2.2.1.2.2.2.2.2.2.2.2.2.2.2.2.2.2.2.1,()),(y40.2.1.2.2.2.2.2.1.1,y40.2.1.2.2.2.2.2.1.2.1,y40.2.1.2.2.2.2.2.1.2.2.1,y40.2.1.2.2.2.2.2.1.2.2.2.1,y40.2.1.2.2.2.2.2.1.2.2.2.2.1,y40.2.1.2.2.2.2.2.1.2.2.2.2.2.1,y40.2.1.2.2.2.2.2.1.2.2.2.2.2.2.1,y40.2.1.2.2.2.2.2.1.2.2.2.2.2.2.2.1,y40.2.1.2.2.2.2.2.1.2.2.2.2.2.2.2.2.1,y40.2.1.2.2.2.2.2.1.2.2.2.2.2.2.2.2.2.1,y40.2.1.2.2.2.2.2.1.2.2.2.2.2.2.2.2.2.2.1,y40.2.1.2.2.2.2.2.1.2.2.2.2.2.2.2.2.2.2.2.1,y40.2.1.2.2.2.2.2.1.2.2.2.2.2.2.2.2.2.2.2.2.1,y40.2.1.2.2.2.2.2.1.2.2.2.2.2.2.2.2.2.2.2.2.2.1,y40.2.1.2.2.2.2.2.1.2.2.2.2.2.2.2.2.2.2.2.2.2.2.1,y40.2.1.2.2.2.2.2.1.2.2.2.2.2.2.2.2.2.2.2.2.2.2.2.1,()),()),()))) (
              none)) (
             none)) (
            some (R3.next (((),(),(),v1,(IntKind.wrap .i64 (v2+1)),()),(((),(),()),y40.2.1.2.1,y40.2.1.2.2.1,(y40.2.1.2.2.2.1.1,y40.2.1.2.2.2.1.2.1,y40.2.1.2.2.2.1.2.2.1,()),(y40.2.1.2.2.2.2.1.1,y40.2.1.2.2.2.2.1.2.1,y40.2.1.2.2.2.2.1.2.2.1,y40.2.1.2.2.2.2.1.2.2.2.1,y40.2.1.2.2.2.2.1.2.2.2.2.1,y40.2.1.2.2.2.2.1.2.2.2.2.2.1,y40.2.1.2.2.2.2.1.2.2.2.2.2.2.1,y40.2.1.2.2.2.2.1.2.2.2.2.2.2.2.1,y40.2.1.2.2.2.2.1.2.2.2.2.2.2.2.2.1,y40.2.1.2.2.2.2.1.2.2.2.2.2.2.2.2.2.1,y40.2.1.2.2.2.2.1.2.2.2.2.2.2.2.2.2.2.1,y40.2.1.2.2.2.2.1.2.2.2.2.2.2.2.2.2.2.2.1,y40.2.1.2.2.2.2.1.2.2.2.2.2.2.2.2.2.2.2.2.1,y40.2.1.2.2.2.2.1.2.2.2.2.2.2.2.2.2.2.2.2.2.1,y40.2.1.2.2.2.2.1.2.2.2.2.2.2.2.2.2.2.2.2.2.2.1,y40.2.1.2.2.2.2.1.2.2.2.2.2.2.2.2.2.2.2.2.2.2.2.1,()),(y40.2.1.2.2.2.2.2.1.1,y40.2.1.2.2.2.2.2.1.2.1,y40.2.1.2.2.2.2.2.1.2.2.1,y40.2.1.2.2.2.2.2.1.2.2.2.1,y40.2.1.2.2.2.2.2.1.2.2.2.2.1,y40.2.1.2.2.2.2.2.1.2.2.2.2.2.1,y40.2.1.2.2.2.2.2.1.2.2.2.2.2.2.1,y40.2.1.2.2.2.2.2.1.2.2.2.2.2.2.2.1,y40.2.1.2.2.2.2.2.1.2.2.2.2.2.2.2.2.1,y40.2.1.2.2.2.2.2.1.2.2.2.2.2.2.2.2.2.1,y40.2.1.2.2.2.2.2.1.2.2.2.2.2.2.2.2.2.2.1,y40.2.1.2.2.2.2.2.1.2.2.2.2.2.2.2.2.2.2.2.1,y40.2.1.2.2.2.2.2.1.2.2.2.2.2.2.2.2.2.2.2.2.1,y40.2.1.2.2.2.2.2.1.2.2.2.2.2.2.2.2.2.2.2.2.2.1,y40.2.1.2.2.2.2.2.1.2.2.2.2.2.2.2.2.2.2.2.2.2.2.1,y40.2.1.2.2.2.2.2.1.2.2.2.2.2.2.2.2.2.2.2.2.2.2.2.1,()),()),())))) (
           none)) (
          none)
       | .inr z41=>
         cond (!(decide (0≤z41.1.1))) (
          cond ((decide (0≤v2))&&(decide (v2<(z41.2.1.2.2.1.length:Int)))) (
           cond (decide ((Int.toNat v2)<z41.2.1.2.2.1.length)) (
            ((f75 (rd aX z41.2.1.2.2.1 (Int.toNat v2)).1 (rd aX z41.2.1.2.2.1 (Int.toNat v2)).2.1 (rd aX z41.2.1.2.2.1 (Int.toNat v2)).2.2.1 (rd aX z41.2.1.2.2.1 (Int.toNat v2)).2.2.2.1 (rd aX z41.2.1.2.2.1 (Int.toNat v2)).2.2.2.2)).bind fun y43=>
            cond (jm z41.2.1.2.1 (y43.1.1,y43.1.2.1,y43.1.2.2)) (
             cond ((decide (0≤(bc z41.2.1.2.1 (y43.1.1,y43.1.2.1,y43.1.2.2))))&&(decide ((bc z41.2.1.2.1 (y43.1.1,y43.1.2.1,y43.1.2.2))<(z41.2.1.2.2.1.length:Int)))) (
              cond (decide ((Int.toNat (bc z41.2.1.2.1 (y43.1.1,y43.1.2.1,y43.1.2.2)))<z41.2.1.2.2.1.length)) (
               some (R3.next (((),(),(),v1,(IntKind.wrap .i64 (v2+1)),()),(((),(),()),(j0 z41.2.1.2.1 (y43.1.1,y43.1.2.1,y43.1.2.2)),(z41.2.1.2.2.1.set (Int.toNat (bc z41.2.1.2.1 (y43.1.1,y43.1.2.1,y43.1.2.2))) ((rd aX z41.2.1.2.2.1 (Int.toNat (bc z41.2.1.2.1 (y43.1.1,y43.1.2.1,y43.1.2.2)))).1,(rd aX z41.2.1.2.2.1 (Int.toNat (bc z41.2.1.2.1 (y43.1.1,y43.1.2.1,y43.1.2.2)))).2.1,(rd aX z41.2.1.2.2.1 (Int.toNat (bc z41.2.1.2.1 (y43.1.1,y43.1.2.1,y43.1.2.2)))).2.2.1,(rd aX z41.2.1.2.2.1 (Int.toNat (bc z41.2.1.2.1 (y43.1.1,y43.1.2.1,y43.1.2.2)))).2.2.2.1,z41.2.1.2.2.2.2.2.1.2.2.2.2.2.2.2.2.2.2.2.2.1)),(z41.2.1.2.2.2.1.1,z41.2.1.2.2.2.1.2.1,z41.2.1.2.2.2.1.2.2.1,()),(z41.2.1.2.2.2.2.1.1,z41.2.1.2.2.2.2.1.2.1,z41.2.1.2.2.2.2.1.2.2.1,z41.2.1.2.2.2.2.1.2.2.2.1,z41.2.1.2.2.2.2.1.2.2.2.2.1,z41.2.1.2.2.2.2.1.2.2.2.2.2.1,z41.2.1.2.2.2.2.1.2.2.2.2.2.2.1,z41.2.1.2.2.2.2.1.2.2.2.2.2.2.2.1,z41.2.1.2.2.2.2.1.2.2.2.2.2.2.2.2.1,z41.2.1.2.2.2.2.1.2.2.2.2.2.2.2.2.2.1,z41.2.1.2.2.2.2.1.2.2.2.2.2.2.2.2.2.2.1,z41.2.1.2.2.2.2.1.2.2.2.2.2.2.2.2.2.2.2.1,z41.2.1.2.2.2.2.1.2.2.2.2.2.2.2.2.2.2.2.2.1,z41.2.1.2.2.2.2.1.2.2.2.2.2.2.2.2.2.2.2.2.2.1,z41.2.1.2.2.2.2.1.2.2.2.2.2.2.2.2.2.2.2.2.2.2.1,z41.2.1.2.2.2.2.1.2.2.2.2.2.2.2.2.2.2.2.2.2.2.2.1,()),(z41.2.1.2.2.2.2.2.1.1,z41.2.1.2.2.2.2.2.1.2.1,z41.2.1.2.2.2.2.2.1.2.2.1,z41.2.1.2.2.2.2.2.1.2.2.2.1,z41.2.1.2.2.2.2.2.1.2.2.2.2.1,z41.2.1.2.2.2.2.2.1.2.2.2.2.2.1,z41.2.1.2.2.2.2.2.1.2.2.2.2.2.2.1,z41.2.1.2.2.2.2.2.1.2.2.2.2.2.2.2.1,z41.2.1.2.2.2.2.2.1.2.2.2.2.2.2.2.2.1,z41.2.1.2.2.2.2.2.1.2.2.2.2.2.2.2.2.2.1,z41.2.1.2.2.2.2.2.1.2.2.2.2.2.2.2.2.2.2.1,z41.2.1.2.2.2.2.2.1.2.2.2.2.2.2.2.2.2.2.2.1,z41.2.1.2.2.2.2.2.1.2.2.2.2.2.2.2.2.2.2.2.2.1,z41.2.1.2.2.2.2.2.1.2.2.2.2.2.2.2.2.2.2.2.2.2.1,z41.2.1.2.2.2.2.2.1.2.2.2.2.2.2.2.2.2.2.2.2.2.2.1,z41.2.1.2.2.2.2.2.1.2.2.2.2.2.2.2.2.2.2.2.2.2.2.2.1,()),()),()))) (
               none)) (
              none)) (
             some (R3.next (((),(),(),v1,(IntKind.wrap .i64 (v2+1)),()),(((),(),()),z41.2.1.2.1,z41.2.1.2.2.1,(z41.2.1.2.2.2.1.1,z41.2.1.2.2.2.1.2.1,z41.2.1.2.2.2.1.2.2.1,()),(z41.2.1.2.2.2.2.1.1,z41.2.1.2.2.2.2.1.2.1,z41.2.1.2.2.2.2.1.2.2.1,z41.2.1.2.2.2.2.1.2.2.2.1,z41.2.1.2.2.2.2.1.2.2.2.2.1,z41.2.1.2.2.2.2.1.2.2.2.2.2.1,z41.2.1.2.2.2.2.1.2.2.2.2.2.2.1,z41.2.1.2.2.2.2.1.2.2.2.2.2.2.2.1,z41.2.1.2.2.2.2.1.2.2.2.2.2.2.2.2.1,z41.2.1.2.2.2.2.1.2.2.2.2.2.2.2.2.2.1,z41.2.1.2.2.2.2.1.2.2.2.2.2.2.2.2.2.2.1,z41.2.1.2.2.2.2.1.2.2.2.2.2.2.2.2.2.2.2.1,z41.2.1.2.2.2.2.1.2.2.2.2.2.2.2.2.2.2.2.2.1,z41.2.1.2.2.2.2.1.2.2.2.2.2.2.2.2.2.2.2.2.2.1,z41.2.1.2.2.2.2.1.2.2.2.2.2.2.2.2.2.2.2.2.2.2.1,z41.2.1.2.2.2.2.1.2.2.2.2.2.2.2.2.2.2.2.2.2.2.2.1,()),(z41.2.1.2.2.2.2.2.1.1,z41.2.1.2.2.2.2.2.1.2.1,z41.2.1.2.2.2.2.2.1.2.2.1,z41.2.1.2.2.2.2.2.1.2.2.2.1,z41.2.1.2.2.2.2.2.1.2.2.2.2.1,z41.2.1.2.2.2.2.2.1.2.2.2.2.2.1,z41.2.1.2.2.2.2.2.1.2.2.2.2.2.2.1,z41.2.1.2.2.2.2.2.1.2.2.2.2.2.2.2.1,z41.2.1.2.2.2.2.2.1.2.2.2.2.2.2.2.2.1,z41.2.1.2.2.2.2.2.1.2.2.2.2.2.2.2.2.2.1,z41.2.1.2.2.2.2.2.1.2.2.2.2.2.2.2.2.2.2.1,z41.2.1.2.2.2.2.2.1.2.2.2.2.2.2.2.2.2.2.2.1,z41.2.1.2.2.2.2.2.1.2.2.2.2.2.2.2.2.2.2.2.2.1,z41.2.1.2.2.2.2.2.1.2.2.2.2.2.2.2.2.2.2.2.2.2.1,z41.2.1.2.2.2.2.2.1.2.2.2.2.2.2.2.2.2.2.2.2.2.2.1,z41.2.1.2.2.2.2.2.1.2.2.2.2.2.2.2.2.2.2.2.2.2.2.2.1,()),()),())))) (
            none)) (
           none)) (
          some (R3.next (((),(),(),v1,(IntKind.wrap .i64 (v2+1)),()),(((),(),()),z41.2.1.2.1,z41.2.1.2.2.1,(z41.2.1.2.2.2.1.1,z41.2.1.2.2.2.1.2.1,z41.2.1.2.2.2.1.2.2.1,()),(z41.2.1.2.2.2.2.1.1,z41.2.1.2.2.2.2.1.2.1,z41.2.1.2.2.2.2.1.2.2.1,z41.2.1.2.2.2.2.1.2.2.2.1,z41.2.1.2.2.2.2.1.2.2.2.2.1,z41.2.1.2.2.2.2.1.2.2.2.2.2.1,z41.2.1.2.2.2.2.1.2.2.2.2.2.2.1,z41.2.1.2.2.2.2.1.2.2.2.2.2.2.2.1,z41.2.1.2.2.2.2.1.2.2.2.2.2.2.2.2.1,z41.2.1.2.2.2.2.1.2.2.2.2.2.2.2.2.2.1,z41.2.1.2.2.2.2.1.2.2.2.2.2.2.2.2.2.2.1,z41.2.1.2.2.2.2.1.2.2.2.2.2.2.2.2.2.2.2.1,z41.2.1.2.2.2.2.1.2.2.2.2.2.2.2.2.2.2.2.2.1,z41.2.1.2.2.2.2.1.2.2.2.2.2.2.2.2.2.2.2.2.2.1,z41.2.1.2.2.2.2.1.2.2.2.2.2.2.2.2.2.2.2.2.2.2.1,z41.2.1.2.2.2.2.1.2.2.2.2.2.2.2.2.2.2.2.2.2.2.2.1,()),(z41.2.1.2.2.2.2.2.1.1,z41.2.1.2.2.2.2.2.1.2.1,z41.2.1.2.2.2.2.2.1.2.2.1,z41.2.1.2.2.2.2.2.1.2.2.2.1,z41.2.1.2.2.2.2.2.1.2.2.2.2.1,z41.2.1.2.2.2.2.2.1.2.2.2.2.2.1,z41.2.1.2.2.2.2.2.1.2.2.2.2.2.2.1,z41.2.1.2.2.2.2.2.1.2.2.2.2.2.2.2.1,z41.2.1.2.2.2.2.2.1.2.2.2.2.2.2.2.2.1,z41.2.1.2.2.2.2.2.1.2.2.2.2.2.2.2.2.2.1,z41.2.1.2.2.2.2.2.1.2.2.2.2.2.2.2.2.2.2.1,z41.2.1.2.2.2.2.2.1.2.2.2.2.2.2.2.2.2.2.2.1,z41.2.1.2.2.2.2.2.1.2.2.2.2.2.2.2.2.2.2.2.2.1,z41.2.1.2.2.2.2.2.1.2.2.2.2.2.2.2.2.2.2.2.2.2.1,z41.2.1.2.2.2.2.2.1.2.2.2.2.2.2.2.2.2.2.2.2.2.2.1,z41.2.1.2.2.2.2.2.1.2.2.2.2.2.2.2.2.2.2.2.2.2.2.2.1,()),()),())))) (
       none)) (
      none)) (
     some (R3.next (((),(),(),v1,(IntKind.wrap .i64 (v2+1)),()),(((),(),()),v3,v4,(v5,v6,v7,()),(v8,v9,v10,v11,v12,v13,v14,v15,v16,v17,v18,v19,v20,v21,v22,v23,()),(v24,v25,v26,v27,v28,v29,v30,v31,v32,v33,v34,v35,v36,v37,v38,v39,()),()),())))) (
    none)) (
   none)) (
  some (R3.out (((),(),()),(((),(),()),v3,v4,(v5,v6,v7,()),(v8,v9,v10,v11,v12,v13,v14,v15,v16,v17,v18,v19,v20,v21,v22,v23,()),(v24,v25,v26,v27,v28,v29,v30,v31,v32,v33,v34,v35,v36,v37,v38,v39,()),()),())))
noncomputable def rX (z:kN):Option (R3 kN qR qG):=BL z.1.2.2.2.1 z.1.2.2.2.2.1 z.2.1.2.1 z.2.1.2.2.1 z.2.1.2.2.2.1.1 z.2.1.2.2.2.1.2.1 z.2.1.2.2.2.1.2.2.1 z.2.1.2.2.2.2.1.1 z.2.1.2.2.2.2.1.2.1 z.2.1.2.2.2.2.1.2.2.1 z.2.1.2.2.2.2.1.2.2.2.1 z.2.1.2.2.2.2.1.2.2.2.2.1 z.2.1.2.2.2.2.1.2.2.2.2.2.1 z.2.1.2.2.2.2.1.2.2.2.2.2.2.1 z.2.1.2.2.2.2.1.2.2.2.2.2.2.2.1 z.2.1.2.2.2.2.1.2.2.2.2.2.2.2.2.1 z.2.1.2.2.2.2.1.2.2.2.2.2.2.2.2.2.1 z.2.1.2.2.2.2.1.2.2.2.2.2.2.2.2.2.2.1 z.2.1.2.2.2.2.1.2.2.2.2.2.2.2.2.2.2.2.1 z.2.1.2.2.2.2.1.2.2.2.2.2.2.2.2.2.2.2.2.1 z.2.1.2.2.2.2.1.2.2.2.2.2.2.2.2.2.2.2.2.2.1 z.2.1.2.2.2.2.1.2.2.2.2.2.2.2.2.2.2.2.2.2.2.1 z.2.1.2.2.2.2.1.2.2.2.2.2.2.2.2.2.2.2.2.2.2.2.1 z.2.1.2.2.2.2.2.1.1 z.2.1.2.2.2.2.2.1.2.1 z.2.1.2.2.2.2.2.1.2.2.1 z.2.1.2.2.2.2.2.1.2.2.2.1 z.2.1.2.2.2.2.2.1.2.2.2.2.1 z.2.1.2.2.2.2.2.1.2.2.2.2.2.1 z.2.1.2.2.2.2.2.1.2.2.2.2.2.2.1 z.2.1.2.2.2.2.2.1.2.2.2.2.2.2.2.1 z.2.1.2.2.2.2.2.1.2.2.2.2.2.2.2.2.1 z.2.1.2.2.2.2.2.1.2.2.2.2.2.2.2.2.2.1 z.2.1.2.2.2.2.2.1.2.2.2.2.2.2.2.2.2.2.1 z.2.1.2.2.2.2.2.1.2.2.2.2.2.2.2.2.2.2.2.1 z.2.1.2.2.2.2.2.1.2.2.2.2.2.2.2.2.2.2.2.2.1 z.2.1.2.2.2.2.2.1.2.2.2.2.2.2.2.2.2.2.2.2.2.1 z.2.1.2.2.2.2.2.1.2.2.2.2.2.2.2.2.2.2.2.2.2.2.1 z.2.1.2.2.2.2.2.1.2.2.2.2.2.2.2.2.2.2.2.2.2.2.2.1
abbrev kI:Type:=KW×(jv×nM×bn×(Int×aR×Int×Unit)×Eb×Unit)×bn×Unit
abbrev q8:Type:=(Unit)×(jv×nM×bn×(Int×aR×Int×Unit)×Eb×Unit)×bn×Unit
abbrev qv:Type:=Unit×(Unit×Unit×Unit×Unit×Unit×Unit)×Unit
noncomputable def Bf (v1:bn)(v2 v3:Int)(v4:nM)(v5:bn)(v6:Int)(v7:aR)(v8 v9 v10 v11 v12 v13 v14 v15 v16 v17 v18 v19:Int)(v20:Bool)(v21:Int)(v22:aW)(v23:bn)(v24:aW)(v25:bn):Option (R3 kI q8 qv):=
 cond (decide (v3<v2)) (
  cond ((decide (0≤v3))&&(decide (v3<(v1.length:Int)))) (
   ((f75 (rd aX v1 (Int.toNat v3)).1 (rd aX v1 (Int.toNat v3)).2.1 (rd aX v1 (Int.toNat v3)).2.2.1 (rd aX v1 (Int.toNat v3)).2.2.2.1 (-1))).bind fun y26=>
   cond (!(jm v4 (y26.1.1,y26.1.2.1,y26.1.2.2))) (
    ((f75 (rd aX v1 (Int.toNat v3)).1 (rd aX v1 (Int.toNat v3)).2.1 (rd aX v1 (Int.toNat v3)).2.2.1 (rd aX v1 (Int.toNat v3)).2.2.2.1 (-1))).bind fun y27=>
    cond ((decide (((v25.length+1) * 40)≤140737488355328))&&(decide ((v25.length+1)≤9223372036854775807))) (
     some (R3.next (((),v1,v2,(IntKind.wrap .i64 (v3+1)),()),(((),(),()),(jV v4 (y27.1.1,y27.1.2.1,y27.1.2.2) (v25.length:Int)),v5,(v6,v7,v8,()),(v9,v10,v11,v12,v13,v14,v15,v16,v17,v18,v19,v20,v21,v22,v23,v24,()),()),(v25++[((rd aX v1 (Int.toNat v3)).1,(rd aX v1 (Int.toNat v3)).2.1,(rd aX v1 (Int.toNat v3)).2.2.1,(rd aX v1 (Int.toNat v3)).2.2.2.1,(-1))]),()))) (
     none)) (
    some (R3.next (((),v1,v2,(IntKind.wrap .i64 (v3+1)),()),(((),(),()),v4,v5,(v6,v7,v8,()),(v9,v10,v11,v12,v13,v14,v15,v16,v17,v18,v19,v20,v21,v22,v23,v24,()),()),v25,())))) (
   none)) (
  some (R3.out ((),(((),(),()),v4,v5,(v6,v7,v8,()),(v9,v10,v11,v12,v13,v14,v15,v16,v17,v18,v19,v20,v21,v22,v23,v24,()),()),v25,())))
noncomputable def qw (z:kI):Option (R3 kI q8 qv):=Bf z.1.2.1 z.1.2.2.1 z.1.2.2.2.1 z.2.1.2.1 z.2.1.2.2.1 z.2.1.2.2.2.1.1 z.2.1.2.2.2.1.2.1 z.2.1.2.2.2.1.2.2.1 z.2.1.2.2.2.2.1.1 z.2.1.2.2.2.2.1.2.1 z.2.1.2.2.2.2.1.2.2.1 z.2.1.2.2.2.2.1.2.2.2.1 z.2.1.2.2.2.2.1.2.2.2.2.1 z.2.1.2.2.2.2.1.2.2.2.2.2.1 z.2.1.2.2.2.2.1.2.2.2.2.2.2.1 z.2.1.2.2.2.2.1.2.2.2.2.2.2.2.1 z.2.1.2.2.2.2.1.2.2.2.2.2.2.2.2.1 z.2.1.2.2.2.2.1.2.2.2.2.2.2.2.2.2.1 z.2.1.2.2.2.2.1.2.2.2.2.2.2.2.2.2.2.1 z.2.1.2.2.2.2.1.2.2.2.2.2.2.2.2.2.2.2.1 z.2.1.2.2.2.2.1.2.2.2.2.2.2.2.2.2.2.2.2.1 z.2.1.2.2.2.2.1.2.2.2.2.2.2.2.2.2.2.2.2.2.1 z.2.1.2.2.2.2.1.2.2.2.2.2.2.2.2.2.2.2.2.2.2.1 z.2.1.2.2.2.2.1.2.2.2.2.2.2.2.2.2.2.2.2.2.2.2.1 z.2.2.1
abbrev AZ:Type:=(Unit×dL×Int×Int×uX×Int×Int×Unit)×(jv×nM×Unit)×bn×Unit
abbrev GF:Type:=(Unit×dL×Int×Int×Unit)×(jv×nM×Unit)×bn×Unit
abbrev I8:Type:=Unit×Unit×Unit
noncomputable def Qd (v1:dL)(v2 v3:Int)(v4:uX)(v5 v6:Int)(v7:nM)(v8:bn):Option (R3 AZ GF I8):=
 cond (decide (v6<v5)) (
  cond ((decide (0≤v6))&&(decide (v6<(v4.length:Int)))) (
   cond (decide ((rd b8 v4 (Int.toNat v6)).1=0)) (
    ((f75 (rd b8 v4 (Int.toNat v6)).2.2.1 (rd b8 v4 (Int.toNat v6)).2.2.2.1 (rd b8 v4 (Int.toNat v6)).2.2.2.2.1 (rd b8 v4 (Int.toNat v6)).2.1 (-1))).bind fun y9=>
    cond ((decide (((v8.length+1) * 40)≤140737488355328))&&(decide ((v8.length+1)≤9223372036854775807))) (
     some (R3.next (((),v1,v2,v3,v4,v5,(IntKind.wrap .i64 (v6+1)),()),(((),(),()),(jV v7 (y9.1.1,y9.1.2.1,y9.1.2.2) (v8.length:Int)),()),(v8++[((rd b8 v4 (Int.toNat v6)).2.2.1,(rd b8 v4 (Int.toNat v6)).2.2.2.1,(rd b8 v4 (Int.toNat v6)).2.2.2.2.1,(rd b8 v4 (Int.toNat v6)).2.1,(-1))]),()))) (
     none)) (
    cond (decide ((rd b8 v4 (Int.toNat v6)).1=1)) (
     cond (jm v7 ((rd b8 v4 (Int.toNat v6)).2.2.1,(rd b8 v4 (Int.toNat v6)).2.2.2.1,(rd b8 v4 (Int.toNat v6)).2.2.2.2.1)) (
      cond ((decide (0≤(bc v7 ((rd b8 v4 (Int.toNat v6)).2.2.1,(rd b8 v4 (Int.toNat v6)).2.2.2.1,(rd b8 v4 (Int.toNat v6)).2.2.2.2.1))))&&(decide ((bc v7 ((rd b8 v4 (Int.toNat v6)).2.2.1,(rd b8 v4 (Int.toNat v6)).2.2.2.1,(rd b8 v4 (Int.toNat v6)).2.2.2.2.1))<(v8.length:Int)))) (
       cond (decide ((Int.toNat (bc v7 ((rd b8 v4 (Int.toNat v6)).2.2.1,(rd b8 v4 (Int.toNat v6)).2.2.2.1,(rd b8 v4 (Int.toNat v6)).2.2.2.2.1)))<v8.length)) (
        some (R3.next (((),v1,v2,v3,v4,v5,(IntKind.wrap .i64 (v6+1)),()),(((),(),()),(j0 v7 ((rd b8 v4 (Int.toNat v6)).2.2.1,(rd b8 v4 (Int.toNat v6)).2.2.2.1,(rd b8 v4 (Int.toNat v6)).2.2.2.2.1)),()),(v8.set (Int.toNat (bc v7 ((rd b8 v4 (Int.toNat v6)).2.2.1,(rd b8 v4 (Int.toNat v6)).2.2.2.1,(rd b8 v4 (Int.toNat v6)).2.2.2.2.1))) ((rd aX v8 (Int.toNat (bc v7 ((rd b8 v4 (Int.toNat v6)).2.2.1,(rd b8 v4 (Int.toNat v6)).2.2.2.1,(rd b8 v4 (Int.toNat v6)).2.2.2.2.1)))).1,(rd aX v8 (Int.toNat (bc v7 ((rd b8 v4 (Int.toNat v6)).2.2.1,(rd b8 v4 (Int.toNat v6)).2.2.2.1,(rd b8 v4 (Int.toNat v6)).2.2.2.2.1)))).2.1,(rd aX v8 (Int.toNat (bc v7 ((rd b8 v4 (Int.toNat v6)).2.2.1,(rd b8 v4 (Int.toNat v6)).2.2.2.1,(rd b8 v4 (Int.toNat v6)).2.2.2.2.1)))).2.2.1,(rd aX v8 (Int.toNat (bc v7 ((rd b8 v4 (Int.toNat v6)).2.2.1,(rd b8 v4 (Int.toNat v6)).2.2.2.1,(rd b8 v4 (Int.toNat v6)).2.2.2.2.1)))).2.2.2.1,(rd b8 v4 (Int.toNat v6)).2.1)),()))) (
        none)) (
       none)) (
      some (R3.next (((),v1,v2,v3,v4,v5,(IntKind.wrap .i64 (v6+1)),()),(((),(),()),v7,()),v8,())))) (
     some (R3.next (((),v1,v2,v3,v4,v5,(IntKind.wrap .i64 (v6+1)),()),(((),(),()),v7,()),v8,()))))) (
   none)) (
  some (R3.out (((),v1,v2,v3,()),(((),(),()),v7,()),v8,())))
noncomputable def G6 (z:AZ):Option (R3 AZ GF I8):=Qd z.1.2.1 z.1.2.2.1 z.1.2.2.2.1 z.1.2.2.2.2.1 z.1.2.2.2.2.2.1 z.1.2.2.2.2.2.2.1 z.2.1.2.1 z.2.2.1
abbrev NS:Type:=pH×(jv×nM×Unit)×bn×Unit
abbrev Nr:Type:=Unit×Unit×Unit
noncomputable def Ss (v1:dL)(v2 v3:Int)(v4:nM)(v5:bn):Option (R3 IU NS Nr):=
 cond (decide (v3<v2)) (
  cond ((decide (0≤v3))&&(decide (v3<(v1.length:Int)))) (
   ((f39 (rd bT v1 (Int.toNat v3)).2.1)).bind fun y6=>
   cond (!y6.2.2.1) (
    some (R3.next (((),v1,v2,(IntKind.wrap .i64 (v3+1)),()),(((),(),()),v4,()),v5,()))) (
    ((iter aI rX (((),(),(),(v5.length:Int),0,()),(((),(),()),v4,v5,((rd bT v1 (Int.toNat v3)).1,(rd bT v1 (Int.toNat v3)).2.1,(rd bT v1 (Int.toNat v3)).2.2,()),(y6.1.1.1.1,y6.1.1.1.2,y6.1.1.2.1.1,y6.1.1.2.1.2,y6.1.1.2.2.1,y6.1.1.2.2.2.1,y6.1.1.2.2.2.2.1,y6.1.1.2.2.2.2.2,y6.1.2.1.1,y6.1.2.1.2.1,y6.1.2.1.2.2.1,y6.1.2.1.2.2.2,y6.1.2.2.1,y6.1.2.2.2.1,y6.1.2.2.2.2.1,y6.1.2.2.2.2.2,()),(y6.1.1.1.1,y6.1.1.1.2,y6.1.1.2.1.1,y6.1.1.2.1.2,y6.1.1.2.2.1,y6.1.1.2.2.2.1,y6.1.1.2.2.2.2.1,y6.1.1.2.2.2.2.2,y6.1.2.1.1,y6.1.2.1.2.1,y6.1.2.1.2.2.1,y6.1.2.1.2.2.2,y6.1.2.2.1,y6.1.2.2.2.1,y6.1.2.2.2.2.1,y6.1.2.2.2.2.2,()),()),()))).bind fun r=>match r with
    | .inl y7=>
      ((iter aI qw (((),y7.2.1.2.2.2.2.2.1.2.2.2.2.2.2.2.2.2.2.2.2.2.2.1,(y7.2.1.2.2.2.2.2.1.2.2.2.2.2.2.2.2.2.2.2.2.2.2.1.length:Int),0,()),(((),(),()),y7.2.1.2.1,[],(y7.2.1.2.2.2.1.1,y7.2.1.2.2.2.1.2.1,y7.2.1.2.2.2.1.2.2.1,()),(y7.2.1.2.2.2.2.1.1,y7.2.1.2.2.2.2.1.2.1,y7.2.1.2.2.2.2.1.2.2.1,y7.2.1.2.2.2.2.1.2.2.2.1,y7.2.1.2.2.2.2.1.2.2.2.2.1,y7.2.1.2.2.2.2.1.2.2.2.2.2.1,y7.2.1.2.2.2.2.1.2.2.2.2.2.2.1,y7.2.1.2.2.2.2.1.2.2.2.2.2.2.2.1,y7.2.1.2.2.2.2.1.2.2.2.2.2.2.2.2.1,y7.2.1.2.2.2.2.1.2.2.2.2.2.2.2.2.2.1,y7.2.1.2.2.2.2.1.2.2.2.2.2.2.2.2.2.2.1,y7.2.1.2.2.2.2.1.2.2.2.2.2.2.2.2.2.2.2.1,y7.2.1.2.2.2.2.1.2.2.2.2.2.2.2.2.2.2.2.2.1,y7.2.1.2.2.2.2.1.2.2.2.2.2.2.2.2.2.2.2.2.2.1,y7.2.1.2.2.2.2.1.2.2.2.2.2.2.2.2.2.2.2.2.2.2.1,y7.2.1.2.2.2.2.1.2.2.2.2.2.2.2.2.2.2.2.2.2.2.2.1,()),()),y7.2.1.2.2.1,()))).bind fun r=>match r with
      | .inl y9=>
        ((f41 y9.2.1.2.2.2.1.2.1)).bind fun y11=>
        ((iter aI G6 (((),v1,v2,v3,y11.1,(y11.1.length:Int),0,()),(((),(),()),y9.2.1.2.1,()),y9.2.2.1,()))).bind fun r=>match r with
        | .inl y12=>
          some (R3.next (((),y12.1.2.1,y12.1.2.2.1,(IntKind.wrap .i64 (y12.1.2.2.2.1+1)),()),(((),(),()),y12.2.1.2.1,()),y12.2.2.1,()))
        | .inr z13=>
          some (R3.ret ((),(),()))
      | .inr z10=>
        none
    | .inr z8=>
      none)) (
   none)) (
  some (R3.out (((),()),(((),(),()),v4,()),v5,())))
noncomputable def ME (z:IU):Option (R3 IU NS Nr):=Ss z.1.2.1 z.1.2.2.1 z.1.2.2.2.1 z.2.1.2.1 z.2.2.1
noncomputable def f19 (v1:Int)(v2:dL):Option (bn×Unit):=
 ((f34 v1 v2)).bind fun y3=>
 cond (!y3.1) (
  some ([],())) (
  ((iter aI ME (((),v2,(v2.length:Int),0,()),(((),(),()),[],()),[],()))).bind fun r=>match r with
  | .inl y4=>
    some (y4.2.2.1,())
  | .inr z5=>
    none)
noncomputable def f8  : Option bZ:=
 (f21).bind fun y1=>
 ((f22 y1.1.1.1 y1.1.1.2 y1.1.2.1 y1.1.2.2 [(2,0,0,1,0,0,0,0,false),(0,3,0,0,0,0,0,0,false),(1,7,0,0,0,0,0,0,false)])).bind fun y2=>
 ((f19 y2.1.1.1 y2.1.1.2)).bind fun y3=>
 ((f23 y2.1.1.1 y2.1.1.2)).bind fun y4=>
 cond (decide (y2.2.1=0)) (
  cond y4.2.1 (
   cond (decide ((y3.1.length:Int)=1)) (
    cond (decide (0<(y3.1.length:Int))) (
     cond ((decide ((rd aX y3.1 0).1=0))&&((decide ((rd aX y3.1 0).2.1=0))&&((decide ((rd aX y3.1 0).2.2.1=0))&&((decide ((rd aX y3.1 0).2.2.2.1=3))&&((decide ((rd aX y3.1 0).2.2.2.2=7))&&true))))) (
      ((f14 y4.1.1.1 y4.1.1.2 y4.1.2.1.1 y4.1.2.1.2 y4.1.2.2.1 y4.1.2.2.2.1 y4.1.2.2.2.2.1 y4.1.2.2.2.2.2 y3.1 0 1080 6)).bind fun y5=>
      cond (decide (y5.1=0)) (
       ((f14 y4.1.1.1 y4.1.1.2 y4.1.2.1.1 y4.1.2.1.2 y4.1.2.2.1 y4.1.2.2.2.1 y4.1.2.2.2.2.1 y4.1.2.2.2.2.2 y3.1 0 1080 7)).bind fun y6=>
       cond (decide (y6.1=(-1))) (
        ((f12 y3.1 y3.1)).bind fun y7=>
        cond y7.1 (
         ((f11 y3.1 0)).bind fun y8=>
         cond (decide ((y8.1.length:Int)=1)) (
          ((f10 y3.1 7 9)).bind fun y9=>
          some ((decide ((y9.1.length:Int)=0)),())) (
          some (false,()))) (
         some (false,()))) (
        some (false,()))) (
       some (false,()))) (
      some (false,()))) (
     none)) (
    some (false,()))) (
   some (false,()))) (
  some (false,()))
end Go.Proofs.Zz
