/- PureRa, PureRw, PureRx, PureRc. -/
import Derived.Test.YtlhbhlngoecdcaaGreatDoorFG
namespace Go.Proofs.Zz
open Go Go.Sy
set_option linter.unusedVariables false
set_option maxRecDepth 100000
abbrev jV:Type:=Int×Int
abbrev au:Type:=List jV
abbrev bw:Type:=List (Int×Int×Int)
abbrev uN:Type:=Int×au×Unit
abbrev xh:Type:=Int×Unit×Unit
abbrev KX:Type:=Int×Unit×Unit×Unit×Unit×Unit×Unit×Unit×Unit×Unit
abbrev Ks:Type:=uN×xh×KX×au×au×au×au×au×au×au×au×au×au×au×au×au×au×au×au×au×au×xh×Unit
abbrev cF:Type:=Int×Unit
abbrev Lx:Type:=Int×Int×Unit
abbrev Kp:Type:=uN×cF×xh×au×KX×au×au×au×au×au×au×au×au×Lx×au×xh×Unit
abbrev ed:Type:=List (Int×Int×Int×Int×Int)
abbrev Kq:Type:=uN×xh×KX×au×au×au×au×au×au×au×au×au×Unit
abbrev Qy:Type:=Int×Int×Int×Int×Int×Int×Int×Int×Int×Int×Int×Bool×Int×bw×ed×bw×Unit
abbrev AM:Type:=Int×Int×Int×Unit
abbrev DT6:Type:=Qy×(Int×Int×Int×Int×Int×Int×Int×Int×Bool×Unit)×(Int×Int×Int×Int×Int×Int×Int×Int×Int×Int×Int×Bool×Int×Unit×Unit×Unit×Unit)×(Unit×Unit)×AM×(Unit×Unit×Unit×Unit×Unit×Unit×Unit×Unit×Unit×Unit)×bw×ed×bw×(Int×Int×Int×Int×Int×Int×Int×Int×Int×Int×Int×Bool×Int×Unit×Unit×Unit×Int×Int×Int×Int×Int×Int×Int×Int×Bool×Unit×Int×Int×Int×Unit)×Unit
abbrev xT:Type:=List (Int×Int×Int×Int×Int×Int×Int×Int×Bool)
abbrev xD:Type:=Unit×Unit×Unit×Unit×Unit×Unit×Int×Int×Unit
abbrev Za:Type:=Unit×Unit×Unit×Unit×Unit×Unit×Unit×Unit×Unit×Unit×Unit×Unit×Unit×Unit×Unit×Unit×Unit×Unit×Unit×Unit×Unit×Unit×Unit
abbrev iK:Type:=Unit×Unit×Unit×Unit×Unit×Unit
abbrev F9:Type:=Unit×Unit×Unit×Unit×Unit×Unit×Unit×Unit×Unit×Unit×Unit×Unit×Unit×Unit×Unit×Unit×Unit
abbrev acM:Type:=Qy×(Int×Int×Int×Int×Int×Int×Int×Int×Bool×Unit)×(Int×Int×Int×Int×Int×Int×Int×Int×Int×Int×Int×Bool×Int×Unit×Unit×Unit×Unit)×(Unit×Unit)×AM×(Unit×Unit×Unit×Unit×Unit×Unit×Unit×Unit×Unit×Unit)×bw×ed×bw×(Int×Int×Int×Int×Int×Int×Int×Int×Int×Int×Int×Bool×Int×Unit×Unit×Unit×Int×Int×Int×Int×Int×Int×Int×Int×Bool×Unit×Int×Int×Int×Unit)×uN×Unit
abbrev Fv:Type:=Unit×Unit×Unit×Unit×Unit×Unit×Unit×Unit×Unit×Unit×Unit×Unit×Unit
abbrev dr:Type:=Bool×Unit
abbrev WO:Type:=(jV×jV×Int×Int×Int×Int)×(Int×Int×Int×Bool)×Int×bw×ed×bw
abbrev iS:Type:=List Int
abbrev acZ:Type:=Int×Int×Int×Int×Int×Int×iS×Unit
abbrev Er:Type:=Lx×(Unit×Unit)×Unit
abbrev aa3:Type:=Lx×cF×Lx×(Unit×Unit×Unit×Unit×Unit×Unit×Unit×Unit×Unit)×Unit
abbrev ZW:Type:=Unit×Unit×Unit×Unit×Unit×Unit×Unit×Unit×Unit×Unit×Unit
abbrev acQ:Type:=Qy×(Int×Int×Int×Int×Int×Int×Int×Int×Int×Int×Int×Bool×Int×Unit×Unit×Unit×Unit)×Unit
abbrev XH:Type:=Unit×Unit×Int×Int×Unit
abbrev O1:Type:=Unit×Unit×Unit
abbrev PJ:Type:=Lx×Lx×Unit
abbrev Z3:Type:=acZ×(bw×Unit)×AM×AM×Unit
abbrev QO:Type:=bw×Int×Unit
abbrev aae:Type:=acZ×(bw×Unit)×AM×Unit
abbrev Vd:Type:=cF×bw×Unit
abbrev UG:Type:=AM×bw×Unit
abbrev aS:Ty:=.pair (.int .i64) (.int .i64)
abbrev cL:Ty:=.pair (.int .i64) aS
abbrev b9:Ty:=.pair (.int .i64) (.pair (.int .i64) cL)
abbrev X3:Ty:=.pair (.int .i64) (.pair (.int .i64) (.pair (.int .i64) (.pair (.int .i64) (.pair (.int .i64) (.pair (.int .i64) (.pair (.int .i64) (.pair (.int .i64) .bool)))))))
noncomputable def f80 (v1 v2 v3:Int):Option dr:=
 cond (decide (v2≤v1)) (
  some ((decide (v1≤v3)),())) (
  some (false,()))
noncomputable def f95 (v1 v2:Int):Option dr:=
 cond (decide (0≤v2)) (
  cond (decide (v2≤32)) (
   cond (decide (0≤v1)) (
    cond (decide (v1<4294967296)) (
     cond (!(decide ((IntKind.wrap .i64 (32-v2))<0))) (
      some ((decide ((bG .and .i64 v1 (IntKind.wrap .i64 ((IntKind.wrap .i64 (1 * ((2:Int) ^ ((min (Int.toNat (IntKind.wrap .i64 (32-v2))) 64):Nat))))-1)))=0)),())) (
      none)) (
     some (false,()))) (
    some (false,()))) (
   some (false,()))) (
  some (false,()))
noncomputable def f49 (v1 v2:Int):Option cF:=
 ((f95 v1 v2)).bind fun y3=>
 cond (!y3.1) (
  some (0,())) (
  cond (!(decide ((IntKind.wrap .i64 (32-v2))<0))) (
   some ((IntKind.wrap .i64 (1 * ((2:Int) ^ ((min (Int.toNat (IntKind.wrap .i64 (32-v2))) 64):Nat)))),())) (
   none))
noncomputable def f118 (v1 v2 v3:Int):Option cF:=
 ((f95 v1 v2)).bind fun y4=>
 cond (!y4.1) (
  some ((-1),())) (
  cond (decide (v3<0)) (
   some ((-1),())) (
   cond (decide (4294967296≤v3)) (
    some ((-1),())) (
    cond (!(decide ((IntKind.wrap .i64 (32-v2))<0))) (
     cond (!(decide ((Int.fdiv (bG .xor .i64 v3 v1) ((2:Int) ^ ((min (Int.toNat (IntKind.wrap .i64 (32-v2))) 64):Nat)))=0))) (
      some ((-1),())) (
      some ((IntKind.wrap .i64 (v3-v1)),()))) (
     none))))
noncomputable def f83 (v1 v2 v3 v4:Int):Option dr:=
 ((f95 v1 v2)).bind fun y5=>
 cond y5.1 (
  ((f95 v3 v4)).bind fun y6=>
  cond y6.1 (
   ((f118 v1 v2 v3)).bind fun y7=>
   cond (!(decide (y7.1=(-1)))) (
    some (true,())) (
    ((f118 v3 v4 v1)).bind fun y8=>
    some ((!(decide (y8.1=(-1)))),()))) (
   some (false,()))) (
  some (false,()))
noncomputable def f87 (v1 v2 v3 v4 v5 v6 v7 v8:Int):Option cF:=
 some ((IntKind.wrap .i64 ((IntKind.wrap .i64 ((IntKind.wrap .i64 (v6-v5))+1))-v7)),())
noncomputable def f51 (v1 v2 v3 v4 v5 v6 v7 v8:Int):Option cF:=
 ((f49 v1 v2)).bind fun y9=>
 ((f49 v3 v4)).bind fun y10=>
 cond (decide ((cond (decide (y10.1<y9.1)) y10.1 y9.1)=0)) (
  some (0,())) (
  cond (!(decide (y10.1=0))) (
   some ((IntKind.wrap .i64 ((IntKind.wrap .i64 (Int.tdiv (IntKind.wrap .i64 (y9.1-1)) y10.1))+1)),())) (
   none))
noncomputable def f43 (v1 v2 v3 v4 v5 v6 v7 v8:Int):Option dr:=
 ((f49 v1 v2)).bind fun y9=>
 ((f80 y9.1 1 32)).bind fun y10=>
 cond y10.1 (
  ((f49 v3 v4)).bind fun y11=>
  ((f80 y11.1 1 4)).bind fun y12=>
  cond (!y12.1) (
   some (false,())) (
   ((f83 v1 v2 v3 v4)).bind fun y13=>
   cond (!(!y13.1)) (
    some (false,())) (
    ((f80 v5 1 v6)).bind fun y14=>
    cond y14.1 (
     cond (!(decide (v6≤65535))) (
      some (false,())) (
      ((f80 v7 0 (IntKind.wrap .i64 (v6-v5)))).bind fun y15=>
      cond y15.1 (
       ((f80 v8 1 65535)).bind fun y16=>
       cond y16.1 (
        cond (!(decide (v8=0))) (
         cond (!(decide ((IntKind.wrap .i64 (Int.tdiv v7 v8))≤8))) (
          some (false,())) (
          ((f87 v1 v2 v3 v4 v5 v6 v7 v8)).bind fun y17=>
          ((f51 v1 v2 v3 v4 v5 v6 v7 v8)).bind fun y18=>
          cond (!(decide (y18.1≤y17.1))) (
           some (false,())) (
           some (true,())))) (
         none)) (
        some (false,()))) (
       some (false,())))) (
     some (false,()))))) (
  some (false,()))
noncomputable def f44 (v1 v2 v3:Int):Option dr:=
 cond (decide (v2≤v1)) (
  some ((decide (v1≤v3)),())) (
  some (false,()))
noncomputable def f28 (v1 v2 v3:Int)(v4:Bool):Option dr:=
 ((f44 v1 1 8)).bind fun y5=>
 cond y5.1 (
  ((f44 v2 1 1048576)).bind fun y6=>
  cond y6.1 (
   ((f44 v3 0 1048576)).bind fun y7=>
   some (y7.1,())) (
   some (false,()))) (
  some (false,()))
noncomputable def f91 (v1 v2 v3 v4 v5 v6:Int):Option dr:=
 cond (decide (v1<(IntKind.wrap .i64 (v4+v5)))) (
  some ((decide (v4<(IntKind.wrap .i64 (v1+v2)))),())) (
  some (false,()))
noncomputable def f92 (v1 v2 v3 v4:Int):Option dr:=
 cond (decide (0≤v1)) (
  cond (decide (1≤v2)) (
   cond (decide (v1<v4)) (
    cond (decide (v2≤(IntKind.wrap .i64 (v4-v1)))) (
     cond (decide (0≤v3)) (
      some ((decide (v3<2)),())) (
      some (false,()))) (
     some (false,()))) (
    some (false,()))) (
   some (false,()))) (
  some (false,()))
abbrev Oq:Type:=(bw×Int×bw×Int×Int×Unit)×(Unit)×(Unit)
abbrev qP:Type:=(bw×Unit×Int×Int×Unit)×(AM×Unit)×(Unit)
abbrev As:Type:=(Unit)×(AM×Unit)×(Unit)
abbrev zN:Type:=cF×(AM×Unit)×(Unit)
noncomputable def rA (v1:bw)(v2 v3 v4 v5 v6:Int):Option (R3 qP As zN):=
 cond (decide (v3<v2)) (
  cond ((decide (0≤v3))&&(decide (v3<(v1.length:Int)))) (
   ((f91 v4 v5 v6 (rd cL v1 (Int.toNat v3)).1 (rd cL v1 (Int.toNat v3)).2.1 (rd cL v1 (Int.toNat v3)).2.2)).bind fun y7=>
   cond y7.1 (
    some (R3.ret ((v3,()),((v4,v5,v6,()),()),()))) (
    some (R3.next ((v1,(),v2,(IntKind.wrap .i64 (v3+1)),()),((v4,v5,v6,()),()),())))) (
   none)) (
  some (R3.out ((),((v4,v5,v6,()),()),())))
noncomputable def jj (z:qP):Option (R3 qP As zN):=rA z.1.1 z.1.2.2.1 z.1.2.2.2.1 z.2.1.1.1 z.2.1.1.2.1 z.2.1.1.2.2.1
abbrev YF:Type:=(Unit)×(Unit)×(Unit)
abbrev Zh:Type:=dr×(Unit)×(Unit)
noncomputable def Io (v1:bw)(v2:Int)(v3:bw)(v4 v5:Int):Option (R3 Oq YF Zh):=
 cond (decide (v5<v4)) (
  cond ((decide (0≤v5))&&(decide (v5<(v3.length:Int)))) (
   ((f92 (rd cL v3 (Int.toNat v5)).1 (rd cL v3 (Int.toNat v5)).2.1 (rd cL v3 (Int.toNat v5)).2.2 v2)).bind fun y6=>
   cond (!y6.1) (
    some (R3.ret ((false,()),(),()))) (
    cond ((decide (0≤v5))&&(decide (v5≤(v1.length:Int)))) (
     ((iter aC jj (((List.drop 0 (List.take (Int.toNat v5) v1)),(),(((List.drop 0 (List.take (Int.toNat v5) v1)).length:Nat):Int),0,()),(((rd cL v3 (Int.toNat v5)).1,(rd cL v3 (Int.toNat v5)).2.1,(rd cL v3 (Int.toNat v5)).2.2,()),()),()))).bind fun r=>match r with
     | .inl y7=>
       some (R3.next ((v1,v2,v3,v4,(IntKind.wrap .i64 (v5+1)),()),(),()))
     | .inr z8=>
       cond (decide (0≤z8.1.1)) (
        some (R3.ret ((false,()),(),()))) (
        some (R3.next ((v1,v2,v3,v4,(IntKind.wrap .i64 (v5+1)),()),(),())))) (
     none))) (
   none)) (
  some (R3.out ((),(),())))
noncomputable def vE (z:Oq):Option (R3 Oq YF Zh):=Io z.1.1 z.1.2.1 z.1.2.2.1 z.1.2.2.2.1 z.1.2.2.2.2.1
noncomputable def f45 (v1:bw)(v2:Int):Option dr:=
 cond (decide (v2<0)) (
  some (false,())) (
  cond (decide (4<v2)) (
   some (false,())) (
   cond (decide (3<(v1.length:Int))) (
    some (false,())) (
    ((iter aC vE ((v1,v2,v1,(v1.length:Int),0,()),(),()))).bind fun r=>match r with
    | .inl y3=>
      some (true,())
    | .inr z4=>
      some (z4.1.1,()))))
noncomputable def f46 (v1 v2 v3 v4 v5 v6 v7 v8 v9 v10 v11:Int)(v12:Bool)(v13:Int)(v14:bw)(v15:ed)(v16:bw):Option cF:=
 ((f49 v3 v4)).bind fun y17=>
 some (y17.1,())
noncomputable def f52 (v1 v2 v3 v4 v5 v6 v7 v8:Int):Option cF:=
 ((f43 v1 v2 v3 v4 v5 v6 v7 v8)).bind fun y9=>
 cond (!y9.1) (
  some (0,())) (
  ((f87 v1 v2 v3 v4 v5 v6 v7 v8)).bind fun y10=>
  ((f51 v1 v2 v3 v4 v5 v6 v7 v8)).bind fun y11=>
  cond (!(decide (y11.1=0))) (
   some ((IntKind.wrap .i64 (Int.tdiv y10.1 y11.1)),())) (
   none))
noncomputable def f19 (v1 v2 v3 v4 v5 v6 v7 v8 v9:Int):Option ((Int×Int×Int)×Bool×Unit):=
 ((f43 v1 v2 v3 v4 v5 v6 v7 v8)).bind fun y10=>
 cond (!y10.1) (
  some ((0,0,0),false,())) (
  cond (decide (v9<0)) (
   some ((0,0,0),false,())) (
   ((f49 v1 v2)).bind fun y11=>
   cond (decide (y11.1≤v9)) (
    some ((0,0,0),false,())) (
    ((f51 v1 v2 v3 v4 v5 v6 v7 v8)).bind fun y12=>
    ((f52 v1 v2 v3 v4 v5 v6 v7 v8)).bind fun y13=>
    cond (!(decide (y12.1=0))) (
     cond (!(decide (y12.1=0))) (
      some (((IntKind.wrap .i64 (Int.tdiv v9 y12.1)),(IntKind.wrap .i64 (v5+(IntKind.wrap .i64 ((Int.tmod v9 y12.1) * y13.1)))),(IntKind.wrap .i64 ((IntKind.wrap .i64 ((IntKind.wrap .i64 (v5+(IntKind.wrap .i64 ((Int.tmod v9 y12.1) * y13.1))))+y13.1))-1))),true,())) (
      none)) (
     none))))
noncomputable def f50 (v1 v2 v3 v4 v5 v6 v7 v8:Int):Option cF:=
 ((f43 v1 v2 v3 v4 v5 v6 v7 v8)).bind fun y9=>
 cond (!y9.1) (
  some (0,())) (
  cond (!(decide (v8=0))) (
   some ((IntKind.wrap .i64 (Int.tdiv v7 v8)),())) (
   none))
noncomputable def f18 (v1 v2 v3 v4 v5 v6 v7 v8 v9 v10:Int):Option ((Int×Int×Int)×Bool×Unit):=
 cond (decide (v9<0)) (
  some ((0,0,0),false,())) (
  ((f49 v3 v4)).bind fun y11=>
  cond (decide (y11.1≤v9)) (
   some ((0,0,0),false,())) (
   cond (decide (v10<0)) (
    some ((0,0,0),false,())) (
    ((f50 v1 v2 v3 v4 v5 v6 v7 v8)).bind fun y12=>
    cond (decide (y12.1≤v10)) (
     some ((0,0,0),false,())) (
     some ((v9,(IntKind.wrap .i64 ((IntKind.wrap .i64 ((IntKind.wrap .i64 (v6-v7))+1))+(IntKind.wrap .i64 (v10 * v8)))),(IntKind.wrap .i64 ((IntKind.wrap .i64 ((IntKind.wrap .i64 ((IntKind.wrap .i64 ((IntKind.wrap .i64 (v6-v7))+1))+(IntKind.wrap .i64 (v10 * v8))))+v8))-1))),true,())))))
noncomputable def f55 (v1 v2 v3 v4:Int):Option dr:=
 cond (decide (0≤v1)) (
  cond (decide (v1≤4)) (
   cond (decide (1≤v2)) (
    cond (decide (v2≤4)) (
     cond (decide (v1≤v4)) (
      some ((decide (v4<(IntKind.wrap .i64 (v1+v2)))),())) (
      some (false,()))) (
     some (false,()))) (
    some (false,()))) (
   some (false,()))) (
  some (false,()))
abbrev rz:Type:=(bw×Unit×Int×Int×Unit)×(cF×Unit)×(Unit)
abbrev zA:Type:=(Unit)×(cF×Unit)×(Unit)
abbrev yl:Type:=cF×(cF×Unit)×(Unit)
noncomputable def rE (v1:bw)(v2 v3 v4:Int):Option (R3 rz zA yl):=
 cond (decide (v3<v2)) (
  cond ((decide (0≤v3))&&(decide (v3<(v1.length:Int)))) (
   ((f55 (rd cL v1 (Int.toNat v3)).1 (rd cL v1 (Int.toNat v3)).2.1 (rd cL v1 (Int.toNat v3)).2.2 v4)).bind fun y5=>
   cond y5.1 (
    some (R3.ret ((v3,()),((v4,()),()),()))) (
    some (R3.next ((v1,(),v2,(IntKind.wrap .i64 (v3+1)),()),((v4,()),()),())))) (
   none)) (
  some (R3.out ((),((v4,()),()),())))
noncomputable def jc (z:rz):Option (R3 rz zA yl):=rE z.1.1 z.1.2.2.1 z.1.2.2.2.1 z.2.1.1.1
noncomputable def f20 (v1:bw)(v2:Int):Option cF:=
 ((iter aC jc ((v1,(),(v1.length:Int),0,()),((v2,()),()),()))).bind fun r=>match r with
 | .inl y3=>
   some ((-1),())
 | .inr z4=>
   some (z4.1.1,())
noncomputable def f94 (v1 v2 v3 v4:Int):Option dr:=
 cond (decide (v3<v1)) (
  some (true,())) (
  cond (decide (v1=v3)) (
   some ((decide (v4<v2)),())) (
   some (false,())))
abbrev BF:Type:=(Unit×Unit×ed×Int×Int×Unit)×(Qy×au×Unit)×(Unit)
abbrev NU:Type:=(Unit×Unit)×(Qy×Unit)×(Unit)
abbrev Oz:Type:=dr×(Unit)×(Unit)
noncomputable def SQ (v1:ed)(v2 v3 v4 v5 v6 v7 v8 v9 v10 v11 v12 v13 v14:Int)(v15:Bool)(v16:Int)(v17:bw)(v18:ed)(v19:bw)(v20:au):Option (R3 BF NU Oz):=
 cond (decide (v3<v2)) (
  cond ((decide (0≤v3))&&(decide (v3<(v1.length:Int)))) (
   ((f19 v4 v5 v6 v7 v8 v9 v10 v11 (rd b9 v1 (Int.toNat v3)).1)).bind fun y21=>
   ((f18 v4 v5 v6 v7 v8 v9 v10 v11 (rd b9 v1 (Int.toNat v3)).2.1 (rd b9 v1 (Int.toNat v3)).2.2.1)).bind fun y22=>
   cond (!y21.2.1) (
    some (R3.ret ((false,()),(),()))) (
    cond (!y22.2.1) (
     some (R3.ret ((false,()),(),()))) (
     ((f20 v17 (rd b9 v1 (Int.toNat v3)).2.1)).bind fun y23=>
     cond (decide (y23.1=(-1))) (
      some (R3.ret ((false,()),(),()))) (
      cond v15 (
       cond (!(decide (y21.1.1=(rd b9 v1 (Int.toNat v3)).2.1))) (
        some (R3.ret ((false,()),(),()))) (
        cond (decide (v12<(cH (iD v20 (rd b9 v1 (Int.toNat v3)).1 (IntKind.wrap .i64 ((cH v20 (rd b9 v1 (Int.toNat v3)).1)+1))) (rd b9 v1 (Int.toNat v3)).1))) (
         some (R3.ret ((false,()),(),()))) (
         cond (decide ((rd b9 v1 (Int.toNat v3)).2.2.2.1<0)) (
          some (R3.ret ((false,()),(),()))) (
          cond (decide ((rd b9 v1 (Int.toNat v3)).2.2.2.2<(rd b9 v1 (Int.toNat v3)).2.2.2.1)) (
           some (R3.ret ((false,()),(),()))) (
           cond (decide (v16<(rd b9 v1 (Int.toNat v3)).2.2.2.2)) (
            some (R3.ret ((false,()),(),()))) (
            cond (decide ((rd b9 v1 (Int.toNat v3)).2.2.2.2≤(IntKind.wrap .i64 (v16-v13)))) (
             some (R3.ret ((false,()),(),()))) (
             cond (decide (0<v3)) (
              cond ((decide (0≤(IntKind.wrap .i64 (v3-1))))&&(decide ((IntKind.wrap .i64 (v3-1))<(v18.length:Int)))) (
               cond ((decide (0≤(IntKind.wrap .i64 (v3-1))))&&(decide ((IntKind.wrap .i64 (v3-1))<(v18.length:Int)))) (
                ((f94 (rd b9 v1 (Int.toNat v3)).2.1 (rd b9 v1 (Int.toNat v3)).2.2.1 (rd b9 v18 (Int.toNat (IntKind.wrap .i64 (v3-1)))).2.1 (rd b9 v18 (Int.toNat (IntKind.wrap .i64 (v3-1)))).2.2.1)).bind fun y24=>
                cond (!y24.1) (
                 some (R3.ret ((false,()),(),()))) (
                 some (R3.next (((),(),v1,v2,(IntKind.wrap .i64 (v3+1)),()),((v4,v5,v6,v7,v8,v9,v10,v11,v12,v13,v14,v15,v16,v17,v18,v19,()),(iD v20 (rd b9 v1 (Int.toNat v3)).1 (IntKind.wrap .i64 ((cH v20 (rd b9 v1 (Int.toNat v3)).1)+1))),()),())))) (
                none)) (
               none)) (
              some (R3.next (((),(),v1,v2,(IntKind.wrap .i64 (v3+1)),()),((v4,v5,v6,v7,v8,v9,v10,v11,v12,v13,v14,v15,v16,v17,v18,v19,()),(iD v20 (rd b9 v1 (Int.toNat v3)).1 (IntKind.wrap .i64 ((cH v20 (rd b9 v1 (Int.toNat v3)).1)+1))),()),())))))))))) (
       cond (decide (v12<(cH (iD v20 (rd b9 v1 (Int.toNat v3)).1 (IntKind.wrap .i64 ((cH v20 (rd b9 v1 (Int.toNat v3)).1)+1))) (rd b9 v1 (Int.toNat v3)).1))) (
        some (R3.ret ((false,()),(),()))) (
        cond (decide ((rd b9 v1 (Int.toNat v3)).2.2.2.1<0)) (
         some (R3.ret ((false,()),(),()))) (
         cond (decide ((rd b9 v1 (Int.toNat v3)).2.2.2.2<(rd b9 v1 (Int.toNat v3)).2.2.2.1)) (
          some (R3.ret ((false,()),(),()))) (
          cond (decide (v16<(rd b9 v1 (Int.toNat v3)).2.2.2.2)) (
           some (R3.ret ((false,()),(),()))) (
           cond (decide ((rd b9 v1 (Int.toNat v3)).2.2.2.2≤(IntKind.wrap .i64 (v16-v13)))) (
            some (R3.ret ((false,()),(),()))) (
            cond (decide (0<v3)) (
             cond ((decide (0≤(IntKind.wrap .i64 (v3-1))))&&(decide ((IntKind.wrap .i64 (v3-1))<(v18.length:Int)))) (
              cond ((decide (0≤(IntKind.wrap .i64 (v3-1))))&&(decide ((IntKind.wrap .i64 (v3-1))<(v18.length:Int)))) (
               ((f94 (rd b9 v1 (Int.toNat v3)).2.1 (rd b9 v1 (Int.toNat v3)).2.2.1 (rd b9 v18 (Int.toNat (IntKind.wrap .i64 (v3-1)))).2.1 (rd b9 v18 (Int.toNat (IntKind.wrap .i64 (v3-1)))).2.2.1)).bind fun y25=>
               cond (!y25.1) (
                some (R3.ret ((false,()),(),()))) (
                some (R3.next (((),(),v1,v2,(IntKind.wrap .i64 (v3+1)),()),((v4,v5,v6,v7,v8,v9,v10,v11,v12,v13,v14,v15,v16,v17,v18,v19,()),(iD v20 (rd b9 v1 (Int.toNat v3)).1 (IntKind.wrap .i64 ((cH v20 (rd b9 v1 (Int.toNat v3)).1)+1))),()),())))) (
               none)) (
              none)) (
             some (R3.next (((),(),v1,v2,(IntKind.wrap .i64 (v3+1)),()),((v4,v5,v6,v7,v8,v9,v10,v11,v12,v13,v14,v15,v16,v17,v18,v19,()),(iD v20 (rd b9 v1 (Int.toNat v3)).1 (IntKind.wrap .i64 ((cH v20 (rd b9 v1 (Int.toNat v3)).1)+1))),()),()))))))))))))) (
   none)) (
  some (R3.out (((),()),((v4,v5,v6,v7,v8,v9,v10,v11,v12,v13,v14,v15,v16,v17,v18,v19,()),()),())))
noncomputable def vm (z:BF):Option (R3 BF NU Oz):=SQ z.1.2.2.1 z.1.2.2.2.1 z.1.2.2.2.2.1 z.2.1.1.1 z.2.1.1.2.1 z.2.1.1.2.2.1 z.2.1.1.2.2.2.1 z.2.1.1.2.2.2.2.1 z.2.1.1.2.2.2.2.2.1 z.2.1.1.2.2.2.2.2.2.1 z.2.1.1.2.2.2.2.2.2.2.1 z.2.1.1.2.2.2.2.2.2.2.2.1 z.2.1.1.2.2.2.2.2.2.2.2.2.1 z.2.1.1.2.2.2.2.2.2.2.2.2.2.1 z.2.1.1.2.2.2.2.2.2.2.2.2.2.2.1 z.2.1.1.2.2.2.2.2.2.2.2.2.2.2.2.1 z.2.1.1.2.2.2.2.2.2.2.2.2.2.2.2.2.1 z.2.1.1.2.2.2.2.2.2.2.2.2.2.2.2.2.2.1 z.2.1.1.2.2.2.2.2.2.2.2.2.2.2.2.2.2.2.1 z.2.1.2.1
noncomputable def f47 (v1 v2 v3 v4 v5 v6 v7 v8 v9 v10 v11:Int)(v12:Bool)(v13:Int)(v14:bw)(v15:ed)(v16:bw):Option dr:=
 ((iter aC vm (((),(),v15,(v15.length:Int),0,()),((v1,v2,v3,v4,v5,v6,v7,v8,v9,v10,v11,v12,v13,v14,v15,v16,()),[],()),()))).bind fun r=>match r with
 | .inl y17=>
   some ((decide ((y17.2.1.1.2.2.2.2.2.2.2.2.2.2.2.2.2.2.1.length:Int)≤32)),())
 | .inr z18=>
   some (z18.1.1,())
noncomputable def f98 (v1 v2 v3 v4 v5:Int):Option ((jV×Int×Int×Int×Int×Int)×Unit):=
 some (((v2,v3),v1,v2,v3,v4,v5),())
noncomputable def f57 (v1 v2 v3 v4 v5:Int):Option (jV×Unit):=
 ((f98 v1 v2 v3 v4 v5)).bind fun y6=>
 some ((y6.1.1.1,y6.1.1.2),())
abbrev rO:Type:=(ed×Unit×Int×Int×Unit)×Er×(Unit)
abbrev yu:Type:=(Unit)×Er×(Unit)
abbrev zI:Type:=cF×Er×(Unit)
noncomputable def qN (v1:ed)(v2 v3 v4 v5:Int):Option (R3 rO yu zI):=
 cond (decide (v3<v2)) (
  cond ((decide (0≤v3))&&(decide (v3<(v1.length:Int)))) (
   ((f57 (rd b9 v1 (Int.toNat v3)).1 (rd b9 v1 (Int.toNat v3)).2.1 (rd b9 v1 (Int.toNat v3)).2.2.1 (rd b9 v1 (Int.toNat v3)).2.2.2.1 (rd b9 v1 (Int.toNat v3)).2.2.2.2)).bind fun y6=>
   cond ((decide (y6.1.1=v4))&&((decide (y6.1.2=v5))&&true)) (
    some (R3.ret ((v3,()),((v4,v5,()),((),()),()),()))) (
    some (R3.next ((v1,(),v2,(IntKind.wrap .i64 (v3+1)),()),((v4,v5,()),((),()),()),())))) (
   none)) (
  some (R3.out ((),((v4,v5,()),((),()),()),())))
noncomputable def iT (z:rO):Option (R3 rO yu zI):=qN z.1.1 z.1.2.2.1 z.1.2.2.2.1 z.2.1.1.1 z.2.1.1.2.1
noncomputable def f22 (v1:ed)(v2 v3:Int):Option cF:=
 ((iter aC iT ((v1,(),(v1.length:Int),0,()),((v2,v3,()),((),()),()),()))).bind fun r=>match r with
 | .inl y4=>
   some ((-1),())
 | .inr z5=>
   some (z5.1.1,())
abbrev NL:Type:=(Unit×bw×Int×Int×Unit)×(Qy×Unit)×(Unit)
abbrev Yw:Type:=(Unit)×(Unit)×(Unit)
abbrev Yz:Type:=dr×(Unit)×(Unit)
noncomputable def RJ (v1:bw)(v2 v3 v4 v5 v6 v7 v8 v9 v10 v11 v12 v13 v14:Int)(v15:Bool)(v16:Int)(v17:bw)(v18:ed)(v19:bw):Option (R3 NL Yw Yz):=
 cond (decide (v3<v2)) (
  cond ((decide (0≤v3))&&(decide (v3<(v1.length:Int)))) (
   ((f18 v4 v5 v6 v7 v8 v9 v10 v11 (rd cL v1 (Int.toNat v3)).1 (rd cL v1 (Int.toNat v3)).2.1)).bind fun y20=>
   cond (!y20.2.1) (
    some (R3.ret ((false,()),(),()))) (
    ((f44 (rd cL v1 (Int.toNat v3)).2.2 (IntKind.wrap .i64 (v16+1)) (IntKind.wrap .i64 (v16+1048576)))).bind fun y21=>
    cond (!y21.1) (
     some (R3.ret ((false,()),(),()))) (
     ((f22 v18 (rd cL v1 (Int.toNat v3)).1 (rd cL v1 (Int.toNat v3)).2.1)).bind fun y22=>
     cond (!(decide (y22.1=(-1)))) (
      some (R3.ret ((false,()),(),()))) (
      cond (decide (0<v3)) (
       cond ((decide (0≤(IntKind.wrap .i64 (v3-1))))&&(decide ((IntKind.wrap .i64 (v3-1))<(v19.length:Int)))) (
        cond ((decide (0≤(IntKind.wrap .i64 (v3-1))))&&(decide ((IntKind.wrap .i64 (v3-1))<(v19.length:Int)))) (
         ((f94 (rd cL v1 (Int.toNat v3)).1 (rd cL v1 (Int.toNat v3)).2.1 (rd cL v19 (Int.toNat (IntKind.wrap .i64 (v3-1)))).1 (rd cL v19 (Int.toNat (IntKind.wrap .i64 (v3-1)))).2.1)).bind fun y23=>
         cond (!y23.1) (
          some (R3.ret ((false,()),(),()))) (
          some (R3.next (((),v1,v2,(IntKind.wrap .i64 (v3+1)),()),((v4,v5,v6,v7,v8,v9,v10,v11,v12,v13,v14,v15,v16,v17,v18,v19,()),()),())))) (
         none)) (
        none)) (
       some (R3.next (((),v1,v2,(IntKind.wrap .i64 (v3+1)),()),((v4,v5,v6,v7,v8,v9,v10,v11,v12,v13,v14,v15,v16,v17,v18,v19,()),()),()))))))) (
   none)) (
  some (R3.out ((),(),())))
noncomputable def vj (z:NL):Option (R3 NL Yw Yz):=RJ z.1.2.1 z.1.2.2.1 z.1.2.2.2.1 z.2.1.1.1 z.2.1.1.2.1 z.2.1.1.2.2.1 z.2.1.1.2.2.2.1 z.2.1.1.2.2.2.2.1 z.2.1.1.2.2.2.2.2.1 z.2.1.1.2.2.2.2.2.2.1 z.2.1.1.2.2.2.2.2.2.2.1 z.2.1.1.2.2.2.2.2.2.2.2.1 z.2.1.1.2.2.2.2.2.2.2.2.2.1 z.2.1.1.2.2.2.2.2.2.2.2.2.2.1 z.2.1.1.2.2.2.2.2.2.2.2.2.2.2.1 z.2.1.1.2.2.2.2.2.2.2.2.2.2.2.2.1 z.2.1.1.2.2.2.2.2.2.2.2.2.2.2.2.2.1 z.2.1.1.2.2.2.2.2.2.2.2.2.2.2.2.2.2.1 z.2.1.1.2.2.2.2.2.2.2.2.2.2.2.2.2.2.2.1
noncomputable def f48 (v1 v2 v3 v4 v5 v6 v7 v8 v9 v10 v11:Int)(v12:Bool)(v13:Int)(v14:bw)(v15:ed)(v16:bw):Option dr:=
 ((iter aC vj (((),v16,(v16.length:Int),0,()),((v1,v2,v3,v4,v5,v6,v7,v8,v9,v10,v11,v12,v13,v14,v15,v16,()),()),()))).bind fun r=>match r with
 | .inl y17=>
   some (true,())
 | .inr z18=>
   some (z18.1.1,())
noncomputable def f15 (v1 v2 v3 v4 v5 v6 v7 v8 v9 v10 v11:Int)(v12:Bool)(v13:Int)(v14:bw)(v15:ed)(v16:bw):Option dr:=
 ((f43 v1 v2 v3 v4 v5 v6 v7 v8)).bind fun y17=>
 cond y17.1 (
  ((f28 v9 v10 v11 v12)).bind fun y18=>
  cond y18.1 (
   ((f44 v13 0 1073741824)).bind fun y19=>
   cond y19.1 (
    ((f46 v1 v2 v3 v4 v5 v6 v7 v8 v9 v10 v11 v12 v13 v14 v15 v16)).bind fun y20=>
    ((f45 v14 y20.1)).bind fun y21=>
    cond y21.1 (
     ((f47 v1 v2 v3 v4 v5 v6 v7 v8 v9 v10 v11 v12 v13 v14 v15 v16)).bind fun y22=>
     cond y22.1 (
      ((f48 v1 v2 v3 v4 v5 v6 v7 v8 v9 v10 v11 v12 v13 v14 v15 v16)).bind fun y23=>
      some (y23.1,())) (
      some (false,()))) (
     some (false,()))) (
    some (false,()))) (
   some (false,()))) (
  some (false,()))
abbrev pp:Type:=XH×Vd×(Unit)
abbrev vU:Type:=(Unit)×Vd×(Unit)
abbrev vW:Type:=cF×Vd×(Unit)
noncomputable def mT (v1 v2 v3:Int)(v4:bw):Option (R3 pp vU vW):=
 cond (decide (v2<v1)) (
  cond ((decide (0≤v2))&&(decide (v2<(v4.length:Int)))) (
   cond (decide ((Int.toNat v2)<v4.length)) (
    cond (decide ((rd cL v4 (Int.toNat v2)).2.2≤v3)) (
     some (R3.ret ((v2,()),((v3,()),v4,()),()))) (
     some (R3.next (((),(),v1,(IntKind.wrap .i64 (v2+1)),()),((v3,()),v4,()),())))) (
    none)) (
   none)) (
  some (R3.out ((),((v3,()),v4,()),())))
noncomputable def gX (z:pp):Option (R3 pp vU vW):=mT z.1.2.2.1 z.1.2.2.2.1 z.2.1.1.1 z.2.1.2.1
abbrev nh:Type:=XH×Vd×(Unit)
abbrev vS:Type:=(Unit×Int×Unit)×Vd×(Unit)
abbrev vB:Type:=Unit×O1×Unit
noncomputable def oZ (v1 v2 v3:Int)(v4:bw):Option (R3 nh vS vB):=
 cond (decide (v2<(v4.length:Int))) (
  cond ((decide (0≤v2))&&(decide (v2<(v4.length:Int)))) (
   cond (decide ((Int.toNat v2)<v4.length)) (
    cond (!(decide ((rd cL v4 (Int.toNat v2)).2.2≤v3))) (
     cond ((decide (0≤v1))&&(decide (v1<(v4.length:Int)))) (
      cond (decide ((Int.toNat v1)<v4.length)) (
       some (R3.next (((),(),(IntKind.wrap .i64 (v1+1)),(IntKind.wrap .i64 (v2+1)),()),((v3,()),(v4.set (Int.toNat v1) ((rd cL v4 (Int.toNat v2)).1,(rd cL v4 (Int.toNat v2)).2.1,(rd cL v4 (Int.toNat v2)).2.2)),()),()))) (
       none)) (
      none)) (
     some (R3.next (((),(),v1,(IntKind.wrap .i64 (v2+1)),()),((v3,()),v4,()),())))) (
    none)) (
   none)) (
  some (R3.out (((),v1,()),((v3,()),v4,()),())))
noncomputable def gY (z:nh):Option (R3 nh vS vB):=oZ z.1.2.2.1 z.1.2.2.2.1 z.2.1.1.1 z.2.1.2.1
noncomputable def f70 (v1:bw)(v2:Int):Option (bw×Unit):=
 ((dF v1)).bind fun y3=>
 ((iter aC gX (((),(),(y3.1.length:Int),0,()),((v2,()),y3.1,()),()))).bind fun r=>match r with
 | .inl y4=>
   some (y4.2.1.2.1,())
 | .inr z5=>
   cond (decide (z5.1.1=(-1))) (
    some (z5.2.1.2.1,())) (
    ((iter aC gY (((),(),z5.1.1,(IntKind.wrap .i64 (z5.1.1+1)),()),((z5.2.1.1.1,()),z5.2.1.2.1,()),()))).bind fun r=>match r with
    | .inl y6=>
      cond (((decide (0≤y6.1.2.1))&&(decide (y6.1.2.1≤(((y6.2.1.2.1.length-0):Nat):Int))))&&(decide ((0+(((y6.2.1.2.1.length-0):Nat):Int))≤(y6.2.1.2.1.length:Int)))) (
       cond ((decide (0≤y6.1.2.1))&&(decide ((0+y6.1.2.1)≤(((((List.take (0+(Int.toNat y6.1.2.1)) y6.2.1.2.1)++(List.replicate ((0+(Int.toNat (((y6.2.1.2.1.length-0):Nat):Int)))-(0+(Int.toNat y6.1.2.1))) (0,0,0)))++(List.drop ((0+(Int.toNat y6.1.2.1))+((0+(Int.toNat (((y6.2.1.2.1.length-0):Nat):Int)))-(0+(Int.toNat y6.1.2.1)))) y6.2.1.2.1)).length:Nat):Int)))) (
        some ((List.take (0+(Int.toNat y6.1.2.1)) (((List.take (0+(Int.toNat y6.1.2.1)) y6.2.1.2.1)++(List.replicate ((0+(Int.toNat (((y6.2.1.2.1.length-0):Nat):Int)))-(0+(Int.toNat y6.1.2.1))) (0,0,0)))++(List.drop ((0+(Int.toNat y6.1.2.1))+((0+(Int.toNat (((y6.2.1.2.1.length-0):Nat):Int)))-(0+(Int.toNat y6.1.2.1)))) y6.2.1.2.1))),())) (
        none)) (
       none)
    | .inr z7=>
      none)
abbrev RW:Type:=(bw×bw×Int×Int×Unit)×(Unit)×(Unit)
abbrev ZK:Type:=(Unit)×(Unit)×(Unit)
abbrev Y2:Type:=dr×(Unit)×(Unit)
noncomputable def R9 (v1 v2:bw)(v3 v4:Int):Option (R3 RW ZK Y2):=
 cond (decide (v4<v3)) (
  cond ((decide (0≤v4))&&(decide (v4<(v1.length:Int)))) (
   cond ((decide (0≤v4))&&(decide (v4<(v2.length:Int)))) (
    cond (!((decide ((rd cL v1 (Int.toNat v4)).1=(rd cL v2 (Int.toNat v4)).1))&&((decide ((rd cL v1 (Int.toNat v4)).2.1=(rd cL v2 (Int.toNat v4)).2.1))&&((decide ((rd cL v1 (Int.toNat v4)).2.2=(rd cL v2 (Int.toNat v4)).2.2))&&true)))) (
     some (R3.ret ((false,()),(),()))) (
     some (R3.next ((v1,v2,v3,(IntKind.wrap .i64 (v4+1)),()),(),())))) (
    none)) (
   none)) (
  some (R3.out ((),(),())))
noncomputable def Jo (z:RW):Option (R3 RW ZK Y2):=R9 z.1.1 z.1.2.1 z.1.2.2.1 z.1.2.2.2.1
noncomputable def f61 (v1 v2:bw):Option dr:=
 cond (!(decide ((v1.length:Int)=(v2.length:Int)))) (
  some (false,())) (
  ((iter aC Jo ((v1,v2,(v1.length:Int),0,()),(),()))).bind fun r=>match r with
  | .inl y3=>
    some (true,())
  | .inr z4=>
    some (z4.1.1,()))
noncomputable def f26 (v1 v2:bw):Option dr:=
 ((f61 v1 v2)).bind fun y3=>
 some (y3.1,())
abbrev RL:Type:=(ed×ed×Int×Int×Unit)×(Unit)×(Unit)
abbrev Y3:Type:=(Unit)×(Unit)×(Unit)
abbrev Yy:Type:=dr×(Unit)×(Unit)
noncomputable def SM (v1 v2:ed)(v3 v4:Int):Option (R3 RL Y3 Yy):=
 cond (decide (v4<v3)) (
  cond ((decide (0≤v4))&&(decide (v4<(v1.length:Int)))) (
   cond ((decide (0≤v4))&&(decide (v4<(v2.length:Int)))) (
    cond (!((decide ((rd b9 v1 (Int.toNat v4)).1=(rd b9 v2 (Int.toNat v4)).1))&&((decide ((rd b9 v1 (Int.toNat v4)).2.1=(rd b9 v2 (Int.toNat v4)).2.1))&&((decide ((rd b9 v1 (Int.toNat v4)).2.2.1=(rd b9 v2 (Int.toNat v4)).2.2.1))&&((decide ((rd b9 v1 (Int.toNat v4)).2.2.2.1=(rd b9 v2 (Int.toNat v4)).2.2.2.1))&&((decide ((rd b9 v1 (Int.toNat v4)).2.2.2.2=(rd b9 v2 (Int.toNat v4)).2.2.2.2))&&true)))))) (
     some (R3.ret ((false,()),(),()))) (
     some (R3.next ((v1,v2,v3,(IntKind.wrap .i64 (v4+1)),()),(),())))) (
    none)) (
   none)) (
  some (R3.out ((),(),())))
noncomputable def Jb (z:RL):Option (R3 RL Y3 Yy):=SM z.1.1 z.1.2.1 z.1.2.2.1 z.1.2.2.2.1
noncomputable def f60 (v1 v2:ed):Option dr:=
 cond (!(decide ((v1.length:Int)=(v2.length:Int)))) (
  some (false,())) (
  ((iter aC Jb ((v1,v2,(v1.length:Int),0,()),(),()))).bind fun r=>match r with
  | .inl y3=>
    some (true,())
  | .inr z4=>
    some (z4.1.1,()))
noncomputable def f25 (v1 v2:ed):Option dr:=
 ((f60 v1 v2)).bind fun y3=>
 some (y3.1,())
abbrev Vi:Type:=(bw×bw×Int×Int×Unit)×(Unit)×(Unit)
abbrev ZL:Type:=(Unit)×(Unit)×(Unit)
abbrev Zw:Type:=dr×(Unit)×(Unit)
noncomputable def Ti (v1 v2:bw)(v3 v4:Int):Option (R3 Vi ZL Zw):=
 cond (decide (v4<v3)) (
  cond ((decide (0≤v4))&&(decide (v4<(v1.length:Int)))) (
   cond ((decide (0≤v4))&&(decide (v4<(v2.length:Int)))) (
    cond (!((decide ((rd cL v1 (Int.toNat v4)).1=(rd cL v2 (Int.toNat v4)).1))&&((decide ((rd cL v1 (Int.toNat v4)).2.1=(rd cL v2 (Int.toNat v4)).2.1))&&((decide ((rd cL v1 (Int.toNat v4)).2.2=(rd cL v2 (Int.toNat v4)).2.2))&&true)))) (
     some (R3.ret ((false,()),(),()))) (
     some (R3.next ((v1,v2,v3,(IntKind.wrap .i64 (v4+1)),()),(),())))) (
    none)) (
   none)) (
  some (R3.out ((),(),())))
noncomputable def FH (z:Vi):Option (R3 Vi ZL Zw):=Ti z.1.1 z.1.2.1 z.1.2.2.1 z.1.2.2.2.1
noncomputable def f79 (v1 v2:bw):Option dr:=
 cond (!(decide ((v1.length:Int)=(v2.length:Int)))) (
  some (false,())) (
  ((iter aC FH ((v1,v2,(v1.length:Int),0,()),(),()))).bind fun r=>match r with
  | .inl y3=>
    some (true,())
  | .inr z4=>
    some (z4.1.1,()))
noncomputable def f42 (v1 v2:bw):Option dr:=
 ((f79 v1 v2)).bind fun y3=>
 some (y3.1,())
noncomputable def f14 (v1 v2 v3 v4 v5 v6 v7 v8 v9 v10 v11:Int)(v12:Bool)(v13:Int)(v14:bw)(v15:ed)(v16:bw)(v17 v18 v19 v20 v21 v22 v23 v24 v25 v26 v27:Int)(v28:Bool)(v29:Int)(v30:bw)(v31:ed)(v32:bw):Option dr:=
 cond (((decide (v1=v17))&&((decide (v2=v18))&&true))&&(((decide (v3=v19))&&((decide (v4=v20))&&true))&&((decide (v5=v21))&&((decide (v6=v22))&&((decide (v7=v23))&&((decide (v8=v24))&&true)))))) (
  cond ((decide (v9=v25))&&((decide (v10=v26))&&((decide (v11=v27))&&((v12 == v28)&&true)))) (
   cond (decide (v13=v29)) (
    ((f26 v14 v30)).bind fun y33=>
    cond y33.1 (
     ((f25 v15 v31)).bind fun y34=>
     cond y34.1 (
      ((f42 v16 v32)).bind fun y35=>
      some (y35.1,())) (
      some (false,()))) (
     some (false,()))) (
    some (false,()))) (
   some (false,()))) (
  some (false,()))
noncomputable def f16 (v1 v2 v3 v4 v5 v6 v7 v8 v9 v10 v11:Int)(v12:Bool):Option (WO×Bool×Unit):=
 ((f15 v1 v2 v3 v4 v5 v6 v7 v8 v9 v10 v11 v12 0 [] [] [])).bind fun y13=>
 cond (!y13.1) (
  some ((((0,0),(0,0),0,0,0,0),(0,0,0,false),0,[],[],[]),false,())) (
  some ((((v1,v2),(v3,v4),v5,v6,v7,v8),(v9,v10,v11,v12),0,[],[],[]),true,()))
noncomputable def f27  : Option ((jV×jV×Int×Int×Int×Int)×Unit):=
 some (((167772160,31),(184549376,32),1000,1099,20,10),())
abbrev Kv:Type:=(Int×iS×Int×Int×Unit)×(Unit)×(Unit)
abbrev RP:Type:=cF×(Unit)×(Unit)
abbrev Rl:Type:=cF×(Unit)×(Unit)
noncomputable def Fl (v1:Int)(v2:iS)(v3 v4:Int):Option (R3 Kv RP Rl):=
 cond (decide (v4<v3)) (
  cond ((decide (0≤v4))&&(decide (v4<(v2.length:Int)))) (
   cond (!(decide ((rd (.int .i64) v2 (Int.toNat v4))=v1))) (
    some (R3.ret (((rd (.int .i64) v2 (Int.toNat v4)),()),(),()))) (
    some (R3.next ((v1,v2,v3,(IntKind.wrap .i64 (v4+1)),()),(),())))) (
   none)) (
  some (R3.out ((v1,()),(),())))
noncomputable def mS (z:Kv):Option (R3 Kv RP Rl):=Fl z.1.1 z.1.2.1 z.1.2.2.1 z.1.2.2.2.1
noncomputable def f148 (v1:iS):Option cF:=
 ((iter aC mS ((0,v1,(v1.length:Int),0,()),(),()))).bind fun r=>match r with
 | .inl y2=>
   some (y2.1.1,())
 | .inr z3=>
   some (z3.1.1,())
noncomputable def f174 (v1:Int):Option dr:=
 some ((!(decide (v1=v1))),())
noncomputable def f149 (v1 v2:Int):Option cF:=
 ((f174 v1)).bind fun y3=>
 ((f174 v2)).bind fun y4=>
 cond y3.1 (
  cond y4.1 (
   some (0,())) (
   some ((-1),()))) (
  cond y4.1 (
   some (1,())) (
   cond (decide (v1<v2)) (
    some ((-1),())) (
    cond (decide (v2<v1)) (
     some (1,())) (
     some (0,())))))
noncomputable def f127 (v1 v2 v3 v4:Int):Option cF:=
 ((f149 v1 v3)).bind fun y5=>
 ((f149 v2 v4)).bind fun y6=>
 ((f148 [y5.1,y6.1])).bind fun y7=>
 some (y7.1,())
abbrev oG:Type:=(ed×Unit×Int×Int×Unit)×Er×(Unit)
abbrev wC:Type:=(Unit)×Er×(Unit)
abbrev vg:Type:=cF×Er×(Unit)
noncomputable def nR (v1:ed)(v2 v3 v4 v5:Int):Option (R3 oG wC vg):=
 cond (decide (v3<v2)) (
  cond ((decide (0≤v3))&&(decide (v3<(v1.length:Int)))) (
   ((f57 (rd b9 v1 (Int.toNat v3)).1 (rd b9 v1 (Int.toNat v3)).2.1 (rd b9 v1 (Int.toNat v3)).2.2.1 (rd b9 v1 (Int.toNat v3)).2.2.2.1 (rd b9 v1 (Int.toNat v3)).2.2.2.2)).bind fun y6=>
   ((f127 y6.1.1 y6.1.2 v4 v5)).bind fun y7=>
   cond (decide (0<y7.1)) (
    some (R3.ret ((v3,()),((v4,v5,()),((),()),()),()))) (
    some (R3.next ((v1,(),v2,(IntKind.wrap .i64 (v3+1)),()),((v4,v5,()),((),()),()),())))) (
   none)) (
  some (R3.out ((),((v4,v5,()),((),()),()),())))
noncomputable def gN (z:oG):Option (R3 oG wC vg):=nR z.1.1 z.1.2.2.1 z.1.2.2.2.1 z.2.1.1.1 z.2.1.1.2.1
noncomputable def f102 (v1:ed)(v2 v3:Int):Option cF:=
 ((iter aC gN ((v1,(),(v1.length:Int),0,()),((v2,v3,()),((),()),()),()))).bind fun r=>match r with
 | .inl y4=>
   some ((v1.length:Int),())
 | .inr z5=>
   cond (decide (z5.1.1=(-1))) (
    some ((v1.length:Int),())) (
    some (z5.1.1,()))
noncomputable def f63 (v1:ed)(v2 v3 v4 v5 v6:Int):Option (ed×Bool×Unit):=
 ((cW v1)).bind fun y7=>
 ((f22 v1 v3 v4)).bind fun y8=>
 cond (!(decide (y8.1=(-1)))) (
  some (y7.1,false,())) (
  cond (decide (32≤(v1.length:Int))) (
   some (y7.1,false,())) (
   ((f57 v2 v3 v4 v5 v6)).bind fun y9=>
   ((f102 v1 y9.1.1 y9.1.2)).bind fun y10=>
   ((j8 y7.1 y10.1 [(v2,v3,v4,v5,v6)])).bind fun y11=>
   some (y11,true,())))
noncomputable def f24 (v1:ed)(v2 v3:Int):Option (ed×Bool×Unit):=
 ((cW v1)).bind fun y4=>
 ((f22 v1 v2 v3)).bind fun y5=>
 cond (decide (y5.1=(-1))) (
  some (y4.1,false,())) (
  cond ((((decide (0≤y5.1))&&(decide (y5.1≤(IntKind.wrap .i64 (y5.1+1)))))&&(decide ((IntKind.wrap .i64 (y5.1+1))≤(y4.1.length:Int))))&&(decide ((0+(y4.1.length:Int))≤(y4.1.length:Int)))) (
   cond (decide (y5.1=(IntKind.wrap .i64 (y5.1+1)))) (
    some (y4.1,true,())) (
    cond ((decide (0≤y5.1))&&(decide ((0+y5.1)≤(y4.1.length:Int)))) (
     cond (((decide (0≤(IntKind.wrap .i64 (y5.1+1))))&&(decide ((IntKind.wrap .i64 (y5.1+1))≤(((y4.1.length-0):Nat):Int))))&&(decide ((0+(((y4.1.length-0):Nat):Int))≤(y4.1.length:Int)))) (
      cond (decide (((0+(Int.toNat y5.1))+(List.drop (0+(Int.toNat (IntKind.wrap .i64 (y5.1+1)))) (List.take (0+(Int.toNat (((y4.1.length-0):Nat):Int))) y4.1)).length)≤y4.1.length)) (
       cond (((decide (0≤(((((0+(Int.toNat y5.1))+(List.drop (0+(Int.toNat (IntKind.wrap .i64 (y5.1+1)))) (List.take (0+(Int.toNat (((y4.1.length-0):Nat):Int))) y4.1)).length)-0):Nat):Int)))&&(decide ((((((0+(Int.toNat y5.1))+(List.drop (0+(Int.toNat (IntKind.wrap .i64 (y5.1+1)))) (List.take (0+(Int.toNat (((y4.1.length-0):Nat):Int))) y4.1)).length)-0):Nat):Int)≤(y4.1.length:Int))))&&(decide ((0+(y4.1.length:Int))≤(((((List.take (0+(Int.toNat y5.1)) y4.1)++(List.drop (0+(Int.toNat (IntKind.wrap .i64 (y5.1+1)))) (List.take (0+(Int.toNat (((y4.1.length-0):Nat):Int))) y4.1)))++(List.drop ((0+(Int.toNat y5.1))+(List.drop (0+(Int.toNat (IntKind.wrap .i64 (y5.1+1)))) (List.take (0+(Int.toNat (((y4.1.length-0):Nat):Int))) y4.1)).length) y4.1)).length:Nat):Int)))) (
        some ((List.take ((0+(Int.toNat y5.1))+(List.drop (0+(Int.toNat (IntKind.wrap .i64 (y5.1+1)))) (List.take (0+(Int.toNat (((y4.1.length-0):Nat):Int))) y4.1)).length) (((List.take (0+(Int.toNat (((((0+(Int.toNat y5.1))+(List.drop (0+(Int.toNat (IntKind.wrap .i64 (y5.1+1)))) (List.take (0+(Int.toNat (((y4.1.length-0):Nat):Int))) y4.1)).length)-0):Nat):Int))) (((List.take (0+(Int.toNat y5.1)) y4.1)++(List.drop (0+(Int.toNat (IntKind.wrap .i64 (y5.1+1)))) (List.take (0+(Int.toNat (((y4.1.length-0):Nat):Int))) y4.1)))++(List.drop ((0+(Int.toNat y5.1))+(List.drop (0+(Int.toNat (IntKind.wrap .i64 (y5.1+1)))) (List.take (0+(Int.toNat (((y4.1.length-0):Nat):Int))) y4.1)).length) y4.1)))++(List.replicate ((0+(Int.toNat (y4.1.length:Int)))-(0+(Int.toNat (((((0+(Int.toNat y5.1))+(List.drop (0+(Int.toNat (IntKind.wrap .i64 (y5.1+1)))) (List.take (0+(Int.toNat (((y4.1.length-0):Nat):Int))) y4.1)).length)-0):Nat):Int)))) (0,0,0,0,0)))++(List.drop ((0+(Int.toNat (((((0+(Int.toNat y5.1))+(List.drop (0+(Int.toNat (IntKind.wrap .i64 (y5.1+1)))) (List.take (0+(Int.toNat (((y4.1.length-0):Nat):Int))) y4.1)).length)-0):Nat):Int)))+((0+(Int.toNat (y4.1.length:Int)))-(0+(Int.toNat (((((0+(Int.toNat y5.1))+(List.drop (0+(Int.toNat (IntKind.wrap .i64 (y5.1+1)))) (List.take (0+(Int.toNat (((y4.1.length-0):Nat):Int))) y4.1)).length)-0):Nat):Int))))) (((List.take (0+(Int.toNat y5.1)) y4.1)++(List.drop (0+(Int.toNat (IntKind.wrap .i64 (y5.1+1)))) (List.take (0+(Int.toNat (((y4.1.length-0):Nat):Int))) y4.1)))++(List.drop ((0+(Int.toNat y5.1))+(List.drop (0+(Int.toNat (IntKind.wrap .i64 (y5.1+1)))) (List.take (0+(Int.toNat (((y4.1.length-0):Nat):Int))) y4.1)).length) y4.1))))),true,())) (
        none)) (
       none)) (
      none)) (
     none))) (
   none))
noncomputable def f122 (v1 v2 v3:Int):Option ((jV×Int×Int×Int)×Unit):=
 some (((v1,v2),v1,v2,v3),())
noncomputable def f129 (v1 v2 v3:Int):Option (jV×Unit):=
 ((f122 v1 v2 v3)).bind fun y4=>
 some ((y4.1.1.1,y4.1.1.2),())
abbrev lQ:Type:=(bw×Unit×Int×Int×Unit)×Er×(Unit)
abbrev rW:Type:=(Unit)×Er×(Unit)
abbrev si:Type:=cF×Er×(Unit)
noncomputable def lU (v1:bw)(v2 v3 v4 v5:Int):Option (R3 lQ rW si):=
 cond (decide (v3<v2)) (
  cond ((decide (0≤v3))&&(decide (v3<(v1.length:Int)))) (
   ((f129 (rd cL v1 (Int.toNat v3)).1 (rd cL v1 (Int.toNat v3)).2.1 (rd cL v1 (Int.toNat v3)).2.2)).bind fun y6=>
   ((f127 y6.1.1 y6.1.2 v4 v5)).bind fun y7=>
   cond (decide (0<y7.1)) (
    some (R3.ret ((v3,()),((v4,v5,()),((),()),()),()))) (
    some (R3.next ((v1,(),v2,(IntKind.wrap .i64 (v3+1)),()),((v4,v5,()),((),()),()),())))) (
   none)) (
  some (R3.out ((),((v4,v5,()),((),()),()),())))
noncomputable def fT (z:lQ):Option (R3 lQ rW si):=lU z.1.1 z.1.2.2.1 z.1.2.2.2.1 z.2.1.1.1 z.2.1.1.2.1
noncomputable def f131 (v1:bw)(v2 v3:Int):Option cF:=
 ((iter aC fT ((v1,(),(v1.length:Int),0,()),((v2,v3,()),((),()),()),()))).bind fun r=>match r with
 | .inl y4=>
   some ((v1.length:Int),())
 | .inr z5=>
   cond (decide (z5.1.1=(-1))) (
    some ((v1.length:Int),())) (
    some (z5.1.1,()))
abbrev k8:Type:=XH×UG×(Unit)
abbrev rV:Type:=(Unit)×UG×(Unit)
abbrev tW:Type:=cF×UG×(Unit)
noncomputable def mh (v1 v2 v3 v4 v5:Int)(v6:bw):Option (R3 k8 rV tW):=
 cond (decide (v2<v1)) (
  cond ((decide (0≤v2))&&(decide (v2<(v6.length:Int)))) (
   cond (decide ((Int.toNat v2)<v6.length)) (
    ((f129 (rd cL v6 (Int.toNat v2)).1 (rd cL v6 (Int.toNat v2)).2.1 (rd cL v6 (Int.toNat v2)).2.2)).bind fun y7=>
    ((f129 v3 v4 v5)).bind fun y8=>
    cond ((decide (y7.1.1=y8.1.1))&&((decide (y7.1.2=y8.1.2))&&true)) (
     some (R3.ret ((v2,()),((v3,v4,v5,()),v6,()),()))) (
     some (R3.next (((),(),v1,(IntKind.wrap .i64 (v2+1)),()),((v3,v4,v5,()),v6,()),())))) (
    none)) (
   none)) (
  some (R3.out ((),((v3,v4,v5,()),v6,()),())))
noncomputable def gb (z:k8):Option (R3 k8 rV tW):=mh z.1.2.2.1 z.1.2.2.2.1 z.2.1.1.1 z.2.1.1.2.1 z.2.1.1.2.2.1 z.2.1.2.1
abbrev lZ:Type:=XH×UG×(Unit)
abbrev sJ:Type:=(Unit×Int×Unit)×UG×(Unit)
abbrev sS:Type:=Unit×O1×Unit
noncomputable def lC (v1 v2 v3 v4 v5:Int)(v6:bw):Option (R3 lZ sJ sS):=
 cond (decide (v2<(v6.length:Int))) (
  cond ((decide (0≤v2))&&(decide (v2<(v6.length:Int)))) (
   cond (decide ((Int.toNat v2)<v6.length)) (
    ((f129 (rd cL v6 (Int.toNat v2)).1 (rd cL v6 (Int.toNat v2)).2.1 (rd cL v6 (Int.toNat v2)).2.2)).bind fun y7=>
    ((f129 v3 v4 v5)).bind fun y8=>
    cond (!((decide (y7.1.1=y8.1.1))&&((decide (y7.1.2=y8.1.2))&&true))) (
     cond ((decide (0≤v1))&&(decide (v1<(v6.length:Int)))) (
      cond (decide ((Int.toNat v1)<v6.length)) (
       some (R3.next (((),(),(IntKind.wrap .i64 (v1+1)),(IntKind.wrap .i64 (v2+1)),()),((v3,v4,v5,()),(v6.set (Int.toNat v1) ((rd cL v6 (Int.toNat v2)).1,(rd cL v6 (Int.toNat v2)).2.1,(rd cL v6 (Int.toNat v2)).2.2)),()),()))) (
       none)) (
      none)) (
     some (R3.next (((),(),v1,(IntKind.wrap .i64 (v2+1)),()),((v3,v4,v5,()),v6,()),())))) (
    none)) (
   none)) (
  some (R3.out (((),v1,()),((v3,v4,v5,()),v6,()),())))
noncomputable def fM (z:lZ):Option (R3 lZ sJ sS):=lC z.1.2.2.1 z.1.2.2.2.1 z.2.1.1.1 z.2.1.1.2.1 z.2.1.1.2.2.1 z.2.1.2.1
noncomputable def f103 (v1:bw)(v2 v3 v4:Int):Option (bw×Unit):=
 ((dF v1)).bind fun y5=>
 ((iter aC gb (((),(),(y5.1.length:Int),0,()),((v2,v3,v4,()),y5.1,()),()))).bind fun r=>match r with
 | .inl y6=>
   ((f129 y6.2.1.1.1 y6.2.1.1.2.1 y6.2.1.1.2.2.1)).bind fun y8=>
   ((f131 y6.2.1.2.1 y8.1.1 y8.1.2)).bind fun y9=>
   ((iV y6.2.1.2.1 y9.1 [(y6.2.1.1.1,y6.2.1.1.2.1,y6.2.1.1.2.2.1)])).bind fun y10=>
   some (y10,())
 | .inr z7=>
   cond (decide (z7.1.1=(-1))) (
    ((f129 z7.2.1.1.1 z7.2.1.1.2.1 z7.2.1.1.2.2.1)).bind fun y11=>
    ((f131 z7.2.1.2.1 y11.1.1 y11.1.2)).bind fun y12=>
    ((iV z7.2.1.2.1 y12.1 [(z7.2.1.1.1,z7.2.1.1.2.1,z7.2.1.1.2.2.1)])).bind fun y13=>
    some (y13,())) (
    ((iter aC fM (((),(),z7.1.1,(IntKind.wrap .i64 (z7.1.1+1)),()),((z7.2.1.1.1,z7.2.1.1.2.1,z7.2.1.1.2.2.1,()),z7.2.1.2.1,()),()))).bind fun r=>match r with
    | .inl y14=>
      cond (((decide (0≤y14.1.2.1))&&(decide (y14.1.2.1≤(((y14.2.1.2.1.length-0):Nat):Int))))&&(decide ((0+(((y14.2.1.2.1.length-0):Nat):Int))≤(y14.2.1.2.1.length:Int)))) (
       cond ((decide (0≤y14.1.2.1))&&(decide ((0+y14.1.2.1)≤(((((List.take (0+(Int.toNat y14.1.2.1)) y14.2.1.2.1)++(List.replicate ((0+(Int.toNat (((y14.2.1.2.1.length-0):Nat):Int)))-(0+(Int.toNat y14.1.2.1))) (0,0,0)))++(List.drop ((0+(Int.toNat y14.1.2.1))+((0+(Int.toNat (((y14.2.1.2.1.length-0):Nat):Int)))-(0+(Int.toNat y14.1.2.1)))) y14.2.1.2.1)).length:Nat):Int)))) (
        ((f129 y14.2.1.1.1 y14.2.1.1.2.1 y14.2.1.1.2.2.1)).bind fun y16=>
        ((f131 (List.drop 0 (List.take (0+(Int.toNat y14.1.2.1)) (((List.take (0+(Int.toNat y14.1.2.1)) y14.2.1.2.1)++(List.replicate ((0+(Int.toNat (((y14.2.1.2.1.length-0):Nat):Int)))-(0+(Int.toNat y14.1.2.1))) (0,0,0)))++(List.drop ((0+(Int.toNat y14.1.2.1))+((0+(Int.toNat (((y14.2.1.2.1.length-0):Nat):Int)))-(0+(Int.toNat y14.1.2.1)))) y14.2.1.2.1)))) y16.1.1 y16.1.2)).bind fun y17=>
        ((iV (List.take (0+(Int.toNat y14.1.2.1)) (((List.take (0+(Int.toNat y14.1.2.1)) y14.2.1.2.1)++(List.replicate ((0+(Int.toNat (((y14.2.1.2.1.length-0):Nat):Int)))-(0+(Int.toNat y14.1.2.1))) (0,0,0)))++(List.drop ((0+(Int.toNat y14.1.2.1))+((0+(Int.toNat (((y14.2.1.2.1.length-0):Nat):Int)))-(0+(Int.toNat y14.1.2.1)))) y14.2.1.2.1))) y17.1 [(y14.2.1.1.1,y14.2.1.1.2.1,y14.2.1.1.2.2.1)])).bind fun y18=>
        some (y18,())) (
        none)) (
       none)
    | .inr z15=>
      none)
abbrev LO:Type:=(bw×Int×Unit×bw×Int×Int×Unit)×(AM×Unit)×(Unit)
abbrev RZ:Type:=QO×(Unit)×(Unit)
abbrev SE:Type:=cF×(Unit)×(Unit)
noncomputable def Ku (v1:bw)(v2:Int)(v3:bw)(v4 v5 v6 v7 v8:Int):Option (R3 LO RZ SE):=
 cond (decide (v5<v4)) (
  cond ((decide (0≤v5))&&(decide (v5<(v3.length:Int)))) (
   cond (decide (v5=v2)) (
    some (R3.next ((v1,v2,(),v3,v4,(IntKind.wrap .i64 (v5+1)),()),((v6,v7,v8,()),()),()))) (
    ((f91 v6 v7 v8 (rd cL v3 (Int.toNat v5)).1 (rd cL v3 (Int.toNat v5)).2.1 (rd cL v3 (Int.toNat v5)).2.2)).bind fun y9=>
    cond y9.1 (
     some (R3.ret ((11,()),(),()))) (
     some (R3.next ((v1,v2,(),v3,v4,(IntKind.wrap .i64 (v5+1)),()),((v6,v7,v8,()),()),()))))) (
   none)) (
  some (R3.out ((v1,v2,()),(),())))
noncomputable def u9 (z:LO):Option (R3 LO RZ SE):=Ku z.1.1 z.1.2.1 z.1.2.2.2.1 z.1.2.2.2.2.1 z.1.2.2.2.2.2.1 z.2.1.1.1 z.2.1.1.2.1 z.2.1.1.2.2.1
noncomputable def f157 (v1 v2 v3 v4 v5 v6:Int)(v7:iS)(v8:bw)(v9 v10 v11 v12:Int):Option cF:=
 ((f92 v10 v11 v12 v2)).bind fun y13=>
 cond (!y13.1) (
  some (1,())) (
  ((iter aC u9 ((v8,v9,(),v8,(v8.length:Int),0,()),((v10,v11,v12,()),()),()))).bind fun r=>match r with
  | .inl y14=>
    cond (decide (y14.1.2.1=(-1))) (
     cond (decide ((y14.1.1.length:Int)=3)) (
      some (9,())) (
      some (0,()))) (
     some (0,()))
  | .inr z15=>
    some (z15.1.1,()))
abbrev lF:Type:=(iS×Unit×Int×Int×Unit)×Z3×(Unit)
abbrev r8:Type:=(Unit)×Z3×(Unit)
abbrev sV:Type:=cF×Z3×(Unit)
noncomputable def mc (v1:iS)(v2 v3 v4 v5 v6 v7 v8 v9:Int)(v10:iS)(v11:bw)(v12 v13 v14 v15 v16 v17:Int):Option (R3 lF r8 sV):=
 cond (decide (v3<v2)) (
  cond ((decide (0≤v3))&&(decide (v3<(v1.length:Int)))) (
   cond ((decide (0≤v6))&&(decide (v6<(v11.length:Int)))) (
    ((f55 (rd cL v11 (Int.toNat v6)).1 (rd cL v11 (Int.toNat v6)).2.1 (rd cL v11 (Int.toNat v6)).2.2 (rd (.int .i64) v1 (Int.toNat v3)))).bind fun y18=>
    cond y18.1 (
     ((f55 v15 v16 v17 (rd (.int .i64) v1 (Int.toNat v3)))).bind fun y19=>
     cond (!y19.1) (
      some (R3.ret ((v3,()),((v4,v5,v6,v7,v8,v9,v10,()),(v11,()),(v12,v13,v14,()),(v15,v16,v17,()),()),()))) (
      some (R3.next ((v1,(),v2,(IntKind.wrap .i64 (v3+1)),()),((v4,v5,v6,v7,v8,v9,v10,()),(v11,()),(v12,v13,v14,()),(v15,v16,v17,()),()),())))) (
     some (R3.next ((v1,(),v2,(IntKind.wrap .i64 (v3+1)),()),((v4,v5,v6,v7,v8,v9,v10,()),(v11,()),(v12,v13,v14,()),(v15,v16,v17,()),()),())))) (
    none)) (
   none)) (
  some (R3.out ((),((v4,v5,v6,v7,v8,v9,v10,()),(v11,()),(v12,v13,v14,()),(v15,v16,v17,()),()),())))
noncomputable def dO (z:lF):Option (R3 lF r8 sV):=mc z.1.1 z.1.2.2.1 z.1.2.2.2.1 z.2.1.1.1 z.2.1.1.2.1 z.2.1.1.2.2.1 z.2.1.1.2.2.2.1 z.2.1.1.2.2.2.2.1 z.2.1.1.2.2.2.2.2.1 z.2.1.1.2.2.2.2.2.2.1 z.2.1.2.1.1 z.2.1.2.2.1.1 z.2.1.2.2.1.2.1 z.2.1.2.2.1.2.2.1 z.2.1.2.2.2.1.1 z.2.1.2.2.2.1.2.1 z.2.1.2.2.2.1.2.2.1
abbrev mr:Type:=(iS×Unit×Int×Int×Unit)×aae×(Unit)
abbrev r5:Type:=(Unit)×aae×(Unit)
abbrev sQ:Type:=cF×aae×(Unit)
noncomputable def lm (v1:iS)(v2 v3 v4 v5 v6 v7 v8 v9:Int)(v10:iS)(v11:bw)(v12 v13 v14:Int):Option (R3 mr r5 sQ):=
 cond (decide (v3<v2)) (
  cond ((decide (0≤v3))&&(decide (v3<(v1.length:Int)))) (
   cond ((decide (0≤v6))&&(decide (v6<(v11.length:Int)))) (
    ((f55 (rd cL v11 (Int.toNat v6)).1 (rd cL v11 (Int.toNat v6)).2.1 (rd cL v11 (Int.toNat v6)).2.2 (rd (.int .i64) v1 (Int.toNat v3)))).bind fun y15=>
    cond y15.1 (
     ((f55 v12 v13 v14 (rd (.int .i64) v1 (Int.toNat v3)))).bind fun y16=>
     cond (!y16.1) (
      some (R3.ret ((v3,()),((v4,v5,v6,v7,v8,v9,v10,()),(v11,()),(v12,v13,v14,()),()),()))) (
      some (R3.next ((v1,(),v2,(IntKind.wrap .i64 (v3+1)),()),((v4,v5,v6,v7,v8,v9,v10,()),(v11,()),(v12,v13,v14,()),()),())))) (
     some (R3.next ((v1,(),v2,(IntKind.wrap .i64 (v3+1)),()),((v4,v5,v6,v7,v8,v9,v10,()),(v11,()),(v12,v13,v14,()),()),())))) (
    none)) (
   none)) (
  some (R3.out ((),((v4,v5,v6,v7,v8,v9,v10,()),(v11,()),(v12,v13,v14,()),()),())))
noncomputable def dV (z:mr):Option (R3 mr r5 sQ):=lm z.1.1 z.1.2.2.1 z.1.2.2.2.1 z.2.1.1.1 z.2.1.1.2.1 z.2.1.1.2.2.1 z.2.1.1.2.2.2.1 z.2.1.1.2.2.2.2.1 z.2.1.1.2.2.2.2.2.1 z.2.1.1.2.2.2.2.2.2.1 z.2.1.2.1.1 z.2.1.2.2.1.1 z.2.1.2.2.1.2.1 z.2.1.2.2.1.2.2.1
noncomputable def f139 (v1 v2 v3 v4 v5 v6:Int)(v7:iS)(v8:bw):Option cF:=
 ((f45 v8 v2)).bind fun y9=>
 cond (!y9.1) (
  some (1,())) (
  cond (!(decide (v1=0))) (
   cond (decide (v3<0)) (
    some (5,())) (
    cond (decide ((v8.length:Int)≤v3)) (
     some (5,())) (
     cond (decide (v1=0)) (
      ((f157 v1 v2 v3 v4 v5 v6 v7 v8 (-1) v4 v5 v6)).bind fun y10=>
      some (y10.1,())) (
      cond (decide (v1=1)) (
       cond ((decide (0≤v3))&&(decide (v3<(v8.length:Int)))) (
        cond (decide ((rd cL v8 (Int.toNat v3)).2.2=1)) (
         some (11,())) (
         some (0,()))) (
        none)) (
       cond (decide (v1=2)) (
        cond ((decide (0≤v3))&&(decide (v3<(v8.length:Int)))) (
         ((f157 v1 v2 v3 v4 v5 v6 v7 v8 v3 (rd cL v8 (Int.toNat v3)).1 v5 (rd cL v8 (Int.toNat v3)).2.2)).bind fun y11=>
         cond (!(decide (y11.1=0))) (
          some (y11.1,())) (
          ((iter aC dO ((v7,(),(v7.length:Int),0,()),((v1,v2,v3,v4,v5,v6,v7,()),(v8,()),((rd cL v8 (Int.toNat v3)).1,v5,(rd cL v8 (Int.toNat v3)).2.2,()),((rd cL v8 (Int.toNat v3)).1,v5,(rd cL v8 (Int.toNat v3)).2.2,()),()),()))).bind fun r=>match r with
          | .inl y12=>
            some (0,())
          | .inr z13=>
            cond (decide (0≤z13.1.1)) (
             some (12,())) (
             some (0,())))) (
         none)) (
        cond (decide (v1=3)) (
         cond ((decide (0≤v3))&&(decide (v3<(v8.length:Int)))) (
          cond (decide ((rd cL v8 (Int.toNat v3)).2.2=0)) (
           some (12,())) (
           ((iter aC dV ((v7,(),(v7.length:Int),0,()),((v1,v2,v3,v4,v5,v6,v7,()),(v8,()),(0,0,0,()),()),()))).bind fun r=>match r with
           | .inl y14=>
             some (0,())
           | .inr z15=>
             cond (decide (0≤z15.1.1)) (
              some (12,())) (
              some (0,())))) (
          none)) (
         some (0,())))))))) (
   cond (decide (v1=0)) (
    ((f157 v1 v2 v3 v4 v5 v6 v7 v8 (-1) v4 v5 v6)).bind fun y16=>
    some (y16.1,())) (
    cond (decide (v1=1)) (
     cond ((decide (0≤v3))&&(decide (v3<(v8.length:Int)))) (
      cond (decide ((rd cL v8 (Int.toNat v3)).2.2=1)) (
       some (11,())) (
       some (0,()))) (
      none)) (
     cond (decide (v1=2)) (
      cond ((decide (0≤v3))&&(decide (v3<(v8.length:Int)))) (
       ((f157 v1 v2 v3 v4 v5 v6 v7 v8 v3 (rd cL v8 (Int.toNat v3)).1 v5 (rd cL v8 (Int.toNat v3)).2.2)).bind fun y17=>
       cond (!(decide (y17.1=0))) (
        some (y17.1,())) (
        ((iter aC dO ((v7,(),(v7.length:Int),0,()),((v1,v2,v3,v4,v5,v6,v7,()),(v8,()),((rd cL v8 (Int.toNat v3)).1,v5,(rd cL v8 (Int.toNat v3)).2.2,()),((rd cL v8 (Int.toNat v3)).1,v5,(rd cL v8 (Int.toNat v3)).2.2,()),()),()))).bind fun r=>match r with
        | .inl y18=>
          some (0,())
        | .inr z19=>
          cond (decide (0≤z19.1.1)) (
           some (12,())) (
           some (0,())))) (
       none)) (
      cond (decide (v1=3)) (
       cond ((decide (0≤v3))&&(decide (v3<(v8.length:Int)))) (
        cond (decide ((rd cL v8 (Int.toNat v3)).2.2=0)) (
         some (12,())) (
         ((iter aC dV ((v7,(),(v7.length:Int),0,()),((v1,v2,v3,v4,v5,v6,v7,()),(v8,()),(0,0,0,()),()),()))).bind fun r=>match r with
         | .inl y20=>
           some (0,())
         | .inr z21=>
           cond (decide (0≤z21.1.1)) (
            some (12,())) (
            some (0,())))) (
        none)) (
       some (0,())))))))
noncomputable def f115 (v1 v2 v3 v4 v5 v6:Int)(v7:iS)(v8:bw):Option QO:=
 ((ew v8)).bind fun y9=>
 ((f139 v1 v2 v3 v4 v5 v6 v7 v8)).bind fun y10=>
 cond (!(decide (y10.1=0))) (
  some (y9.1,y10.1,())) (
  cond (decide (v1=0)) (
   cond ((decide (((y9.1.length+1) * 24)≤140737488355328))&&(decide ((y9.1.length+1)≤9223372036854775807))) (
    some ((y9.1++[(v4,v5,v6)]),0,())) (
    none)) (
   cond (decide (v1=1)) (
    cond ((decide (0≤v3))&&(decide (v3<(y9.1.length:Int)))) (
     cond (decide ((Int.toNat v3)<y9.1.length)) (
      some ((y9.1.set (Int.toNat v3) ((rd cL y9.1 (Int.toNat v3)).1,(rd cL y9.1 (Int.toNat v3)).2.1,1)),0,())) (
      none)) (
     none)) (
    cond (decide (v1=2)) (
     cond ((decide (0≤v3))&&(decide (v3<(y9.1.length:Int)))) (
      cond (decide ((Int.toNat v3)<y9.1.length)) (
       some ((y9.1.set (Int.toNat v3) ((rd cL y9.1 (Int.toNat v3)).1,v5,(rd cL y9.1 (Int.toNat v3)).2.2)),0,())) (
       none)) (
      none)) (
     cond ((((decide (0≤v3))&&(decide (v3≤(IntKind.wrap .i64 (v3+1)))))&&(decide ((IntKind.wrap .i64 (v3+1))≤(y9.1.length:Int))))&&(decide ((0+(y9.1.length:Int))≤(y9.1.length:Int)))) (
      cond (decide (v3=(IntKind.wrap .i64 (v3+1)))) (
       some (y9.1,0,())) (
       cond ((decide (0≤v3))&&(decide ((0+v3)≤(y9.1.length:Int)))) (
        cond (((decide (0≤(IntKind.wrap .i64 (v3+1))))&&(decide ((IntKind.wrap .i64 (v3+1))≤(((y9.1.length-0):Nat):Int))))&&(decide ((0+(((y9.1.length-0):Nat):Int))≤(y9.1.length:Int)))) (
         cond (decide (((0+(Int.toNat v3))+(List.drop (0+(Int.toNat (IntKind.wrap .i64 (v3+1)))) (List.take (0+(Int.toNat (((y9.1.length-0):Nat):Int))) y9.1)).length)≤y9.1.length)) (
          cond (((decide (0≤(((((0+(Int.toNat v3))+(List.drop (0+(Int.toNat (IntKind.wrap .i64 (v3+1)))) (List.take (0+(Int.toNat (((y9.1.length-0):Nat):Int))) y9.1)).length)-0):Nat):Int)))&&(decide ((((((0+(Int.toNat v3))+(List.drop (0+(Int.toNat (IntKind.wrap .i64 (v3+1)))) (List.take (0+(Int.toNat (((y9.1.length-0):Nat):Int))) y9.1)).length)-0):Nat):Int)≤(y9.1.length:Int))))&&(decide ((0+(y9.1.length:Int))≤(((((List.take (0+(Int.toNat v3)) y9.1)++(List.drop (0+(Int.toNat (IntKind.wrap .i64 (v3+1)))) (List.take (0+(Int.toNat (((y9.1.length-0):Nat):Int))) y9.1)))++(List.drop ((0+(Int.toNat v3))+(List.drop (0+(Int.toNat (IntKind.wrap .i64 (v3+1)))) (List.take (0+(Int.toNat (((y9.1.length-0):Nat):Int))) y9.1)).length) y9.1)).length:Nat):Int)))) (
           some ((List.take ((0+(Int.toNat v3))+(List.drop (0+(Int.toNat (IntKind.wrap .i64 (v3+1)))) (List.take (0+(Int.toNat (((y9.1.length-0):Nat):Int))) y9.1)).length) (((List.take (0+(Int.toNat (((((0+(Int.toNat v3))+(List.drop (0+(Int.toNat (IntKind.wrap .i64 (v3+1)))) (List.take (0+(Int.toNat (((y9.1.length-0):Nat):Int))) y9.1)).length)-0):Nat):Int))) (((List.take (0+(Int.toNat v3)) y9.1)++(List.drop (0+(Int.toNat (IntKind.wrap .i64 (v3+1)))) (List.take (0+(Int.toNat (((y9.1.length-0):Nat):Int))) y9.1)))++(List.drop ((0+(Int.toNat v3))+(List.drop (0+(Int.toNat (IntKind.wrap .i64 (v3+1)))) (List.take (0+(Int.toNat (((y9.1.length-0):Nat):Int))) y9.1)).length) y9.1)))++(List.replicate ((0+(Int.toNat (y9.1.length:Int)))-(0+(Int.toNat (((((0+(Int.toNat v3))+(List.drop (0+(Int.toNat (IntKind.wrap .i64 (v3+1)))) (List.take (0+(Int.toNat (((y9.1.length-0):Nat):Int))) y9.1)).length)-0):Nat):Int)))) (0,0,0)))++(List.drop ((0+(Int.toNat (((((0+(Int.toNat v3))+(List.drop (0+(Int.toNat (IntKind.wrap .i64 (v3+1)))) (List.take (0+(Int.toNat (((y9.1.length-0):Nat):Int))) y9.1)).length)-0):Nat):Int)))+((0+(Int.toNat (y9.1.length:Int)))-(0+(Int.toNat (((((0+(Int.toNat v3))+(List.drop (0+(Int.toNat (IntKind.wrap .i64 (v3+1)))) (List.take (0+(Int.toNat (((y9.1.length-0):Nat):Int))) y9.1)).length)-0):Nat):Int))))) (((List.take (0+(Int.toNat v3)) y9.1)++(List.drop (0+(Int.toNat (IntKind.wrap .i64 (v3+1)))) (List.take (0+(Int.toNat (((y9.1.length-0):Nat):Int))) y9.1)))++(List.drop ((0+(Int.toNat v3))+(List.drop (0+(Int.toNat (IntKind.wrap .i64 (v3+1)))) (List.take (0+(Int.toNat (((y9.1.length-0):Nat):Int))) y9.1)).length) y9.1))))),0,())) (
           none)) (
          none)) (
         none)) (
        none))) (
      none)))))
noncomputable def f72 (v1:bw)(v2 v3 v4:Int):Option QO:=
 ((f115 0 v2 0 v3 v4 0 [] v1)).bind fun y5=>
 some (y5.1,y5.2.1,())
noncomputable def f73 (v1:bw)(v2 v3:Int):Option QO:=
 ((f115 1 v2 v3 0 0 0 [] v1)).bind fun y4=>
 some (y4.1,y4.2.1,())
noncomputable def f74 (v1:bw)(v2 v3 v4:Int)(v5:iS):Option QO:=
 ((f115 2 v2 v3 0 v4 0 v5 v1)).bind fun y6=>
 some (y6.1,y6.2.1,())
abbrev SI:Type:=(ed×Int×Int×Unit)×(Unit)×iS×Unit
abbrev Zu:Type:=(Unit)×(Unit)×iS×Unit
abbrev Ys:Type:=Unit×Unit×Unit
noncomputable def Tm (v1:ed)(v2 v3:Int)(v4:iS):Option (R3 SI Zu Ys):=
 cond (decide (v3<v2)) (
  cond ((decide (0≤v3))&&(decide (v3<(v1.length:Int)))) (
   ((f98 (rd b9 v1 (Int.toNat v3)).1 (rd b9 v1 (Int.toNat v3)).2.1 (rd b9 v1 (Int.toNat v3)).2.2.1 (rd b9 v1 (Int.toNat v3)).2.2.2.1 (rd b9 v1 (Int.toNat v3)).2.2.2.2)).bind fun y5=>
   cond ((decide (((v4.length+1) * 8)≤140737488355328))&&(decide ((v4.length+1)≤9223372036854775807))) (
    some (R3.next ((v1,v2,(IntKind.wrap .i64 (v3+1)),()),(),(v4++[y5.1.1.1]),()))) (
    none)) (
   none)) (
  some (R3.out ((),(),v4,())))
noncomputable def HE (z:SI):Option (R3 SI Zu Ys):=Tm z.1.1 z.1.2.1 z.1.2.2.1 z.2.2.1
noncomputable def f75 (v1:ed):Option (iS×Unit):=
 ((iter aC HE ((v1,(v1.length:Int),0,()),(),[],()))).bind fun r=>match r with
 | .inl y2=>
   ((Kb y2.2.2.1)).bind fun y4=>
   cond ((Nat.beq y4.length y2.2.2.1.length)&&true) (
    ((nB y4)).bind fun y5=>
    some (y5,())) (
    none)
 | .inr z3=>
   none
noncomputable def f76 (v1:bw)(v2 v3:Int)(v4:iS):Option QO:=
 ((f115 3 v2 v3 0 0 0 v4 v1)).bind fun y5=>
 some (y5.1,y5.2.1,())
abbrev TW:Type:=(Int×ed×Int×Int×Unit)×(Unit)×iS×Unit
abbrev ZO:Type:=(Unit)×(Unit)×iS×Unit
abbrev Y5:Type:=Unit×Unit×Unit
noncomputable def UB (v1:Int)(v2:ed)(v3 v4:Int)(v5:iS):Option (R3 TW ZO Y5):=
 cond (decide (v4<v3)) (
  cond ((decide (0≤v4))&&(decide (v4<(v2.length:Int)))) (
   cond (decide ((rd b9 v2 (Int.toNat v4)).1=v1)) (
    cond ((decide (((v5.length+1) * 8)≤140737488355328))&&(decide ((v5.length+1)≤9223372036854775807))) (
     some (R3.next ((v1,v2,v3,(IntKind.wrap .i64 (v4+1)),()),(),(v5++[v4]),()))) (
     none)) (
    some (R3.next ((v1,v2,v3,(IntKind.wrap .i64 (v4+1)),()),(),v5,())))) (
   none)) (
  some (R3.out ((),(),v5,())))
noncomputable def Bl (z:TW):Option (R3 TW ZO Y5):=UB z.1.1 z.1.2.1 z.1.2.2.1 z.1.2.2.2.1 z.2.2.1
noncomputable def f21 (v1:ed)(v2:Int):Option (iS×Unit):=
 ((iter aC Bl ((v2,v1,(v1.length:Int),0,()),(),[],()))).bind fun r=>match r with
 | .inl y3=>
   some (y3.2.2.1,())
 | .inr z4=>
   none
noncomputable def f23 (v1:bw)(v2:Int):Option dr:=
 ((f20 v1 v2)).bind fun y3=>
 cond (!(decide (y3.1=(-1)))) (
  cond ((decide (0≤y3.1))&&(decide (y3.1<(v1.length:Int)))) (
   some ((decide ((rd cL v1 (Int.toNat y3.1)).2.2=0)),())) (
   none)) (
  some (false,()))
noncomputable def f144 (v1 v2:Int):Option dr:=
 cond (decide (0≤v1)) (
  cond (decide (v1≤8)) (
   cond (decide (0≤v2)) (
    cond (!(decide (v1<0))) (
     some ((decide ((Int.fdiv v2 ((2:Int) ^ ((min (Int.toNat v1) 64):Nat)))=0)),())) (
     none)) (
    some (false,()))) (
   some (false,()))) (
  some (false,()))
abbrev ph:Type:=(Unit×Int×Unit)×aa3×(Unit)
abbrev wD:Type:=(Unit)×aa3×(Unit)
abbrev vV:Type:=(Unit)×aa3×(Unit)
noncomputable def nY (v1 v2 v3 v4 v5 v6:Int):Option (R3 ph wD vV):=
 cond (decide (0<v1)) (
  ((fTz v1)).bind fun y7=>
  some (R3.ret ((),((v2,v3,()),(y7.1,()),(v5,v6,()),((),(),(),(),(),(),(),(),()),()),()))) (
  some (R3.out ((),((v2,v3,()),(v4,()),(v5,v6,()),((),(),(),(),(),(),(),(),()),()),())))
noncomputable def cT (z:ph):Option (R3 ph wD vV):=nY z.1.2.1 z.2.1.1.1 z.2.1.1.2.1 z.2.1.2.1.1 z.2.1.2.2.1.1 z.2.1.2.2.1.2.1
noncomputable def f99 (v1 v2:Int):Option cF:=
 ((f144 v1 v2)).bind fun y3=>
 cond (!y3.1) (
  some ((-1),())) (
  cond (!(decide (v1<0))) (
   ((iter aC cT (((),(bG .andNot .u64 (IntKind.wrap .u64 ((IntKind.wrap .u64 (1 * ((2:Int) ^ ((min (Int.toNat v1) 64):Nat))))-1)) (IntKind.wrap .u64 v2)),()),((v1,v2,()),(0,()),(v1,v2,()),((),(),(),(),(),(),(),(),()),()),()))).bind fun r=>match r with
   | .inl y4=>
     some ((-1),())
   | .inr z5=>
     some (z5.2.1.2.1.1,())) (
   none))
noncomputable def f121 (v1:Int):Option (jV×Bool×Unit):=
 ((f144 v1 0)).bind fun y2=>
 cond y2.1 (
  some ((v1,0),true,())) (
  some ((0,0),false,()))
noncomputable def f171 (v1 v2 v3:Int):Option dr:=
 ((f144 v1 v2)).bind fun y4=>
 cond y4.1 (
  cond (decide (0≤v3)) (
   some ((decide (v3<v1)),())) (
   some (false,()))) (
  some (false,()))
noncomputable def f172 (v1 v2 v3:Int):Option dr:=
 ((f171 v1 v2 v3)).bind fun y4=>
 cond y4.1 (
  cond (!(decide (v3<0))) (
   some ((decide ((bG .and .i64 (Int.fdiv v2 ((2:Int) ^ ((min (Int.toNat v3) 64):Nat))) 1)=1)),())) (
   none)) (
  some (false,()))
noncomputable def f146 (v1 v2 v3:Int)(v4:Bool):Option (jV×Bool×Unit):=
 ((f171 v1 v2 v3)).bind fun y5=>
 cond (!y5.1) (
  some ((v1,v2),false,())) (
  ((f172 v1 v2 v3)).bind fun y6=>
  cond (!(y6.1 == v4)) (
   some ((v1,v2),false,())) (
   cond (!(decide (v3<0))) (
    some ((v1,(bG .xor .i64 v2 (IntKind.wrap .i64 (1 * ((2:Int) ^ ((min (Int.toNat v3) 64):Nat)))))),true,())) (
    none)))
noncomputable def f123 (v1 v2 v3:Int):Option (jV×Bool×Unit):=
 ((f146 v1 v2 v3 false)).bind fun y4=>
 some ((y4.1.1,y4.1.2),y4.2.1,())
abbrev Lr:Type:=(bw×Int×Unit×Unit×ed×Int×Int×Unit)×PJ×au×Unit
abbrev RM:Type:=(bw×Int×Unit×Unit×Unit)×PJ×au×Unit
abbrev Tj:Type:=Unit×Unit×Unit
noncomputable def KY (v1:bw)(v2:Int)(v3:ed)(v4 v5 v6 v7 v8 v9:Int)(v10:au):Option (R3 Lr RM Tj):=
 cond (decide (v5<v4)) (
  cond ((decide (0≤v5))&&(decide (v5<(v3.length:Int)))) (
   ((f98 (rd b9 v3 (Int.toNat v5)).1 (rd b9 v3 (Int.toNat v5)).2.1 (rd b9 v3 (Int.toNat v5)).2.2.1 (rd b9 v3 (Int.toNat v5)).2.2.2.1 (rd b9 v3 (Int.toNat v5)).2.2.2.2)).bind fun y11=>
   cond ((decide (((v10.length+1) * 16)≤140737488355328))&&(decide ((v10.length+1)≤9223372036854775807))) (
    some (R3.next ((v1,v2,(),(),v3,v4,(IntKind.wrap .i64 (v5+1)),()),((v6,v7,()),(v8,v9,()),()),(v10++[(y11.1.1.1,y11.1.1.2)]),()))) (
    none)) (
   none)) (
  some (R3.out ((v1,v2,(),(),()),((v6,v7,()),(v8,v9,()),()),v10,())))
noncomputable def uB (z:Lr):Option (R3 Lr RM Tj):=KY z.1.1 z.1.2.1 z.1.2.2.2.2.1 z.1.2.2.2.2.2.1 z.1.2.2.2.2.2.2.1 z.2.1.1.1 z.2.1.1.2.1 z.2.1.2.1.1 z.2.1.2.1.2.1 z.2.2.1
abbrev KW:Type:=(Int×Unit×Unit×bw×Int×Int×Unit)×PJ×au×Unit
abbrev TI:Type:=(Int×Unit×Unit×Unit)×PJ×au×Unit
abbrev TE:Type:=Unit×Unit×Unit
noncomputable def LS (v1:Int)(v2:bw)(v3 v4 v5 v6 v7 v8:Int)(v9:au):Option (R3 KW TI TE):=
 cond (decide (v4<v3)) (
  cond ((decide (0≤v4))&&(decide (v4<(v2.length:Int)))) (
   ((f122 (rd cL v2 (Int.toNat v4)).1 (rd cL v2 (Int.toNat v4)).2.1 (rd cL v2 (Int.toNat v4)).2.2)).bind fun y10=>
   cond ((decide (((v9.length+1) * 16)≤140737488355328))&&(decide ((v9.length+1)≤9223372036854775807))) (
    some (R3.next ((v1,(),(),v2,v3,(IntKind.wrap .i64 (v4+1)),()),((v5,v6,()),(v7,v8,()),()),(v9++[(y10.1.1.1,y10.1.1.2)]),()))) (
    none)) (
   none)) (
  some (R3.out ((v1,(),(),()),((v5,v6,()),(v7,v8,()),()),v9,())))
noncomputable def uj (z:KW):Option (R3 KW TI TE):=LS z.1.1 z.1.2.2.2.1 z.1.2.2.2.2.1 z.1.2.2.2.2.2.1 z.2.1.1.1 z.2.1.1.2.1 z.2.1.2.1.1 z.2.1.2.1.2.1 z.2.2.1
abbrev CK:Type:=(Int×Unit×Unit×Int×Int×Unit)×PJ×au×Unit
abbrev Og:Type:=O1×PJ×(Unit)
abbrev OD:Type:=Unit×Unit×Unit
noncomputable def CG (v1 v2 v3 v4 v5 v6 v7:Int)(v8:au):Option (R3 CK Og OD):=
 cond (decide (v3<v2)) (
  cond ((decide (0≤v3))&&(decide (v3<(v8.length:Int)))) (
   cond (decide ((Int.toNat v3)<v8.length)) (
    cond (decide ((rd aS v8 (Int.toNat v3)).1=v1)) (
     ((f123 v6 v7 (rd aS v8 (Int.toNat v3)).2)).bind fun y9=>
     some (R3.next ((v1,(),(),v2,(IntKind.wrap .i64 (v3+1)),()),((v4,v5,()),(y9.1.1,y9.1.2,()),()),v8,()))) (
     some (R3.next ((v1,(),(),v2,(IntKind.wrap .i64 (v3+1)),()),((v4,v5,()),(v6,v7,()),()),v8,())))) (
    none)) (
   none)) (
  some (R3.out (((),(),()),((v4,v5,()),(v6,v7,()),()),())))
noncomputable def pH (z:CK):Option (R3 CK Og OD):=CG z.1.1 z.1.2.2.2.1 z.1.2.2.2.2.1 z.2.1.1.1 z.2.1.1.2.1 z.2.1.2.1.1 z.2.1.2.1.2.1 z.2.2.1
noncomputable def f100 (v1 v2 v3 v4 v5 v6 v7 v8:Int)(v9:ed)(v10:bw)(v11:Int):Option (jV×Unit):=
 ((f50 v1 v2 v3 v4 v5 v6 v7 v8)).bind fun y12=>
 ((f121 y12.1)).bind fun y13=>
 ((iter aC uB ((v10,v11,(),(),v9,(v9.length:Int),0,()),((0,0,()),(y13.1.1,y13.1.2,()),()),[],()))).bind fun r=>match r with
 | .inl y14=>
   ((iter aC uj ((y14.1.2.1,(),(),y14.1.1,(y14.1.1.length:Int),0,()),((y14.2.1.1.1,y14.2.1.1.2.1,()),(y14.2.1.2.1.1,y14.2.1.2.1.2.1,()),()),y14.2.2.1,()))).bind fun r=>match r with
   | .inl y16=>
     ((iter aC pH ((y16.1.1,(),(),(y16.2.2.1.length:Int),0,()),((y16.2.1.1.1,y16.2.1.1.2.1,()),(y16.2.1.2.1.1,y16.2.1.2.1.2.1,()),()),y16.2.2.1,()))).bind fun r=>match r with
     | .inl y18=>
       some ((y18.2.1.2.1.1,y18.2.1.2.1.2.1),())
     | .inr z19=>
       none
   | .inr z17=>
     none
 | .inr z15=>
   none
noncomputable def f132 (v1 v2 v3 v4:Int):Option cF:=
 ((f149 v2 v4)).bind fun y5=>
 ((f149 v1 v3)).bind fun y6=>
 ((f148 [y5.1,y6.1])).bind fun y7=>
 some (y7.1,())
abbrev Lm:Type:=(Unit×Unit×Unit×au×Int×Int×Unit)×(uN×au×Lx×Unit)×(Unit)
abbrev UI:Type:=(Unit×Unit)×(uN×Unit)×(Unit)
abbrev SU:Type:=dr×(Unit)×(Unit)
noncomputable def KP (v1:au)(v2 v3 v4:Int)(v5 v6:au)(v7 v8:Int):Option (R3 Lm UI SU):=
 cond (decide (v3<v2)) (
  cond ((decide (0≤v3))&&(decide (v3<(v1.length:Int)))) (
   cond (decide ((rd aS v1 (Int.toNat v3)).2≤v4)) (
    some (R3.ret ((false,()),(),()))) (
    cond (decide (1073741824<(rd aS v1 (Int.toNat v3)).2)) (
     some (R3.ret ((false,()),(),()))) (
     cond (decide ((rd aS v1 (Int.toNat v3)).1<0)) (
      some (R3.ret ((false,()),(),()))) (
      cond (decide (1<(cH (iD v6 (rd aS v1 (Int.toNat v3)).1 (IntKind.wrap .i64 ((cH v6 (rd aS v1 (Int.toNat v3)).1)+1))) (rd aS v1 (Int.toNat v3)).1))) (
       some (R3.ret ((false,()),(),()))) (
       cond (decide (0<v3)) (
        ((f132 v7 v8 (rd aS v1 (Int.toNat v3)).1 (rd aS v1 (Int.toNat v3)).2)).bind fun y9=>
        cond (decide (0≤y9.1)) (
         some (R3.ret ((false,()),(),()))) (
         some (R3.next (((),(),(),v1,v2,(IntKind.wrap .i64 (v3+1)),()),((v4,v5,()),(iD v6 (rd aS v1 (Int.toNat v3)).1 (IntKind.wrap .i64 ((cH v6 (rd aS v1 (Int.toNat v3)).1)+1))),((rd aS v1 (Int.toNat v3)).1,(rd aS v1 (Int.toNat v3)).2,()),()),())))) (
        some (R3.next (((),(),(),v1,v2,(IntKind.wrap .i64 (v3+1)),()),((v4,v5,()),(iD v6 (rd aS v1 (Int.toNat v3)).1 (IntKind.wrap .i64 ((cH v6 (rd aS v1 (Int.toNat v3)).1)+1))),((rd aS v1 (Int.toNat v3)).1,(rd aS v1 (Int.toNat v3)).2,()),()),())))))))) (
   none)) (
  some (R3.out (((),()),((v4,v5,()),()),())))
noncomputable def uq (z:Lm):Option (R3 Lm UI SU):=KP z.1.2.2.2.1 z.1.2.2.2.2.1 z.1.2.2.2.2.2.1 z.2.1.1.1 z.2.1.1.2.1 z.2.1.2.1 z.2.1.2.2.1.1 z.2.1.2.2.1.2.1
noncomputable def f104 (v1:Int)(v2:au):Option dr:=
 ((iter aC uq (((),(),(),v2,(v2.length:Int),0,()),((v1,v2,()),[],(1073741824,v1,()),()),()))).bind fun r=>match r with
 | .inl y3=>
   cond (decide (0≤y3.2.1.1.1)) (
    cond (decide (y3.2.1.1.1≤1073741824)) (
     some ((decide ((y3.2.1.1.2.1.length:Int)≤64)),())) (
     some (false,()))) (
    some (false,()))
 | .inr z4=>
   some (z4.1.1,())
noncomputable def f67 (v1:Int):Option ((Int×au)×Bool×Unit):=
 ((f104 v1 [])).bind fun y2=>
 cond (!y2.1) (
  some ((0,[]),false,())) (
  some ((v1,[]),true,()))
noncomputable def f106 (v1:Int)(v2:au):Option ((Int×au)×Unit):=
 ((jI v2)).bind fun y3=>
 some ((v1,y3.1),())
noncomputable def f135 (v1:Int):Option cF:=
 some ((bG .and .i64 v1 7),())
noncomputable def f136 (v1 v2:Int):Option dr:=
 some (true,())
noncomputable def f40 (v1 v2 v3 v4 v5 v6 v7 v8 v9 v10 v11:Int)(v12:Bool)(v13:Int)(v14:bw)(v15:ed)(v16:bw):Option (WO×Unit):=
 ((ew v14)).bind fun y17=>
 ((cW v15)).bind fun y18=>
 ((dF v16)).bind fun y19=>
 some ((((v1,v2),(v3,v4),v5,v6,v7,v8),(v9,v10,v11,v12),v13,y17.1,y18.1,y19.1),())
abbrev oA:Type:=(au×Unit×Int×Int×Unit)×(uN×cF×xh×Unit)×au×Unit
abbrev we:Type:=(Unit)×(uN×cF×xh×Unit)×au×Unit
abbrev wQ:Type:=cF×(uN×cF×xh×Unit)×au×Unit
noncomputable def ov (v1:au)(v2 v3 v4:Int)(v5:au)(v6 v7:Int)(v8:au):Option (R3 oA we wQ):=
 cond (decide (v3<v2)) (
  cond ((decide (0≤v3))&&(decide (v3<(v1.length:Int)))) (
   cond (decide ((rd aS v1 (Int.toNat v3)).1=v6)) (
    some (R3.ret ((v3,()),((v4,v5,()),(v6,()),(v7,(),()),()),v8,()))) (
    some (R3.next ((v1,(),v2,(IntKind.wrap .i64 (v3+1)),()),((v4,v5,()),(v6,()),(v7,(),()),()),v8,())))) (
   none)) (
  some (R3.out ((),((v4,v5,()),(v6,()),(v7,(),()),()),v8,())))
noncomputable def fe (z:oA):Option (R3 oA we wQ):=ov z.1.1 z.1.2.2.1 z.1.2.2.2.1 z.2.1.1.1 z.2.1.1.2.1 z.2.1.2.1.1 z.2.1.2.2.1.1 z.2.2.1
abbrev nr:Type:=(Unit×au×Int×Int×Unit)×(uN×cF×xh×au×KX×Unit)×au×au×au×au×au×au×au×au×Unit
abbrev gQ:Type:=(Unit×Unit)×(uN×cF×xh×au×KX×Unit)×au×au×au×au×au×au×au×au×Unit
abbrev vL:Type:=Unit×(Unit×Unit×Unit×Unit×Unit)×Unit
noncomputable def oq (v1:au)(v2 v3 v4:Int)(v5:au)(v6 v7:Int)(v8:au)(v9:Int)(v10 v11 v12 v13 v14 v15 v16 v17:au):Option (R3 nr gQ vL):=
 cond (decide (v3<v2)) (
  cond ((decide (0≤v3))&&(decide (v3<(v1.length:Int)))) (
   ((f135 (rd aS v1 (Int.toNat v3)).2)).bind fun y18=>
   cond (decide (y18.1=0)) (
    cond ((decide (((v10.length+1) * 16)≤140737488355328))&&(decide ((v10.length+1)≤9223372036854775807))) (
     some (R3.next (((),v1,v2,(IntKind.wrap .i64 (v3+1)),()),((v4,v5,()),(v6,()),(v7,(),()),v8,(v9,(),(),(),(),(),(),(),(),()),()),(v10++[((rd aS v1 (Int.toNat v3)).1,(rd aS v1 (Int.toNat v3)).2)]),v11,v12,v13,v14,v15,v16,v17,()))) (
     none)) (
    cond (decide (y18.1=1)) (
     cond ((decide (((v11.length+1) * 16)≤140737488355328))&&(decide ((v11.length+1)≤9223372036854775807))) (
      some (R3.next (((),v1,v2,(IntKind.wrap .i64 (v3+1)),()),((v4,v5,()),(v6,()),(v7,(),()),v8,(v9,(),(),(),(),(),(),(),(),()),()),v10,(v11++[((rd aS v1 (Int.toNat v3)).1,(rd aS v1 (Int.toNat v3)).2)]),v12,v13,v14,v15,v16,v17,()))) (
      none)) (
     cond (decide (y18.1=2)) (
      cond ((decide (((v12.length+1) * 16)≤140737488355328))&&(decide ((v12.length+1)≤9223372036854775807))) (
       some (R3.next (((),v1,v2,(IntKind.wrap .i64 (v3+1)),()),((v4,v5,()),(v6,()),(v7,(),()),v8,(v9,(),(),(),(),(),(),(),(),()),()),v10,v11,(v12++[((rd aS v1 (Int.toNat v3)).1,(rd aS v1 (Int.toNat v3)).2)]),v13,v14,v15,v16,v17,()))) (
       none)) (
      cond (decide (y18.1=3)) (
       cond ((decide (((v13.length+1) * 16)≤140737488355328))&&(decide ((v13.length+1)≤9223372036854775807))) (
        some (R3.next (((),v1,v2,(IntKind.wrap .i64 (v3+1)),()),((v4,v5,()),(v6,()),(v7,(),()),v8,(v9,(),(),(),(),(),(),(),(),()),()),v10,v11,v12,(v13++[((rd aS v1 (Int.toNat v3)).1,(rd aS v1 (Int.toNat v3)).2)]),v14,v15,v16,v17,()))) (
        none)) (
       cond (decide (y18.1=4)) (
        cond ((decide (((v14.length+1) * 16)≤140737488355328))&&(decide ((v14.length+1)≤9223372036854775807))) (
         some (R3.next (((),v1,v2,(IntKind.wrap .i64 (v3+1)),()),((v4,v5,()),(v6,()),(v7,(),()),v8,(v9,(),(),(),(),(),(),(),(),()),()),v10,v11,v12,v13,(v14++[((rd aS v1 (Int.toNat v3)).1,(rd aS v1 (Int.toNat v3)).2)]),v15,v16,v17,()))) (
         none)) (
        cond (decide (y18.1=5)) (
         cond ((decide (((v15.length+1) * 16)≤140737488355328))&&(decide ((v15.length+1)≤9223372036854775807))) (
          some (R3.next (((),v1,v2,(IntKind.wrap .i64 (v3+1)),()),((v4,v5,()),(v6,()),(v7,(),()),v8,(v9,(),(),(),(),(),(),(),(),()),()),v10,v11,v12,v13,v14,(v15++[((rd aS v1 (Int.toNat v3)).1,(rd aS v1 (Int.toNat v3)).2)]),v16,v17,()))) (
          none)) (
         cond (decide (y18.1=6)) (
          cond ((decide (((v16.length+1) * 16)≤140737488355328))&&(decide ((v16.length+1)≤9223372036854775807))) (
           some (R3.next (((),v1,v2,(IntKind.wrap .i64 (v3+1)),()),((v4,v5,()),(v6,()),(v7,(),()),v8,(v9,(),(),(),(),(),(),(),(),()),()),v10,v11,v12,v13,v14,v15,(v16++[((rd aS v1 (Int.toNat v3)).1,(rd aS v1 (Int.toNat v3)).2)]),v17,()))) (
           none)) (
          cond (decide (y18.1=7)) (
           cond ((decide (((v17.length+1) * 16)≤140737488355328))&&(decide ((v17.length+1)≤9223372036854775807))) (
            some (R3.next (((),v1,v2,(IntKind.wrap .i64 (v3+1)),()),((v4,v5,()),(v6,()),(v7,(),()),v8,(v9,(),(),(),(),(),(),(),(),()),()),v10,v11,v12,v13,v14,v15,v16,(v17++[((rd aS v1 (Int.toNat v3)).1,(rd aS v1 (Int.toNat v3)).2)]),()))) (
            none)) (
           none))))))))) (
   none)) (
  some (R3.out (((),()),((v4,v5,()),(v6,()),(v7,(),()),v8,(v9,(),(),(),(),(),(),(),(),()),()),v10,v11,v12,v13,v14,v15,v16,v17,())))
noncomputable def eU (z:nr):Option (R3 nr gQ vL):=oq z.1.2.1 z.1.2.2.1 z.1.2.2.2.1 z.2.1.1.1 z.2.1.1.2.1 z.2.1.2.1.1 z.2.1.2.2.1.1 z.2.1.2.2.2.1 z.2.1.2.2.2.2.1.1 z.2.2.1 z.2.2.2.1 z.2.2.2.2.1 z.2.2.2.2.2.1 z.2.2.2.2.2.2.1 z.2.2.2.2.2.2.2.1 z.2.2.2.2.2.2.2.2.1 z.2.2.2.2.2.2.2.2.2.1
abbrev nW:Type:=xD×Kp×au×au×au×Unit
abbrev vh:Type:=iK×Kp×au×au×au×Unit
abbrev wi:Type:=Unit×F9×Unit
noncomputable def oP (v1 v2 v3:Int)(v4:au)(v5 v6:Int)(v7:au)(v8:Int)(v9 v10 v11 v12 v13 v14 v15 v16:au)(v17 v18:Int)(v19:au)(v20:Int)(v21 v22 v23:au):Option (R3 nW vh wi):=
 cond (decide (v2<v1)) (
  cond ((decide (0≤v2))&&(decide (v2<(v9.length:Int)))) (
   cond (decide ((Int.toNat v2)<v9.length)) (
    ((f136 (rd aS v9 (Int.toNat v2)).1 (rd aS v9 (Int.toNat v2)).2)).bind fun y24=>
    cond y24.1 (
     cond ((decide (((v21.length+1) * 16)≤140737488355328))&&(decide ((v21.length+1)≤9223372036854775807))) (
      some (R3.next (((),(),(),(),(),(),v1,(IntKind.wrap .i64 (v2+1)),()),((v3,v4,()),(v5,()),(v6,(),()),v7,(v8,(),(),(),(),(),(),(),(),()),v9,v10,v11,v12,v13,v14,v15,v16,(v17,v18,()),v19,(v20,(),()),()),(v21++[((rd aS v9 (Int.toNat v2)).1,(rd aS v9 (Int.toNat v2)).2)]),v22,v23,()))) (
      none)) (
     cond ((decide (((v22.length+1) * 16)≤140737488355328))&&(decide ((v22.length+1)≤9223372036854775807))) (
      some (R3.next (((),(),(),(),(),(),v1,(IntKind.wrap .i64 (v2+1)),()),((v3,v4,()),(v5,()),(v6,(),()),v7,(v8,(),(),(),(),(),(),(),(),()),v9,v10,v11,v12,v13,v14,v15,v16,(v17,v18,()),v19,(v20,(),()),()),v21,(v22++[((rd aS v9 (Int.toNat v2)).1,(rd aS v9 (Int.toNat v2)).2)]),v23,()))) (
      none))) (
    none)) (
   none)) (
  some (R3.out (((),(),(),(),(),()),((v3,v4,()),(v5,()),(v6,(),()),v7,(v8,(),(),(),(),(),(),(),(),()),v9,v10,v11,v12,v13,v14,v15,v16,(v17,v18,()),v19,(v20,(),()),()),v21,v22,v23,())))
noncomputable def e8 (z:nW):Option (R3 nW vh wi):=oP z.1.2.2.2.2.2.2.1 z.1.2.2.2.2.2.2.2.1 z.2.1.1.1 z.2.1.1.2.1 z.2.1.2.1.1 z.2.1.2.2.1.1 z.2.1.2.2.2.1 z.2.1.2.2.2.2.1.1 z.2.1.2.2.2.2.2.1 z.2.1.2.2.2.2.2.2.1 z.2.1.2.2.2.2.2.2.2.1 z.2.1.2.2.2.2.2.2.2.2.1 z.2.1.2.2.2.2.2.2.2.2.2.1 z.2.1.2.2.2.2.2.2.2.2.2.2.1 z.2.1.2.2.2.2.2.2.2.2.2.2.2.1 z.2.1.2.2.2.2.2.2.2.2.2.2.2.2.1 z.2.1.2.2.2.2.2.2.2.2.2.2.2.2.2.1.1 z.2.1.2.2.2.2.2.2.2.2.2.2.2.2.2.1.2.1 z.2.1.2.2.2.2.2.2.2.2.2.2.2.2.2.2.1 z.2.1.2.2.2.2.2.2.2.2.2.2.2.2.2.2.2.1.1 z.2.2.1 z.2.2.2.1 z.2.2.2.2.1
abbrev nQ:Type:=xD×Kp×au×au×au×au×Unit
abbrev vQ:Type:=iK×Kp×au×au×au×au×Unit
abbrev wH:Type:=Unit×F9×Unit
noncomputable def oT (v1 v2 v3:Int)(v4:au)(v5 v6:Int)(v7:au)(v8:Int)(v9 v10 v11 v12 v13 v14 v15 v16:au)(v17 v18:Int)(v19:au)(v20:Int)(v21 v22 v23 v24:au):Option (R3 nQ vQ wH):=
 cond (decide (v2<v1)) (
  cond ((decide (0≤v2))&&(decide (v2<(v10.length:Int)))) (
   cond (decide ((Int.toNat v2)<v10.length)) (
    ((f136 (rd aS v10 (Int.toNat v2)).1 (rd aS v10 (Int.toNat v2)).2)).bind fun y25=>
    cond y25.1 (
     cond ((decide (((v21.length+1) * 16)≤140737488355328))&&(decide ((v21.length+1)≤9223372036854775807))) (
      some (R3.next (((),(),(),(),(),(),v1,(IntKind.wrap .i64 (v2+1)),()),((v3,v4,()),(v5,()),(v6,(),()),v7,(v8,(),(),(),(),(),(),(),(),()),v9,v10,v11,v12,v13,v14,v15,v16,(v17,v18,()),v19,(v20,(),()),()),(v21++[((rd aS v10 (Int.toNat v2)).1,(rd aS v10 (Int.toNat v2)).2)]),v22,v23,v24,()))) (
      none)) (
     cond ((decide (((v22.length+1) * 16)≤140737488355328))&&(decide ((v22.length+1)≤9223372036854775807))) (
      some (R3.next (((),(),(),(),(),(),v1,(IntKind.wrap .i64 (v2+1)),()),((v3,v4,()),(v5,()),(v6,(),()),v7,(v8,(),(),(),(),(),(),(),(),()),v9,v10,v11,v12,v13,v14,v15,v16,(v17,v18,()),v19,(v20,(),()),()),v21,(v22++[((rd aS v10 (Int.toNat v2)).1,(rd aS v10 (Int.toNat v2)).2)]),v23,v24,()))) (
      none))) (
    none)) (
   none)) (
  some (R3.out (((),(),(),(),(),()),((v3,v4,()),(v5,()),(v6,(),()),v7,(v8,(),(),(),(),(),(),(),(),()),v9,v10,v11,v12,v13,v14,v15,v16,(v17,v18,()),v19,(v20,(),()),()),v21,v22,v23,v24,())))
noncomputable def fz (z:nQ):Option (R3 nQ vQ wH):=oT z.1.2.2.2.2.2.2.1 z.1.2.2.2.2.2.2.2.1 z.2.1.1.1 z.2.1.1.2.1 z.2.1.2.1.1 z.2.1.2.2.1.1 z.2.1.2.2.2.1 z.2.1.2.2.2.2.1.1 z.2.1.2.2.2.2.2.1 z.2.1.2.2.2.2.2.2.1 z.2.1.2.2.2.2.2.2.2.1 z.2.1.2.2.2.2.2.2.2.2.1 z.2.1.2.2.2.2.2.2.2.2.2.1 z.2.1.2.2.2.2.2.2.2.2.2.2.1 z.2.1.2.2.2.2.2.2.2.2.2.2.2.1 z.2.1.2.2.2.2.2.2.2.2.2.2.2.2.1 z.2.1.2.2.2.2.2.2.2.2.2.2.2.2.2.1.1 z.2.1.2.2.2.2.2.2.2.2.2.2.2.2.2.1.2.1 z.2.1.2.2.2.2.2.2.2.2.2.2.2.2.2.2.1 z.2.1.2.2.2.2.2.2.2.2.2.2.2.2.2.2.2.1.1 z.2.2.1 z.2.2.2.1 z.2.2.2.2.1 z.2.2.2.2.2.1
abbrev mO:Type:=xD×Kp×au×au×au×au×au×Unit
abbrev vK:Type:=iK×Kp×au×au×au×au×au×Unit
abbrev wG:Type:=Unit×F9×Unit
noncomputable def nS (v1 v2 v3:Int)(v4:au)(v5 v6:Int)(v7:au)(v8:Int)(v9 v10 v11 v12 v13 v14 v15 v16:au)(v17 v18:Int)(v19:au)(v20:Int)(v21 v22 v23 v24 v25:au):Option (R3 mO vK wG):=
 cond (decide (v2<v1)) (
  cond ((decide (0≤v2))&&(decide (v2<(v11.length:Int)))) (
   cond (decide ((Int.toNat v2)<v11.length)) (
    ((f136 (rd aS v11 (Int.toNat v2)).1 (rd aS v11 (Int.toNat v2)).2)).bind fun y26=>
    cond y26.1 (
     cond ((decide (((v21.length+1) * 16)≤140737488355328))&&(decide ((v21.length+1)≤9223372036854775807))) (
      some (R3.next (((),(),(),(),(),(),v1,(IntKind.wrap .i64 (v2+1)),()),((v3,v4,()),(v5,()),(v6,(),()),v7,(v8,(),(),(),(),(),(),(),(),()),v9,v10,v11,v12,v13,v14,v15,v16,(v17,v18,()),v19,(v20,(),()),()),(v21++[((rd aS v11 (Int.toNat v2)).1,(rd aS v11 (Int.toNat v2)).2)]),v22,v23,v24,v25,()))) (
      none)) (
     cond ((decide (((v22.length+1) * 16)≤140737488355328))&&(decide ((v22.length+1)≤9223372036854775807))) (
      some (R3.next (((),(),(),(),(),(),v1,(IntKind.wrap .i64 (v2+1)),()),((v3,v4,()),(v5,()),(v6,(),()),v7,(v8,(),(),(),(),(),(),(),(),()),v9,v10,v11,v12,v13,v14,v15,v16,(v17,v18,()),v19,(v20,(),()),()),v21,(v22++[((rd aS v11 (Int.toNat v2)).1,(rd aS v11 (Int.toNat v2)).2)]),v23,v24,v25,()))) (
      none))) (
    none)) (
   none)) (
  some (R3.out (((),(),(),(),(),()),((v3,v4,()),(v5,()),(v6,(),()),v7,(v8,(),(),(),(),(),(),(),(),()),v9,v10,v11,v12,v13,v14,v15,v16,(v17,v18,()),v19,(v20,(),()),()),v21,v22,v23,v24,v25,())))
noncomputable def e9 (z:mO):Option (R3 mO vK wG):=nS z.1.2.2.2.2.2.2.1 z.1.2.2.2.2.2.2.2.1 z.2.1.1.1 z.2.1.1.2.1 z.2.1.2.1.1 z.2.1.2.2.1.1 z.2.1.2.2.2.1 z.2.1.2.2.2.2.1.1 z.2.1.2.2.2.2.2.1 z.2.1.2.2.2.2.2.2.1 z.2.1.2.2.2.2.2.2.2.1 z.2.1.2.2.2.2.2.2.2.2.1 z.2.1.2.2.2.2.2.2.2.2.2.1 z.2.1.2.2.2.2.2.2.2.2.2.2.1 z.2.1.2.2.2.2.2.2.2.2.2.2.2.1 z.2.1.2.2.2.2.2.2.2.2.2.2.2.2.1 z.2.1.2.2.2.2.2.2.2.2.2.2.2.2.2.1.1 z.2.1.2.2.2.2.2.2.2.2.2.2.2.2.2.1.2.1 z.2.1.2.2.2.2.2.2.2.2.2.2.2.2.2.2.1 z.2.1.2.2.2.2.2.2.2.2.2.2.2.2.2.2.2.1.1 z.2.2.1 z.2.2.2.1 z.2.2.2.2.1 z.2.2.2.2.2.1 z.2.2.2.2.2.2.1
abbrev nu:Type:=xD×Kp×au×au×au×au×au×au×Unit
abbrev vI:Type:=iK×Kp×au×au×au×au×au×au×Unit
abbrev vJ:Type:=Unit×F9×Unit
noncomputable def pu (v1 v2 v3:Int)(v4:au)(v5 v6:Int)(v7:au)(v8:Int)(v9 v10 v11 v12 v13 v14 v15 v16:au)(v17 v18:Int)(v19:au)(v20:Int)(v21 v22 v23 v24 v25 v26:au):Option (R3 nu vI vJ):=
 cond (decide (v2<v1)) (
  cond ((decide (0≤v2))&&(decide (v2<(v12.length:Int)))) (
   cond (decide ((Int.toNat v2)<v12.length)) (
    ((f136 (rd aS v12 (Int.toNat v2)).1 (rd aS v12 (Int.toNat v2)).2)).bind fun y27=>
    cond y27.1 (
     cond ((decide (((v21.length+1) * 16)≤140737488355328))&&(decide ((v21.length+1)≤9223372036854775807))) (
      some (R3.next (((),(),(),(),(),(),v1,(IntKind.wrap .i64 (v2+1)),()),((v3,v4,()),(v5,()),(v6,(),()),v7,(v8,(),(),(),(),(),(),(),(),()),v9,v10,v11,v12,v13,v14,v15,v16,(v17,v18,()),v19,(v20,(),()),()),(v21++[((rd aS v12 (Int.toNat v2)).1,(rd aS v12 (Int.toNat v2)).2)]),v22,v23,v24,v25,v26,()))) (
      none)) (
     cond ((decide (((v22.length+1) * 16)≤140737488355328))&&(decide ((v22.length+1)≤9223372036854775807))) (
      some (R3.next (((),(),(),(),(),(),v1,(IntKind.wrap .i64 (v2+1)),()),((v3,v4,()),(v5,()),(v6,(),()),v7,(v8,(),(),(),(),(),(),(),(),()),v9,v10,v11,v12,v13,v14,v15,v16,(v17,v18,()),v19,(v20,(),()),()),v21,(v22++[((rd aS v12 (Int.toNat v2)).1,(rd aS v12 (Int.toNat v2)).2)]),v23,v24,v25,v26,()))) (
      none))) (
    none)) (
   none)) (
  some (R3.out (((),(),(),(),(),()),((v3,v4,()),(v5,()),(v6,(),()),v7,(v8,(),(),(),(),(),(),(),(),()),v9,v10,v11,v12,v13,v14,v15,v16,(v17,v18,()),v19,(v20,(),()),()),v21,v22,v23,v24,v25,v26,())))
noncomputable def eW (z:nu):Option (R3 nu vI vJ):=pu z.1.2.2.2.2.2.2.1 z.1.2.2.2.2.2.2.2.1 z.2.1.1.1 z.2.1.1.2.1 z.2.1.2.1.1 z.2.1.2.2.1.1 z.2.1.2.2.2.1 z.2.1.2.2.2.2.1.1 z.2.1.2.2.2.2.2.1 z.2.1.2.2.2.2.2.2.1 z.2.1.2.2.2.2.2.2.2.1 z.2.1.2.2.2.2.2.2.2.2.1 z.2.1.2.2.2.2.2.2.2.2.2.1 z.2.1.2.2.2.2.2.2.2.2.2.2.1 z.2.1.2.2.2.2.2.2.2.2.2.2.2.1 z.2.1.2.2.2.2.2.2.2.2.2.2.2.2.1 z.2.1.2.2.2.2.2.2.2.2.2.2.2.2.2.1.1 z.2.1.2.2.2.2.2.2.2.2.2.2.2.2.2.1.2.1 z.2.1.2.2.2.2.2.2.2.2.2.2.2.2.2.2.1 z.2.1.2.2.2.2.2.2.2.2.2.2.2.2.2.2.2.1.1 z.2.2.1 z.2.2.2.1 z.2.2.2.2.1 z.2.2.2.2.2.1 z.2.2.2.2.2.2.1 z.2.2.2.2.2.2.2.1
abbrev py:Type:=xD×Kp×au×au×au×au×au×au×au×Unit
abbrev vk:Type:=iK×Kp×au×au×au×au×au×au×au×Unit
abbrev w6:Type:=Unit×F9×Unit
noncomputable def o7 (v1 v2 v3:Int)(v4:au)(v5 v6:Int)(v7:au)(v8:Int)(v9 v10 v11 v12 v13 v14 v15 v16:au)(v17 v18:Int)(v19:au)(v20:Int)(v21 v22 v23 v24 v25 v26 v27:au):Option (R3 py vk w6):=
 cond (decide (v2<v1)) (
  cond ((decide (0≤v2))&&(decide (v2<(v13.length:Int)))) (
   cond (decide ((Int.toNat v2)<v13.length)) (
    ((f136 (rd aS v13 (Int.toNat v2)).1 (rd aS v13 (Int.toNat v2)).2)).bind fun y28=>
    cond y28.1 (
     cond ((decide (((v21.length+1) * 16)≤140737488355328))&&(decide ((v21.length+1)≤9223372036854775807))) (
      some (R3.next (((),(),(),(),(),(),v1,(IntKind.wrap .i64 (v2+1)),()),((v3,v4,()),(v5,()),(v6,(),()),v7,(v8,(),(),(),(),(),(),(),(),()),v9,v10,v11,v12,v13,v14,v15,v16,(v17,v18,()),v19,(v20,(),()),()),(v21++[((rd aS v13 (Int.toNat v2)).1,(rd aS v13 (Int.toNat v2)).2)]),v22,v23,v24,v25,v26,v27,()))) (
      none)) (
     cond ((decide (((v22.length+1) * 16)≤140737488355328))&&(decide ((v22.length+1)≤9223372036854775807))) (
      some (R3.next (((),(),(),(),(),(),v1,(IntKind.wrap .i64 (v2+1)),()),((v3,v4,()),(v5,()),(v6,(),()),v7,(v8,(),(),(),(),(),(),(),(),()),v9,v10,v11,v12,v13,v14,v15,v16,(v17,v18,()),v19,(v20,(),()),()),v21,(v22++[((rd aS v13 (Int.toNat v2)).1,(rd aS v13 (Int.toNat v2)).2)]),v23,v24,v25,v26,v27,()))) (
      none))) (
    none)) (
   none)) (
  some (R3.out (((),(),(),(),(),()),((v3,v4,()),(v5,()),(v6,(),()),v7,(v8,(),(),(),(),(),(),(),(),()),v9,v10,v11,v12,v13,v14,v15,v16,(v17,v18,()),v19,(v20,(),()),()),v21,v22,v23,v24,v25,v26,v27,())))
noncomputable def eY (z:py):Option (R3 py vk w6):=o7 z.1.2.2.2.2.2.2.1 z.1.2.2.2.2.2.2.2.1 z.2.1.1.1 z.2.1.1.2.1 z.2.1.2.1.1 z.2.1.2.2.1.1 z.2.1.2.2.2.1 z.2.1.2.2.2.2.1.1 z.2.1.2.2.2.2.2.1 z.2.1.2.2.2.2.2.2.1 z.2.1.2.2.2.2.2.2.2.1 z.2.1.2.2.2.2.2.2.2.2.1 z.2.1.2.2.2.2.2.2.2.2.2.1 z.2.1.2.2.2.2.2.2.2.2.2.2.1 z.2.1.2.2.2.2.2.2.2.2.2.2.2.1 z.2.1.2.2.2.2.2.2.2.2.2.2.2.2.1 z.2.1.2.2.2.2.2.2.2.2.2.2.2.2.2.1.1 z.2.1.2.2.2.2.2.2.2.2.2.2.2.2.2.1.2.1 z.2.1.2.2.2.2.2.2.2.2.2.2.2.2.2.2.1 z.2.1.2.2.2.2.2.2.2.2.2.2.2.2.2.2.2.1.1 z.2.2.1 z.2.2.2.1 z.2.2.2.2.1 z.2.2.2.2.2.1 z.2.2.2.2.2.2.1 z.2.2.2.2.2.2.2.1 z.2.2.2.2.2.2.2.2.1
abbrev mW:Type:=xD×Kp×au×au×au×au×au×au×au×au×Unit
abbrev vD:Type:=iK×Kp×au×au×au×au×au×au×au×au×Unit
abbrev vN:Type:=Unit×F9×Unit
noncomputable def nM (v1 v2 v3:Int)(v4:au)(v5 v6:Int)(v7:au)(v8:Int)(v9 v10 v11 v12 v13 v14 v15 v16:au)(v17 v18:Int)(v19:au)(v20:Int)(v21 v22 v23 v24 v25 v26 v27 v28:au):Option (R3 mW vD vN):=
 cond (decide (v2<v1)) (
  cond ((decide (0≤v2))&&(decide (v2<(v14.length:Int)))) (
   cond (decide ((Int.toNat v2)<v14.length)) (
    ((f136 (rd aS v14 (Int.toNat v2)).1 (rd aS v14 (Int.toNat v2)).2)).bind fun y29=>
    cond y29.1 (
     cond ((decide (((v21.length+1) * 16)≤140737488355328))&&(decide ((v21.length+1)≤9223372036854775807))) (
      some (R3.next (((),(),(),(),(),(),v1,(IntKind.wrap .i64 (v2+1)),()),((v3,v4,()),(v5,()),(v6,(),()),v7,(v8,(),(),(),(),(),(),(),(),()),v9,v10,v11,v12,v13,v14,v15,v16,(v17,v18,()),v19,(v20,(),()),()),(v21++[((rd aS v14 (Int.toNat v2)).1,(rd aS v14 (Int.toNat v2)).2)]),v22,v23,v24,v25,v26,v27,v28,()))) (
      none)) (
     cond ((decide (((v22.length+1) * 16)≤140737488355328))&&(decide ((v22.length+1)≤9223372036854775807))) (
      some (R3.next (((),(),(),(),(),(),v1,(IntKind.wrap .i64 (v2+1)),()),((v3,v4,()),(v5,()),(v6,(),()),v7,(v8,(),(),(),(),(),(),(),(),()),v9,v10,v11,v12,v13,v14,v15,v16,(v17,v18,()),v19,(v20,(),()),()),v21,(v22++[((rd aS v14 (Int.toNat v2)).1,(rd aS v14 (Int.toNat v2)).2)]),v23,v24,v25,v26,v27,v28,()))) (
      none))) (
    none)) (
   none)) (
  some (R3.out (((),(),(),(),(),()),((v3,v4,()),(v5,()),(v6,(),()),v7,(v8,(),(),(),(),(),(),(),(),()),v9,v10,v11,v12,v13,v14,v15,v16,(v17,v18,()),v19,(v20,(),()),()),v21,v22,v23,v24,v25,v26,v27,v28,())))
noncomputable def fu (z:mW):Option (R3 mW vD vN):=nM z.1.2.2.2.2.2.2.1 z.1.2.2.2.2.2.2.2.1 z.2.1.1.1 z.2.1.1.2.1 z.2.1.2.1.1 z.2.1.2.2.1.1 z.2.1.2.2.2.1 z.2.1.2.2.2.2.1.1 z.2.1.2.2.2.2.2.1 z.2.1.2.2.2.2.2.2.1 z.2.1.2.2.2.2.2.2.2.1 z.2.1.2.2.2.2.2.2.2.2.1 z.2.1.2.2.2.2.2.2.2.2.2.1 z.2.1.2.2.2.2.2.2.2.2.2.2.1 z.2.1.2.2.2.2.2.2.2.2.2.2.2.1 z.2.1.2.2.2.2.2.2.2.2.2.2.2.2.1 z.2.1.2.2.2.2.2.2.2.2.2.2.2.2.2.1.1 z.2.1.2.2.2.2.2.2.2.2.2.2.2.2.2.1.2.1 z.2.1.2.2.2.2.2.2.2.2.2.2.2.2.2.2.1 z.2.1.2.2.2.2.2.2.2.2.2.2.2.2.2.2.2.1.1 z.2.2.1 z.2.2.2.1 z.2.2.2.2.1 z.2.2.2.2.2.1 z.2.2.2.2.2.2.1 z.2.2.2.2.2.2.2.1 z.2.2.2.2.2.2.2.2.1 z.2.2.2.2.2.2.2.2.2.1
abbrev pn:Type:=xD×Kp×au×au×au×au×au×au×au×au×au×Unit
abbrev vF:Type:=iK×Kp×au×au×au×au×au×au×au×au×au×Unit
abbrev wY:Type:=Unit×F9×Unit
noncomputable def oo (v1 v2 v3:Int)(v4:au)(v5 v6:Int)(v7:au)(v8:Int)(v9 v10 v11 v12 v13 v14 v15 v16:au)(v17 v18:Int)(v19:au)(v20:Int)(v21 v22 v23 v24 v25 v26 v27 v28 v29:au):Option (R3 pn vF wY):=
 cond (decide (v2<v1)) (
  cond ((decide (0≤v2))&&(decide (v2<(v15.length:Int)))) (
   cond (decide ((Int.toNat v2)<v15.length)) (
    ((f136 (rd aS v15 (Int.toNat v2)).1 (rd aS v15 (Int.toNat v2)).2)).bind fun y30=>
    cond y30.1 (
     cond ((decide (((v21.length+1) * 16)≤140737488355328))&&(decide ((v21.length+1)≤9223372036854775807))) (
      some (R3.next (((),(),(),(),(),(),v1,(IntKind.wrap .i64 (v2+1)),()),((v3,v4,()),(v5,()),(v6,(),()),v7,(v8,(),(),(),(),(),(),(),(),()),v9,v10,v11,v12,v13,v14,v15,v16,(v17,v18,()),v19,(v20,(),()),()),(v21++[((rd aS v15 (Int.toNat v2)).1,(rd aS v15 (Int.toNat v2)).2)]),v22,v23,v24,v25,v26,v27,v28,v29,()))) (
      none)) (
     cond ((decide (((v22.length+1) * 16)≤140737488355328))&&(decide ((v22.length+1)≤9223372036854775807))) (
      some (R3.next (((),(),(),(),(),(),v1,(IntKind.wrap .i64 (v2+1)),()),((v3,v4,()),(v5,()),(v6,(),()),v7,(v8,(),(),(),(),(),(),(),(),()),v9,v10,v11,v12,v13,v14,v15,v16,(v17,v18,()),v19,(v20,(),()),()),v21,(v22++[((rd aS v15 (Int.toNat v2)).1,(rd aS v15 (Int.toNat v2)).2)]),v23,v24,v25,v26,v27,v28,v29,()))) (
      none))) (
    none)) (
   none)) (
  some (R3.out (((),(),(),(),(),()),((v3,v4,()),(v5,()),(v6,(),()),v7,(v8,(),(),(),(),(),(),(),(),()),v9,v10,v11,v12,v13,v14,v15,v16,(v17,v18,()),v19,(v20,(),()),()),v21,v22,v23,v24,v25,v26,v27,v28,v29,())))
noncomputable def fk (z:pn):Option (R3 pn vF wY):=oo z.1.2.2.2.2.2.2.1 z.1.2.2.2.2.2.2.2.1 z.2.1.1.1 z.2.1.1.2.1 z.2.1.2.1.1 z.2.1.2.2.1.1 z.2.1.2.2.2.1 z.2.1.2.2.2.2.1.1 z.2.1.2.2.2.2.2.1 z.2.1.2.2.2.2.2.2.1 z.2.1.2.2.2.2.2.2.2.1 z.2.1.2.2.2.2.2.2.2.2.1 z.2.1.2.2.2.2.2.2.2.2.2.1 z.2.1.2.2.2.2.2.2.2.2.2.2.1 z.2.1.2.2.2.2.2.2.2.2.2.2.2.1 z.2.1.2.2.2.2.2.2.2.2.2.2.2.2.1 z.2.1.2.2.2.2.2.2.2.2.2.2.2.2.2.1.1 z.2.1.2.2.2.2.2.2.2.2.2.2.2.2.2.1.2.1 z.2.1.2.2.2.2.2.2.2.2.2.2.2.2.2.2.1 z.2.1.2.2.2.2.2.2.2.2.2.2.2.2.2.2.2.1.1 z.2.2.1 z.2.2.2.1 z.2.2.2.2.1 z.2.2.2.2.2.1 z.2.2.2.2.2.2.1 z.2.2.2.2.2.2.2.1 z.2.2.2.2.2.2.2.2.1 z.2.2.2.2.2.2.2.2.2.1 z.2.2.2.2.2.2.2.2.2.2.1
abbrev oF:Type:=xD×Kp×au×au×au×au×au×au×au×au×au×au×Unit
abbrev vY:Type:=iK×Kp×au×au×au×au×au×au×au×au×au×au×Unit
abbrev vn:Type:=Unit×F9×Unit
noncomputable def ng (v1 v2 v3:Int)(v4:au)(v5 v6:Int)(v7:au)(v8:Int)(v9 v10 v11 v12 v13 v14 v15 v16:au)(v17 v18:Int)(v19:au)(v20:Int)(v21 v22 v23 v24 v25 v26 v27 v28 v29 v30:au):Option (R3 oF vY vn):=
 cond (decide (v2<v1)) (
  cond ((decide (0≤v2))&&(decide (v2<(v16.length:Int)))) (
   cond (decide ((Int.toNat v2)<v16.length)) (
    ((f136 (rd aS v16 (Int.toNat v2)).1 (rd aS v16 (Int.toNat v2)).2)).bind fun y31=>
    cond y31.1 (
     cond ((decide (((v21.length+1) * 16)≤140737488355328))&&(decide ((v21.length+1)≤9223372036854775807))) (
      some (R3.next (((),(),(),(),(),(),v1,(IntKind.wrap .i64 (v2+1)),()),((v3,v4,()),(v5,()),(v6,(),()),v7,(v8,(),(),(),(),(),(),(),(),()),v9,v10,v11,v12,v13,v14,v15,v16,(v17,v18,()),v19,(v20,(),()),()),(v21++[((rd aS v16 (Int.toNat v2)).1,(rd aS v16 (Int.toNat v2)).2)]),v22,v23,v24,v25,v26,v27,v28,v29,v30,()))) (
      none)) (
     cond ((decide (((v22.length+1) * 16)≤140737488355328))&&(decide ((v22.length+1)≤9223372036854775807))) (
      some (R3.next (((),(),(),(),(),(),v1,(IntKind.wrap .i64 (v2+1)),()),((v3,v4,()),(v5,()),(v6,(),()),v7,(v8,(),(),(),(),(),(),(),(),()),v9,v10,v11,v12,v13,v14,v15,v16,(v17,v18,()),v19,(v20,(),()),()),v21,(v22++[((rd aS v16 (Int.toNat v2)).1,(rd aS v16 (Int.toNat v2)).2)]),v23,v24,v25,v26,v27,v28,v29,v30,()))) (
      none))) (
    none)) (
   none)) (
  some (R3.out (((),(),(),(),(),()),((v3,v4,()),(v5,()),(v6,(),()),v7,(v8,(),(),(),(),(),(),(),(),()),v9,v10,v11,v12,v13,v14,v15,v16,(v17,v18,()),v19,(v20,(),()),()),v21,v22,v23,v24,v25,v26,v27,v28,v29,v30,())))
noncomputable def fh (z:oF):Option (R3 oF vY vn):=ng z.1.2.2.2.2.2.2.1 z.1.2.2.2.2.2.2.2.1 z.2.1.1.1 z.2.1.1.2.1 z.2.1.2.1.1 z.2.1.2.2.1.1 z.2.1.2.2.2.1 z.2.1.2.2.2.2.1.1 z.2.1.2.2.2.2.2.1 z.2.1.2.2.2.2.2.2.1 z.2.1.2.2.2.2.2.2.2.1 z.2.1.2.2.2.2.2.2.2.2.1 z.2.1.2.2.2.2.2.2.2.2.2.1 z.2.1.2.2.2.2.2.2.2.2.2.2.1 z.2.1.2.2.2.2.2.2.2.2.2.2.2.1 z.2.1.2.2.2.2.2.2.2.2.2.2.2.2.1 z.2.1.2.2.2.2.2.2.2.2.2.2.2.2.2.1.1 z.2.1.2.2.2.2.2.2.2.2.2.2.2.2.2.1.2.1 z.2.1.2.2.2.2.2.2.2.2.2.2.2.2.2.2.1 z.2.1.2.2.2.2.2.2.2.2.2.2.2.2.2.2.2.1.1 z.2.2.1 z.2.2.2.1 z.2.2.2.2.1 z.2.2.2.2.2.1 z.2.2.2.2.2.2.1 z.2.2.2.2.2.2.2.1 z.2.2.2.2.2.2.2.2.1 z.2.2.2.2.2.2.2.2.2.1 z.2.2.2.2.2.2.2.2.2.2.1 z.2.2.2.2.2.2.2.2.2.2.2.1
noncomputable def Sg (y13:gQ)(v4:Int)(q0:List jV)(q1:List jV)(q2:List jV)(q3:List jV)(q4:List jV)(q5:List jV)(q6:List jV)(q7:List jV):Option ((Int×au)×Int×Unit):=
((iter aC e8 (((),(),(),(),(),(),(q0.length:Int),0,()),((y13.2.1.1.1,y13.2.1.1.2.1,()),(y13.2.1.2.1.1,()),(y13.2.1.2.2.1.1,(),()),y13.2.1.2.2.2.1,(y13.2.1.2.2.2.2.1.1,(),(),(),(),(),(),(),(),()),q0,q1,q2,q3,q4,q5,q6,q7,(y13.2.1.2.1.1,v4,()),[(y13.2.1.2.1.1,v4)],(0,(),()),()),[],[],[],()))).bind fun r=>match r with
            | .inl y16=>
              ((iter aC fz (((),(),(),(),(),(),(y16.2.1.2.2.2.2.2.2.1.length:Int),0,()),((y16.2.1.1.1,y16.2.1.1.2.1,()),(y16.2.1.2.1.1,()),(y16.2.1.2.2.1.1,(),()),y16.2.1.2.2.2.1,(y16.2.1.2.2.2.2.1.1,(),(),(),(),(),(),(),(),()),y16.2.1.2.2.2.2.2.1,y16.2.1.2.2.2.2.2.2.1,y16.2.1.2.2.2.2.2.2.2.1,y16.2.1.2.2.2.2.2.2.2.2.1,y16.2.1.2.2.2.2.2.2.2.2.2.1,y16.2.1.2.2.2.2.2.2.2.2.2.2.1,y16.2.1.2.2.2.2.2.2.2.2.2.2.2.1,y16.2.1.2.2.2.2.2.2.2.2.2.2.2.2.1,(y16.2.1.2.2.2.2.2.2.2.2.2.2.2.2.2.1.1,y16.2.1.2.2.2.2.2.2.2.2.2.2.2.2.2.1.2.1,()),y16.2.1.2.2.2.2.2.2.2.2.2.2.2.2.2.2.1,(y16.2.1.2.2.2.2.2.2.2.2.2.2.2.2.2.2.2.1.1,(),()),()),y16.2.2.1,[],y16.2.2.2.1,y16.2.2.2.2.1,()))).bind fun r=>match r with
              | .inl y18=>
                ((iter aC e9 (((),(),(),(),(),(),(y18.2.1.2.2.2.2.2.2.2.1.length:Int),0,()),((y18.2.1.1.1,y18.2.1.1.2.1,()),(y18.2.1.2.1.1,()),(y18.2.1.2.2.1.1,(),()),y18.2.1.2.2.2.1,(y18.2.1.2.2.2.2.1.1,(),(),(),(),(),(),(),(),()),y18.2.1.2.2.2.2.2.1,y18.2.1.2.2.2.2.2.2.1,y18.2.1.2.2.2.2.2.2.2.1,y18.2.1.2.2.2.2.2.2.2.2.1,y18.2.1.2.2.2.2.2.2.2.2.2.1,y18.2.1.2.2.2.2.2.2.2.2.2.2.1,y18.2.1.2.2.2.2.2.2.2.2.2.2.2.1,y18.2.1.2.2.2.2.2.2.2.2.2.2.2.2.1,(y18.2.1.2.2.2.2.2.2.2.2.2.2.2.2.2.1.1,y18.2.1.2.2.2.2.2.2.2.2.2.2.2.2.2.1.2.1,()),y18.2.1.2.2.2.2.2.2.2.2.2.2.2.2.2.2.1,(y18.2.1.2.2.2.2.2.2.2.2.2.2.2.2.2.2.2.1.1,(),()),()),y18.2.2.1,[],y18.2.2.2.2.1,y18.2.2.2.1,y18.2.2.2.2.2.1,()))).bind fun r=>match r with
                | .inl y20=>
                  ((iter aC eW (((),(),(),(),(),(),(y20.2.1.2.2.2.2.2.2.2.2.1.length:Int),0,()),((y20.2.1.1.1,y20.2.1.1.2.1,()),(y20.2.1.2.1.1,()),(y20.2.1.2.2.1.1,(),()),y20.2.1.2.2.2.1,(y20.2.1.2.2.2.2.1.1,(),(),(),(),(),(),(),(),()),y20.2.1.2.2.2.2.2.1,y20.2.1.2.2.2.2.2.2.1,y20.2.1.2.2.2.2.2.2.2.1,y20.2.1.2.2.2.2.2.2.2.2.1,y20.2.1.2.2.2.2.2.2.2.2.2.1,y20.2.1.2.2.2.2.2.2.2.2.2.2.1,y20.2.1.2.2.2.2.2.2.2.2.2.2.2.1,y20.2.1.2.2.2.2.2.2.2.2.2.2.2.2.1,(y20.2.1.2.2.2.2.2.2.2.2.2.2.2.2.2.1.1,y20.2.1.2.2.2.2.2.2.2.2.2.2.2.2.2.1.2.1,()),y20.2.1.2.2.2.2.2.2.2.2.2.2.2.2.2.2.1,(y20.2.1.2.2.2.2.2.2.2.2.2.2.2.2.2.2.2.1.1,(),()),()),y20.2.2.1,[],y20.2.2.2.2.1,y20.2.2.2.2.2.1,y20.2.2.2.1,y20.2.2.2.2.2.2.1,()))).bind fun r=>match r with
                  | .inl y22=>
                    ((iter aC eY (((),(),(),(),(),(),(y22.2.1.2.2.2.2.2.2.2.2.2.1.length:Int),0,()),((y22.2.1.1.1,y22.2.1.1.2.1,()),(y22.2.1.2.1.1,()),(y22.2.1.2.2.1.1,(),()),y22.2.1.2.2.2.1,(y22.2.1.2.2.2.2.1.1,(),(),(),(),(),(),(),(),()),y22.2.1.2.2.2.2.2.1,y22.2.1.2.2.2.2.2.2.1,y22.2.1.2.2.2.2.2.2.2.1,y22.2.1.2.2.2.2.2.2.2.2.1,y22.2.1.2.2.2.2.2.2.2.2.2.1,y22.2.1.2.2.2.2.2.2.2.2.2.2.1,y22.2.1.2.2.2.2.2.2.2.2.2.2.2.1,y22.2.1.2.2.2.2.2.2.2.2.2.2.2.2.1,(y22.2.1.2.2.2.2.2.2.2.2.2.2.2.2.2.1.1,y22.2.1.2.2.2.2.2.2.2.2.2.2.2.2.2.1.2.1,()),y22.2.1.2.2.2.2.2.2.2.2.2.2.2.2.2.2.1,(y22.2.1.2.2.2.2.2.2.2.2.2.2.2.2.2.2.2.1.1,(),()),()),y22.2.2.1,[],y22.2.2.2.2.1,y22.2.2.2.2.2.1,y22.2.2.2.2.2.2.1,y22.2.2.2.1,y22.2.2.2.2.2.2.2.1,()))).bind fun r=>match r with
                    | .inl y24=>
                      ((iter aC fu (((),(),(),(),(),(),(y24.2.1.2.2.2.2.2.2.2.2.2.2.1.length:Int),0,()),((y24.2.1.1.1,y24.2.1.1.2.1,()),(y24.2.1.2.1.1,()),(y24.2.1.2.2.1.1,(),()),y24.2.1.2.2.2.1,(y24.2.1.2.2.2.2.1.1,(),(),(),(),(),(),(),(),()),y24.2.1.2.2.2.2.2.1,y24.2.1.2.2.2.2.2.2.1,y24.2.1.2.2.2.2.2.2.2.1,y24.2.1.2.2.2.2.2.2.2.2.1,y24.2.1.2.2.2.2.2.2.2.2.2.1,y24.2.1.2.2.2.2.2.2.2.2.2.2.1,y24.2.1.2.2.2.2.2.2.2.2.2.2.2.1,y24.2.1.2.2.2.2.2.2.2.2.2.2.2.2.1,(y24.2.1.2.2.2.2.2.2.2.2.2.2.2.2.2.1.1,y24.2.1.2.2.2.2.2.2.2.2.2.2.2.2.2.1.2.1,()),y24.2.1.2.2.2.2.2.2.2.2.2.2.2.2.2.2.1,(y24.2.1.2.2.2.2.2.2.2.2.2.2.2.2.2.2.2.1.1,(),()),()),y24.2.2.1,[],y24.2.2.2.2.1,y24.2.2.2.2.2.1,y24.2.2.2.2.2.2.1,y24.2.2.2.2.2.2.2.1,y24.2.2.2.1,y24.2.2.2.2.2.2.2.2.1,()))).bind fun r=>match r with
                      | .inl y26=>
                        ((iter aC fk (((),(),(),(),(),(),(y26.2.1.2.2.2.2.2.2.2.2.2.2.2.1.length:Int),0,()),((y26.2.1.1.1,y26.2.1.1.2.1,()),(y26.2.1.2.1.1,()),(y26.2.1.2.2.1.1,(),()),y26.2.1.2.2.2.1,(y26.2.1.2.2.2.2.1.1,(),(),(),(),(),(),(),(),()),y26.2.1.2.2.2.2.2.1,y26.2.1.2.2.2.2.2.2.1,y26.2.1.2.2.2.2.2.2.2.1,y26.2.1.2.2.2.2.2.2.2.2.1,y26.2.1.2.2.2.2.2.2.2.2.2.1,y26.2.1.2.2.2.2.2.2.2.2.2.2.1,y26.2.1.2.2.2.2.2.2.2.2.2.2.2.1,y26.2.1.2.2.2.2.2.2.2.2.2.2.2.2.1,(y26.2.1.2.2.2.2.2.2.2.2.2.2.2.2.2.1.1,y26.2.1.2.2.2.2.2.2.2.2.2.2.2.2.2.1.2.1,()),y26.2.1.2.2.2.2.2.2.2.2.2.2.2.2.2.2.1,(y26.2.1.2.2.2.2.2.2.2.2.2.2.2.2.2.2.2.1.1,(),()),()),y26.2.2.1,[],y26.2.2.2.2.1,y26.2.2.2.2.2.1,y26.2.2.2.2.2.2.1,y26.2.2.2.2.2.2.2.1,y26.2.2.2.2.2.2.2.2.1,y26.2.2.2.1,y26.2.2.2.2.2.2.2.2.2.1,()))).bind fun r=>match r with
                        | .inl y28=>
                          ((iter aC fh (((),(),(),(),(),(),(y28.2.1.2.2.2.2.2.2.2.2.2.2.2.2.1.length:Int),0,()),((y28.2.1.1.1,y28.2.1.1.2.1,()),(y28.2.1.2.1.1,()),(y28.2.1.2.2.1.1,(),()),y28.2.1.2.2.2.1,(y28.2.1.2.2.2.2.1.1,(),(),(),(),(),(),(),(),()),y28.2.1.2.2.2.2.2.1,y28.2.1.2.2.2.2.2.2.1,y28.2.1.2.2.2.2.2.2.2.1,y28.2.1.2.2.2.2.2.2.2.2.1,y28.2.1.2.2.2.2.2.2.2.2.2.1,y28.2.1.2.2.2.2.2.2.2.2.2.2.1,y28.2.1.2.2.2.2.2.2.2.2.2.2.2.1,y28.2.1.2.2.2.2.2.2.2.2.2.2.2.2.1,(y28.2.1.2.2.2.2.2.2.2.2.2.2.2.2.2.1.1,y28.2.1.2.2.2.2.2.2.2.2.2.2.2.2.2.1.2.1,()),y28.2.1.2.2.2.2.2.2.2.2.2.2.2.2.2.2.1,(y28.2.1.2.2.2.2.2.2.2.2.2.2.2.2.2.2.2.1.1,(),()),()),y28.2.2.1,[],y28.2.2.2.2.1,y28.2.2.2.2.2.1,y28.2.2.2.2.2.2.1,y28.2.2.2.2.2.2.2.1,y28.2.2.2.2.2.2.2.2.1,y28.2.2.2.2.2.2.2.2.2.1,y28.2.2.2.1,y28.2.2.2.2.2.2.2.2.2.2.1,()))).bind fun r=>match r with
                          | .inl y30=>
                            ((uV y30.2.2.1)).bind fun y32=>
                            cond ((Nat.beq y32.length y30.2.2.1.length)&&true) (
                             cond (decide (y30.2.1.2.2.2.2.1.1=y13.2.1.2.2.2.2.1.1)) (
                              some ((y13.2.1.2.2.2.2.1.1,y32),0,())) (
                              none)) (
                             none)
                          | .inr z31=>
                            none
                        | .inr z29=>
                          none
                      | .inr z27=>
                        none
                    | .inr z25=>
                      none
                  | .inr z23=>
                    none
                | .inr z21=>
                  none
              | .inr z19=>
                none
            | .inr z17=>
              none
noncomputable def f68 (v1:Int)(v2:au)(v3 v4:Int):Option ((Int×au)×Int×Unit):=
 ((f104 v1 v2)).bind fun y5=>
 cond (!y5.1) (
  ((f106 v1 v2)).bind fun y6=>
  some ((y6.1.1,y6.1.2),1,())) (
  cond (decide (v3<0)) (
   ((f106 v1 v2)).bind fun y7=>
   some ((y7.1.1,y7.1.2),1,())) (
   cond (decide (v4≤v1)) (
    ((f106 v1 v2)).bind fun y8=>
    some ((y8.1.1,y8.1.2),10,())) (
    cond (decide (1073741824<v4)) (
     ((f106 v1 v2)).bind fun y9=>
     some ((y9.1.1,y9.1.2),10,())) (
     ((iter aC fe ((v2,(),(v2.length:Int),0,()),((v1,v2,()),(v3,()),(0,(),()),()),[],()))).bind fun r=>match r with
     | .inl y10=>
       cond (decide ((y10.2.1.1.2.1.length:Int)=64)) (
        ((f106 y10.2.1.1.1 y10.2.1.1.2.1)).bind fun y12=>
        some ((y12.1.1,y12.1.2),9,())) (
        ((iter aC eU (((),y10.2.1.1.2.1,(y10.2.1.1.2.1.length:Int),0,()),((y10.2.1.1.1,y10.2.1.1.2.1,()),(y10.2.1.2.1.1,()),(y10.2.1.2.2.1.1,(),()),y10.2.2.1,(y10.2.1.1.1,(),(),(),(),(),(),(),(),()),()),[],[],[],[],[],[],[],[],()))).bind fun r=>match r with
        | .inl y13=>
          ((f135 v4)).bind fun y15=>
          cond (decide (y15.1=0)) (
           cond ((decide (((y13.2.2.1.length+1) * 16)≤140737488355328))&&(decide ((y13.2.2.1.length+1)≤9223372036854775807))) (
            Sg y13 v4 (y13.2.2.1++[(y13.2.1.2.1.1,v4)]) (y13.2.2.2.1) (y13.2.2.2.2.1) (y13.2.2.2.2.2.1) (y13.2.2.2.2.2.2.1) (y13.2.2.2.2.2.2.2.1) (y13.2.2.2.2.2.2.2.2.1) (y13.2.2.2.2.2.2.2.2.2.1)) (
            none)) (
           cond (decide (y15.1=1)) (
            cond ((decide (((y13.2.2.2.1.length+1) * 16)≤140737488355328))&&(decide ((y13.2.2.2.1.length+1)≤9223372036854775807))) (
             Sg y13 v4 (y13.2.2.1) (y13.2.2.2.1++[(y13.2.1.2.1.1,v4)]) (y13.2.2.2.2.1) (y13.2.2.2.2.2.1) (y13.2.2.2.2.2.2.1) (y13.2.2.2.2.2.2.2.1) (y13.2.2.2.2.2.2.2.2.1) (y13.2.2.2.2.2.2.2.2.2.1)) (
             none)) (
            cond (decide (y15.1=2)) (
             cond ((decide (((y13.2.2.2.2.1.length+1) * 16)≤140737488355328))&&(decide ((y13.2.2.2.2.1.length+1)≤9223372036854775807))) (
              Sg y13 v4 (y13.2.2.1) (y13.2.2.2.1) (y13.2.2.2.2.1++[(y13.2.1.2.1.1,v4)]) (y13.2.2.2.2.2.1) (y13.2.2.2.2.2.2.1) (y13.2.2.2.2.2.2.2.1) (y13.2.2.2.2.2.2.2.2.1) (y13.2.2.2.2.2.2.2.2.2.1)) (
              none)) (
             cond (decide (y15.1=3)) (
              cond ((decide (((y13.2.2.2.2.2.1.length+1) * 16)≤140737488355328))&&(decide ((y13.2.2.2.2.2.1.length+1)≤9223372036854775807))) (
               Sg y13 v4 (y13.2.2.1) (y13.2.2.2.1) (y13.2.2.2.2.1) (y13.2.2.2.2.2.1++[(y13.2.1.2.1.1,v4)]) (y13.2.2.2.2.2.2.1) (y13.2.2.2.2.2.2.2.1) (y13.2.2.2.2.2.2.2.2.1) (y13.2.2.2.2.2.2.2.2.2.1)) (
               none)) (
              cond (decide (y15.1=4)) (
               cond ((decide (((y13.2.2.2.2.2.2.1.length+1) * 16)≤140737488355328))&&(decide ((y13.2.2.2.2.2.2.1.length+1)≤9223372036854775807))) (
                Sg y13 v4 (y13.2.2.1) (y13.2.2.2.1) (y13.2.2.2.2.1) (y13.2.2.2.2.2.1) (y13.2.2.2.2.2.2.1++[(y13.2.1.2.1.1,v4)]) (y13.2.2.2.2.2.2.2.1) (y13.2.2.2.2.2.2.2.2.1) (y13.2.2.2.2.2.2.2.2.2.1)) (
                none)) (
               cond (decide (y15.1=5)) (
                cond ((decide (((y13.2.2.2.2.2.2.2.1.length+1) * 16)≤140737488355328))&&(decide ((y13.2.2.2.2.2.2.2.1.length+1)≤9223372036854775807))) (
                 Sg y13 v4 (y13.2.2.1) (y13.2.2.2.1) (y13.2.2.2.2.1) (y13.2.2.2.2.2.1) (y13.2.2.2.2.2.2.1) (y13.2.2.2.2.2.2.2.1++[(y13.2.1.2.1.1,v4)]) (y13.2.2.2.2.2.2.2.2.1) (y13.2.2.2.2.2.2.2.2.2.1)) (
                 none)) (
                cond (decide (y15.1=6)) (
                 cond ((decide (((y13.2.2.2.2.2.2.2.2.1.length+1) * 16)≤140737488355328))&&(decide ((y13.2.2.2.2.2.2.2.2.1.length+1)≤9223372036854775807))) (
                  Sg y13 v4 (y13.2.2.1) (y13.2.2.2.1) (y13.2.2.2.2.1) (y13.2.2.2.2.2.1) (y13.2.2.2.2.2.2.1) (y13.2.2.2.2.2.2.2.1) (y13.2.2.2.2.2.2.2.2.1++[(y13.2.1.2.1.1,v4)]) (y13.2.2.2.2.2.2.2.2.2.1)) (
                  none)) (
                 cond (decide (y15.1=7)) (
                  cond ((decide (((y13.2.2.2.2.2.2.2.2.2.1.length+1) * 16)≤140737488355328))&&(decide ((y13.2.2.2.2.2.2.2.2.2.1.length+1)≤9223372036854775807))) (
                   Sg y13 v4 (y13.2.2.1) (y13.2.2.2.1) (y13.2.2.2.2.1) (y13.2.2.2.2.2.1) (y13.2.2.2.2.2.2.1) (y13.2.2.2.2.2.2.2.1) (y13.2.2.2.2.2.2.2.2.1) (y13.2.2.2.2.2.2.2.2.2.1++[(y13.2.1.2.1.1,v4)])) (
                   none)) (
                  none))))))))
        | .inr z14=>
          none)
     | .inr z11=>
       cond (decide (0≤z11.1.1)) (
        ((f106 z11.2.1.1.1 z11.2.1.1.2.1)).bind fun y152=>
        some ((y152.1.1,y152.1.2),11,())) (
        cond (decide ((z11.2.1.1.2.1.length:Int)=64)) (
         ((f106 z11.2.1.1.1 z11.2.1.1.2.1)).bind fun y153=>
         some ((y153.1.1,y153.1.2),9,())) (
         none))))))
abbrev oB:Type:=(Unit×au×Int×Int×Unit)×(uN×xh×KX×Unit)×au×au×au×au×au×au×au×au×au×Unit
abbrev wU:Type:=(Unit×Unit)×(uN×xh×KX×Unit)×au×au×au×au×au×au×au×au×au×Unit
abbrev wm:Type:=Unit×O1×Unit
noncomputable def ol (v1:au)(v2 v3 v4:Int)(v5:au)(v6 v7:Int)(v8 v9 v10 v11 v12 v13 v14 v15 v16:au):Option (R3 oB wU wm):=
 cond (decide (v3<v2)) (
  cond ((decide (0≤v3))&&(decide (v3<(v1.length:Int)))) (
   ((f135 (rd aS v1 (Int.toNat v3)).2)).bind fun y17=>
   cond (decide (y17.1=0)) (
    cond ((decide (((v9.length+1) * 16)≤140737488355328))&&(decide ((v9.length+1)≤9223372036854775807))) (
     some (R3.next (((),v1,v2,(IntKind.wrap .i64 (v3+1)),()),((v4,v5,()),(v6,(),()),(v7,(),(),(),(),(),(),(),(),()),()),v8,(v9++[((rd aS v1 (Int.toNat v3)).1,(rd aS v1 (Int.toNat v3)).2)]),v10,v11,v12,v13,v14,v15,v16,()))) (
     none)) (
    cond (decide (y17.1=1)) (
     cond ((decide (((v10.length+1) * 16)≤140737488355328))&&(decide ((v10.length+1)≤9223372036854775807))) (
      some (R3.next (((),v1,v2,(IntKind.wrap .i64 (v3+1)),()),((v4,v5,()),(v6,(),()),(v7,(),(),(),(),(),(),(),(),()),()),v8,v9,(v10++[((rd aS v1 (Int.toNat v3)).1,(rd aS v1 (Int.toNat v3)).2)]),v11,v12,v13,v14,v15,v16,()))) (
      none)) (
     cond (decide (y17.1=2)) (
      cond ((decide (((v11.length+1) * 16)≤140737488355328))&&(decide ((v11.length+1)≤9223372036854775807))) (
       some (R3.next (((),v1,v2,(IntKind.wrap .i64 (v3+1)),()),((v4,v5,()),(v6,(),()),(v7,(),(),(),(),(),(),(),(),()),()),v8,v9,v10,(v11++[((rd aS v1 (Int.toNat v3)).1,(rd aS v1 (Int.toNat v3)).2)]),v12,v13,v14,v15,v16,()))) (
       none)) (
      cond (decide (y17.1=3)) (
       cond ((decide (((v12.length+1) * 16)≤140737488355328))&&(decide ((v12.length+1)≤9223372036854775807))) (
        some (R3.next (((),v1,v2,(IntKind.wrap .i64 (v3+1)),()),((v4,v5,()),(v6,(),()),(v7,(),(),(),(),(),(),(),(),()),()),v8,v9,v10,v11,(v12++[((rd aS v1 (Int.toNat v3)).1,(rd aS v1 (Int.toNat v3)).2)]),v13,v14,v15,v16,()))) (
        none)) (
       cond (decide (y17.1=4)) (
        cond ((decide (((v13.length+1) * 16)≤140737488355328))&&(decide ((v13.length+1)≤9223372036854775807))) (
         some (R3.next (((),v1,v2,(IntKind.wrap .i64 (v3+1)),()),((v4,v5,()),(v6,(),()),(v7,(),(),(),(),(),(),(),(),()),()),v8,v9,v10,v11,v12,(v13++[((rd aS v1 (Int.toNat v3)).1,(rd aS v1 (Int.toNat v3)).2)]),v14,v15,v16,()))) (
         none)) (
        cond (decide (y17.1=5)) (
         cond ((decide (((v14.length+1) * 16)≤140737488355328))&&(decide ((v14.length+1)≤9223372036854775807))) (
          some (R3.next (((),v1,v2,(IntKind.wrap .i64 (v3+1)),()),((v4,v5,()),(v6,(),()),(v7,(),(),(),(),(),(),(),(),()),()),v8,v9,v10,v11,v12,v13,(v14++[((rd aS v1 (Int.toNat v3)).1,(rd aS v1 (Int.toNat v3)).2)]),v15,v16,()))) (
          none)) (
         cond (decide (y17.1=6)) (
          cond ((decide (((v15.length+1) * 16)≤140737488355328))&&(decide ((v15.length+1)≤9223372036854775807))) (
           some (R3.next (((),v1,v2,(IntKind.wrap .i64 (v3+1)),()),((v4,v5,()),(v6,(),()),(v7,(),(),(),(),(),(),(),(),()),()),v8,v9,v10,v11,v12,v13,v14,(v15++[((rd aS v1 (Int.toNat v3)).1,(rd aS v1 (Int.toNat v3)).2)]),v16,()))) (
           none)) (
          cond (decide (y17.1=7)) (
           cond ((decide (((v16.length+1) * 16)≤140737488355328))&&(decide ((v16.length+1)≤9223372036854775807))) (
            some (R3.next (((),v1,v2,(IntKind.wrap .i64 (v3+1)),()),((v4,v5,()),(v6,(),()),(v7,(),(),(),(),(),(),(),(),()),()),v8,v9,v10,v11,v12,v13,v14,v15,(v16++[((rd aS v1 (Int.toNat v3)).1,(rd aS v1 (Int.toNat v3)).2)]),()))) (
            none)) (
           none))))))))) (
   none)) (
  some (R3.out (((),()),((v4,v5,()),(v6,(),()),(v7,(),(),(),(),(),(),(),(),()),()),v8,v9,v10,v11,v12,v13,v14,v15,v16,())))
noncomputable def eV (z:oB):Option (R3 oB wU wm):=ol z.1.2.1 z.1.2.2.1 z.1.2.2.2.1 z.2.1.1.1 z.2.1.1.2.1 z.2.1.2.1.1 z.2.1.2.2.1.1 z.2.2.1 z.2.2.2.1 z.2.2.2.2.1 z.2.2.2.2.2.1 z.2.2.2.2.2.2.1 z.2.2.2.2.2.2.2.1 z.2.2.2.2.2.2.2.2.1 z.2.2.2.2.2.2.2.2.2.1 z.2.2.2.2.2.2.2.2.2.2.1
abbrev pg:Type:=xD×Kq×au×au×Unit
abbrev vt:Type:=iK×Kq×au×au×Unit
abbrev wM:Type:=Unit×Fv×Unit
noncomputable def pq (v1 v2 v3:Int)(v4:au)(v5 v6:Int)(v7 v8 v9 v10 v11 v12 v13 v14 v15 v16 v17:au):Option (R3 pg vt wM):=
 cond (decide (v2<v1)) (
  cond ((decide (0≤v2))&&(decide (v2<(v8.length:Int)))) (
   cond (decide ((Int.toNat v2)<v8.length)) (
    cond (decide ((rd aS v8 (Int.toNat v2)).2≤v6)) (
     cond ((decide (((v16.length+1) * 16)≤140737488355328))&&(decide ((v16.length+1)≤9223372036854775807))) (
      some (R3.next (((),(),(),(),(),(),v1,(IntKind.wrap .i64 (v2+1)),()),((v3,v4,()),(v5,(),()),(v6,(),(),(),(),(),(),(),(),()),v7,v8,v9,v10,v11,v12,v13,v14,v15,()),(v16++[((rd aS v8 (Int.toNat v2)).1,(rd aS v8 (Int.toNat v2)).2)]),v17,()))) (
      none)) (
     cond ((decide (((v17.length+1) * 16)≤140737488355328))&&(decide ((v17.length+1)≤9223372036854775807))) (
      some (R3.next (((),(),(),(),(),(),v1,(IntKind.wrap .i64 (v2+1)),()),((v3,v4,()),(v5,(),()),(v6,(),(),(),(),(),(),(),(),()),v7,v8,v9,v10,v11,v12,v13,v14,v15,()),v16,(v17++[((rd aS v8 (Int.toNat v2)).1,(rd aS v8 (Int.toNat v2)).2)]),()))) (
      none))) (
    none)) (
   none)) (
  some (R3.out (((),(),(),(),(),()),((v3,v4,()),(v5,(),()),(v6,(),(),(),(),(),(),(),(),()),v7,v8,v9,v10,v11,v12,v13,v14,v15,()),v16,v17,())))
noncomputable def fw (z:pg):Option (R3 pg vt wM):=pq z.1.2.2.2.2.2.2.1 z.1.2.2.2.2.2.2.2.1 z.2.1.1.1 z.2.1.1.2.1 z.2.1.2.1.1 z.2.1.2.2.1.1 z.2.1.2.2.2.1 z.2.1.2.2.2.2.1 z.2.1.2.2.2.2.2.1 z.2.1.2.2.2.2.2.2.1 z.2.1.2.2.2.2.2.2.2.1 z.2.1.2.2.2.2.2.2.2.2.1 z.2.1.2.2.2.2.2.2.2.2.2.1 z.2.1.2.2.2.2.2.2.2.2.2.2.1 z.2.1.2.2.2.2.2.2.2.2.2.2.2.1 z.2.2.1 z.2.2.2.1
abbrev oO:Type:=xD×Kq×au×au×au×Unit
abbrev vw:Type:=iK×Kq×au×au×au×Unit
abbrev vO:Type:=Unit×Fv×Unit
noncomputable def nJ (v1 v2 v3:Int)(v4:au)(v5 v6:Int)(v7 v8 v9 v10 v11 v12 v13 v14 v15 v16 v17 v18:au):Option (R3 oO vw vO):=
 cond (decide (v2<v1)) (
  cond ((decide (0≤v2))&&(decide (v2<(v9.length:Int)))) (
   cond (decide ((Int.toNat v2)<v9.length)) (
    cond (decide ((rd aS v9 (Int.toNat v2)).2≤v6)) (
     cond ((decide (((v16.length+1) * 16)≤140737488355328))&&(decide ((v16.length+1)≤9223372036854775807))) (
      some (R3.next (((),(),(),(),(),(),v1,(IntKind.wrap .i64 (v2+1)),()),((v3,v4,()),(v5,(),()),(v6,(),(),(),(),(),(),(),(),()),v7,v8,v9,v10,v11,v12,v13,v14,v15,()),(v16++[((rd aS v9 (Int.toNat v2)).1,(rd aS v9 (Int.toNat v2)).2)]),v17,v18,()))) (
      none)) (
     cond ((decide (((v17.length+1) * 16)≤140737488355328))&&(decide ((v17.length+1)≤9223372036854775807))) (
      some (R3.next (((),(),(),(),(),(),v1,(IntKind.wrap .i64 (v2+1)),()),((v3,v4,()),(v5,(),()),(v6,(),(),(),(),(),(),(),(),()),v7,v8,v9,v10,v11,v12,v13,v14,v15,()),v16,(v17++[((rd aS v9 (Int.toNat v2)).1,(rd aS v9 (Int.toNat v2)).2)]),v18,()))) (
      none))) (
    none)) (
   none)) (
  some (R3.out (((),(),(),(),(),()),((v3,v4,()),(v5,(),()),(v6,(),(),(),(),(),(),(),(),()),v7,v8,v9,v10,v11,v12,v13,v14,v15,()),v16,v17,v18,())))
noncomputable def fC (z:oO):Option (R3 oO vw vO):=nJ z.1.2.2.2.2.2.2.1 z.1.2.2.2.2.2.2.2.1 z.2.1.1.1 z.2.1.1.2.1 z.2.1.2.1.1 z.2.1.2.2.1.1 z.2.1.2.2.2.1 z.2.1.2.2.2.2.1 z.2.1.2.2.2.2.2.1 z.2.1.2.2.2.2.2.2.1 z.2.1.2.2.2.2.2.2.2.1 z.2.1.2.2.2.2.2.2.2.2.1 z.2.1.2.2.2.2.2.2.2.2.2.1 z.2.1.2.2.2.2.2.2.2.2.2.2.1 z.2.1.2.2.2.2.2.2.2.2.2.2.2.1 z.2.2.1 z.2.2.2.1 z.2.2.2.2.1
abbrev oh:Type:=xD×Kq×au×au×au×au×Unit
abbrev wR:Type:=iK×Kq×au×au×au×au×Unit
abbrev wI:Type:=Unit×Fv×Unit
noncomputable def mX (v1 v2 v3:Int)(v4:au)(v5 v6:Int)(v7 v8 v9 v10 v11 v12 v13 v14 v15 v16 v17 v18 v19:au):Option (R3 oh wR wI):=
 cond (decide (v2<v1)) (
  cond ((decide (0≤v2))&&(decide (v2<(v10.length:Int)))) (
   cond (decide ((Int.toNat v2)<v10.length)) (
    cond (decide ((rd aS v10 (Int.toNat v2)).2≤v6)) (
     cond ((decide (((v16.length+1) * 16)≤140737488355328))&&(decide ((v16.length+1)≤9223372036854775807))) (
      some (R3.next (((),(),(),(),(),(),v1,(IntKind.wrap .i64 (v2+1)),()),((v3,v4,()),(v5,(),()),(v6,(),(),(),(),(),(),(),(),()),v7,v8,v9,v10,v11,v12,v13,v14,v15,()),(v16++[((rd aS v10 (Int.toNat v2)).1,(rd aS v10 (Int.toNat v2)).2)]),v17,v18,v19,()))) (
      none)) (
     cond ((decide (((v17.length+1) * 16)≤140737488355328))&&(decide ((v17.length+1)≤9223372036854775807))) (
      some (R3.next (((),(),(),(),(),(),v1,(IntKind.wrap .i64 (v2+1)),()),((v3,v4,()),(v5,(),()),(v6,(),(),(),(),(),(),(),(),()),v7,v8,v9,v10,v11,v12,v13,v14,v15,()),v16,(v17++[((rd aS v10 (Int.toNat v2)).1,(rd aS v10 (Int.toNat v2)).2)]),v18,v19,()))) (
      none))) (
    none)) (
   none)) (
  some (R3.out (((),(),(),(),(),()),((v3,v4,()),(v5,(),()),(v6,(),(),(),(),(),(),(),(),()),v7,v8,v9,v10,v11,v12,v13,v14,v15,()),v16,v17,v18,v19,())))
noncomputable def fp (z:oh):Option (R3 oh wR wI):=mX z.1.2.2.2.2.2.2.1 z.1.2.2.2.2.2.2.2.1 z.2.1.1.1 z.2.1.1.2.1 z.2.1.2.1.1 z.2.1.2.2.1.1 z.2.1.2.2.2.1 z.2.1.2.2.2.2.1 z.2.1.2.2.2.2.2.1 z.2.1.2.2.2.2.2.2.1 z.2.1.2.2.2.2.2.2.2.1 z.2.1.2.2.2.2.2.2.2.2.1 z.2.1.2.2.2.2.2.2.2.2.2.1 z.2.1.2.2.2.2.2.2.2.2.2.2.1 z.2.1.2.2.2.2.2.2.2.2.2.2.2.1 z.2.2.1 z.2.2.2.1 z.2.2.2.2.1 z.2.2.2.2.2.1
abbrev oW:Type:=xD×Kq×au×au×au×au×au×Unit
abbrev vl:Type:=iK×Kq×au×au×au×au×au×Unit
abbrev vP:Type:=Unit×Fv×Unit
noncomputable def nN (v1 v2 v3:Int)(v4:au)(v5 v6:Int)(v7 v8 v9 v10 v11 v12 v13 v14 v15 v16 v17 v18 v19 v20:au):Option (R3 oW vl vP):=
 cond (decide (v2<v1)) (
  cond ((decide (0≤v2))&&(decide (v2<(v11.length:Int)))) (
   cond (decide ((Int.toNat v2)<v11.length)) (
    cond (decide ((rd aS v11 (Int.toNat v2)).2≤v6)) (
     cond ((decide (((v16.length+1) * 16)≤140737488355328))&&(decide ((v16.length+1)≤9223372036854775807))) (
      some (R3.next (((),(),(),(),(),(),v1,(IntKind.wrap .i64 (v2+1)),()),((v3,v4,()),(v5,(),()),(v6,(),(),(),(),(),(),(),(),()),v7,v8,v9,v10,v11,v12,v13,v14,v15,()),(v16++[((rd aS v11 (Int.toNat v2)).1,(rd aS v11 (Int.toNat v2)).2)]),v17,v18,v19,v20,()))) (
      none)) (
     cond ((decide (((v17.length+1) * 16)≤140737488355328))&&(decide ((v17.length+1)≤9223372036854775807))) (
      some (R3.next (((),(),(),(),(),(),v1,(IntKind.wrap .i64 (v2+1)),()),((v3,v4,()),(v5,(),()),(v6,(),(),(),(),(),(),(),(),()),v7,v8,v9,v10,v11,v12,v13,v14,v15,()),v16,(v17++[((rd aS v11 (Int.toNat v2)).1,(rd aS v11 (Int.toNat v2)).2)]),v18,v19,v20,()))) (
      none))) (
    none)) (
   none)) (
  some (R3.out (((),(),(),(),(),()),((v3,v4,()),(v5,(),()),(v6,(),(),(),(),(),(),(),(),()),v7,v8,v9,v10,v11,v12,v13,v14,v15,()),v16,v17,v18,v19,v20,())))
noncomputable def eM (z:oW):Option (R3 oW vl vP):=nN z.1.2.2.2.2.2.2.1 z.1.2.2.2.2.2.2.2.1 z.2.1.1.1 z.2.1.1.2.1 z.2.1.2.1.1 z.2.1.2.2.1.1 z.2.1.2.2.2.1 z.2.1.2.2.2.2.1 z.2.1.2.2.2.2.2.1 z.2.1.2.2.2.2.2.2.1 z.2.1.2.2.2.2.2.2.2.1 z.2.1.2.2.2.2.2.2.2.2.1 z.2.1.2.2.2.2.2.2.2.2.2.1 z.2.1.2.2.2.2.2.2.2.2.2.2.1 z.2.1.2.2.2.2.2.2.2.2.2.2.2.1 z.2.2.1 z.2.2.2.1 z.2.2.2.2.1 z.2.2.2.2.2.1 z.2.2.2.2.2.2.1
abbrev oL:Type:=xD×Kq×au×au×au×au×au×au×Unit
abbrev vX:Type:=iK×Kq×au×au×au×au×au×au×Unit
abbrev vq:Type:=Unit×Fv×Unit
noncomputable def nH (v1 v2 v3:Int)(v4:au)(v5 v6:Int)(v7 v8 v9 v10 v11 v12 v13 v14 v15 v16 v17 v18 v19 v20 v21:au):Option (R3 oL vX vq):=
 cond (decide (v2<v1)) (
  cond ((decide (0≤v2))&&(decide (v2<(v12.length:Int)))) (
   cond (decide ((Int.toNat v2)<v12.length)) (
    cond (decide ((rd aS v12 (Int.toNat v2)).2≤v6)) (
     cond ((decide (((v16.length+1) * 16)≤140737488355328))&&(decide ((v16.length+1)≤9223372036854775807))) (
      some (R3.next (((),(),(),(),(),(),v1,(IntKind.wrap .i64 (v2+1)),()),((v3,v4,()),(v5,(),()),(v6,(),(),(),(),(),(),(),(),()),v7,v8,v9,v10,v11,v12,v13,v14,v15,()),(v16++[((rd aS v12 (Int.toNat v2)).1,(rd aS v12 (Int.toNat v2)).2)]),v17,v18,v19,v20,v21,()))) (
      none)) (
     cond ((decide (((v17.length+1) * 16)≤140737488355328))&&(decide ((v17.length+1)≤9223372036854775807))) (
      some (R3.next (((),(),(),(),(),(),v1,(IntKind.wrap .i64 (v2+1)),()),((v3,v4,()),(v5,(),()),(v6,(),(),(),(),(),(),(),(),()),v7,v8,v9,v10,v11,v12,v13,v14,v15,()),v16,(v17++[((rd aS v12 (Int.toNat v2)).1,(rd aS v12 (Int.toNat v2)).2)]),v18,v19,v20,v21,()))) (
      none))) (
    none)) (
   none)) (
  some (R3.out (((),(),(),(),(),()),((v3,v4,()),(v5,(),()),(v6,(),(),(),(),(),(),(),(),()),v7,v8,v9,v10,v11,v12,v13,v14,v15,()),v16,v17,v18,v19,v20,v21,())))
noncomputable def eX (z:oL):Option (R3 oL vX vq):=nH z.1.2.2.2.2.2.2.1 z.1.2.2.2.2.2.2.2.1 z.2.1.1.1 z.2.1.1.2.1 z.2.1.2.1.1 z.2.1.2.2.1.1 z.2.1.2.2.2.1 z.2.1.2.2.2.2.1 z.2.1.2.2.2.2.2.1 z.2.1.2.2.2.2.2.2.1 z.2.1.2.2.2.2.2.2.2.1 z.2.1.2.2.2.2.2.2.2.2.1 z.2.1.2.2.2.2.2.2.2.2.2.1 z.2.1.2.2.2.2.2.2.2.2.2.2.1 z.2.1.2.2.2.2.2.2.2.2.2.2.2.1 z.2.2.1 z.2.2.2.1 z.2.2.2.2.1 z.2.2.2.2.2.1 z.2.2.2.2.2.2.1 z.2.2.2.2.2.2.2.1
abbrev nj:Type:=xD×Kq×au×au×au×au×au×au×au×Unit
abbrev wK:Type:=iK×Kq×au×au×au×au×au×au×au×Unit
abbrev wo:Type:=Unit×Fv×Unit
noncomputable def o6 (v1 v2 v3:Int)(v4:au)(v5 v6:Int)(v7 v8 v9 v10 v11 v12 v13 v14 v15 v16 v17 v18 v19 v20 v21 v22:au):Option (R3 nj wK wo):=
 cond (decide (v2<v1)) (
  cond ((decide (0≤v2))&&(decide (v2<(v13.length:Int)))) (
   cond (decide ((Int.toNat v2)<v13.length)) (
    cond (decide ((rd aS v13 (Int.toNat v2)).2≤v6)) (
     cond ((decide (((v16.length+1) * 16)≤140737488355328))&&(decide ((v16.length+1)≤9223372036854775807))) (
      some (R3.next (((),(),(),(),(),(),v1,(IntKind.wrap .i64 (v2+1)),()),((v3,v4,()),(v5,(),()),(v6,(),(),(),(),(),(),(),(),()),v7,v8,v9,v10,v11,v12,v13,v14,v15,()),(v16++[((rd aS v13 (Int.toNat v2)).1,(rd aS v13 (Int.toNat v2)).2)]),v17,v18,v19,v20,v21,v22,()))) (
      none)) (
     cond ((decide (((v17.length+1) * 16)≤140737488355328))&&(decide ((v17.length+1)≤9223372036854775807))) (
      some (R3.next (((),(),(),(),(),(),v1,(IntKind.wrap .i64 (v2+1)),()),((v3,v4,()),(v5,(),()),(v6,(),(),(),(),(),(),(),(),()),v7,v8,v9,v10,v11,v12,v13,v14,v15,()),v16,(v17++[((rd aS v13 (Int.toNat v2)).1,(rd aS v13 (Int.toNat v2)).2)]),v18,v19,v20,v21,v22,()))) (
      none))) (
    none)) (
   none)) (
  some (R3.out (((),(),(),(),(),()),((v3,v4,()),(v5,(),()),(v6,(),(),(),(),(),(),(),(),()),v7,v8,v9,v10,v11,v12,v13,v14,v15,()),v16,v17,v18,v19,v20,v21,v22,())))
noncomputable def eZ (z:nj):Option (R3 nj wK wo):=o6 z.1.2.2.2.2.2.2.1 z.1.2.2.2.2.2.2.2.1 z.2.1.1.1 z.2.1.1.2.1 z.2.1.2.1.1 z.2.1.2.2.1.1 z.2.1.2.2.2.1 z.2.1.2.2.2.2.1 z.2.1.2.2.2.2.2.1 z.2.1.2.2.2.2.2.2.1 z.2.1.2.2.2.2.2.2.2.1 z.2.1.2.2.2.2.2.2.2.2.1 z.2.1.2.2.2.2.2.2.2.2.2.1 z.2.1.2.2.2.2.2.2.2.2.2.2.1 z.2.1.2.2.2.2.2.2.2.2.2.2.2.1 z.2.2.1 z.2.2.2.1 z.2.2.2.2.1 z.2.2.2.2.2.1 z.2.2.2.2.2.2.1 z.2.2.2.2.2.2.2.1 z.2.2.2.2.2.2.2.2.1
abbrev mK:Type:=xD×Kq×au×au×au×au×au×au×au×au×Unit
abbrev vv:Type:=iK×Kq×au×au×au×au×au×au×au×au×Unit
abbrev vH:Type:=Unit×Fv×Unit
noncomputable def nP (v1 v2 v3:Int)(v4:au)(v5 v6:Int)(v7 v8 v9 v10 v11 v12 v13 v14 v15 v16 v17 v18 v19 v20 v21 v22 v23:au):Option (R3 mK vv vH):=
 cond (decide (v2<v1)) (
  cond ((decide (0≤v2))&&(decide (v2<(v14.length:Int)))) (
   cond (decide ((Int.toNat v2)<v14.length)) (
    cond (decide ((rd aS v14 (Int.toNat v2)).2≤v6)) (
     cond ((decide (((v16.length+1) * 16)≤140737488355328))&&(decide ((v16.length+1)≤9223372036854775807))) (
      some (R3.next (((),(),(),(),(),(),v1,(IntKind.wrap .i64 (v2+1)),()),((v3,v4,()),(v5,(),()),(v6,(),(),(),(),(),(),(),(),()),v7,v8,v9,v10,v11,v12,v13,v14,v15,()),(v16++[((rd aS v14 (Int.toNat v2)).1,(rd aS v14 (Int.toNat v2)).2)]),v17,v18,v19,v20,v21,v22,v23,()))) (
      none)) (
     cond ((decide (((v17.length+1) * 16)≤140737488355328))&&(decide ((v17.length+1)≤9223372036854775807))) (
      some (R3.next (((),(),(),(),(),(),v1,(IntKind.wrap .i64 (v2+1)),()),((v3,v4,()),(v5,(),()),(v6,(),(),(),(),(),(),(),(),()),v7,v8,v9,v10,v11,v12,v13,v14,v15,()),v16,(v17++[((rd aS v14 (Int.toNat v2)).1,(rd aS v14 (Int.toNat v2)).2)]),v18,v19,v20,v21,v22,v23,()))) (
      none))) (
    none)) (
   none)) (
  some (R3.out (((),(),(),(),(),()),((v3,v4,()),(v5,(),()),(v6,(),(),(),(),(),(),(),(),()),v7,v8,v9,v10,v11,v12,v13,v14,v15,()),v16,v17,v18,v19,v20,v21,v22,v23,())))
noncomputable def fq (z:mK):Option (R3 mK vv vH):=nP z.1.2.2.2.2.2.2.1 z.1.2.2.2.2.2.2.2.1 z.2.1.1.1 z.2.1.1.2.1 z.2.1.2.1.1 z.2.1.2.2.1.1 z.2.1.2.2.2.1 z.2.1.2.2.2.2.1 z.2.1.2.2.2.2.2.1 z.2.1.2.2.2.2.2.2.1 z.2.1.2.2.2.2.2.2.2.1 z.2.1.2.2.2.2.2.2.2.2.1 z.2.1.2.2.2.2.2.2.2.2.2.1 z.2.1.2.2.2.2.2.2.2.2.2.2.1 z.2.1.2.2.2.2.2.2.2.2.2.2.2.1 z.2.2.1 z.2.2.2.1 z.2.2.2.2.1 z.2.2.2.2.2.1 z.2.2.2.2.2.2.1 z.2.2.2.2.2.2.2.1 z.2.2.2.2.2.2.2.2.1 z.2.2.2.2.2.2.2.2.2.1
abbrev oe:Type:=xD×Kq×au×au×au×au×au×au×au×au×au×Unit
abbrev wP:Type:=iK×Kq×au×au×au×au×au×au×au×au×au×Unit
abbrev wA:Type:=Unit×Fv×Unit
noncomputable def mU (v1 v2 v3:Int)(v4:au)(v5 v6:Int)(v7 v8 v9 v10 v11 v12 v13 v14 v15 v16 v17 v18 v19 v20 v21 v22 v23 v24:au):Option (R3 oe wP wA):=
 cond (decide (v2<v1)) (
  cond ((decide (0≤v2))&&(decide (v2<(v15.length:Int)))) (
   cond (decide ((Int.toNat v2)<v15.length)) (
    cond (decide ((rd aS v15 (Int.toNat v2)).2≤v6)) (
     cond ((decide (((v16.length+1) * 16)≤140737488355328))&&(decide ((v16.length+1)≤9223372036854775807))) (
      some (R3.next (((),(),(),(),(),(),v1,(IntKind.wrap .i64 (v2+1)),()),((v3,v4,()),(v5,(),()),(v6,(),(),(),(),(),(),(),(),()),v7,v8,v9,v10,v11,v12,v13,v14,v15,()),(v16++[((rd aS v15 (Int.toNat v2)).1,(rd aS v15 (Int.toNat v2)).2)]),v17,v18,v19,v20,v21,v22,v23,v24,()))) (
      none)) (
     cond ((decide (((v17.length+1) * 16)≤140737488355328))&&(decide ((v17.length+1)≤9223372036854775807))) (
      some (R3.next (((),(),(),(),(),(),v1,(IntKind.wrap .i64 (v2+1)),()),((v3,v4,()),(v5,(),()),(v6,(),(),(),(),(),(),(),(),()),v7,v8,v9,v10,v11,v12,v13,v14,v15,()),v16,(v17++[((rd aS v15 (Int.toNat v2)).1,(rd aS v15 (Int.toNat v2)).2)]),v18,v19,v20,v21,v22,v23,v24,()))) (
      none))) (
    none)) (
   none)) (
  some (R3.out (((),(),(),(),(),()),((v3,v4,()),(v5,(),()),(v6,(),(),(),(),(),(),(),(),()),v7,v8,v9,v10,v11,v12,v13,v14,v15,()),v16,v17,v18,v19,v20,v21,v22,v23,v24,())))
noncomputable def fm (z:oe):Option (R3 oe wP wA):=mU z.1.2.2.2.2.2.2.1 z.1.2.2.2.2.2.2.2.1 z.2.1.1.1 z.2.1.1.2.1 z.2.1.2.1.1 z.2.1.2.2.1.1 z.2.1.2.2.2.1 z.2.1.2.2.2.2.1 z.2.1.2.2.2.2.2.1 z.2.1.2.2.2.2.2.2.1 z.2.1.2.2.2.2.2.2.2.1 z.2.1.2.2.2.2.2.2.2.2.1 z.2.1.2.2.2.2.2.2.2.2.2.1 z.2.1.2.2.2.2.2.2.2.2.2.2.1 z.2.1.2.2.2.2.2.2.2.2.2.2.2.1 z.2.2.1 z.2.2.2.1 z.2.2.2.2.1 z.2.2.2.2.2.1 z.2.2.2.2.2.2.1 z.2.2.2.2.2.2.2.1 z.2.2.2.2.2.2.2.2.1 z.2.2.2.2.2.2.2.2.2.1 z.2.2.2.2.2.2.2.2.2.2.1
abbrev nU:Type:=xD×Ks×au×au×au×Unit
abbrev vZ:Type:=iK×Ks×au×au×au×Unit
abbrev w8:Type:=Unit×Za×Unit
noncomputable def oQ (v1 v2 v3:Int)(v4:au)(v5 v6:Int)(v7 v8 v9 v10 v11 v12 v13 v14 v15 v16 v17 v18 v19 v20 v21 v22 v23 v24:au)(v25:Int)(v26 v27 v28:au):Option (R3 nU vZ w8):=
 cond (decide (v2<v1)) (
  cond ((decide (0≤v2))&&(decide (v2<(v18.length:Int)))) (
   cond (decide ((Int.toNat v2)<v18.length)) (
    ((f136 (rd aS v18 (Int.toNat v2)).1 (rd aS v18 (Int.toNat v2)).2)).bind fun y29=>
    cond y29.1 (
     cond ((decide (((v26.length+1) * 16)≤140737488355328))&&(decide ((v26.length+1)≤9223372036854775807))) (
      some (R3.next (((),(),(),(),(),(),v1,(IntKind.wrap .i64 (v2+1)),()),((v3,v4,()),(v5,(),()),(v6,(),(),(),(),(),(),(),(),()),v7,v8,v9,v10,v11,v12,v13,v14,v15,v16,v17,v18,v19,v20,v21,v22,v23,v24,(v25,(),()),()),(v26++[((rd aS v18 (Int.toNat v2)).1,(rd aS v18 (Int.toNat v2)).2)]),v27,v28,()))) (
      none)) (
     cond ((decide (((v27.length+1) * 16)≤140737488355328))&&(decide ((v27.length+1)≤9223372036854775807))) (
      some (R3.next (((),(),(),(),(),(),v1,(IntKind.wrap .i64 (v2+1)),()),((v3,v4,()),(v5,(),()),(v6,(),(),(),(),(),(),(),(),()),v7,v8,v9,v10,v11,v12,v13,v14,v15,v16,v17,v18,v19,v20,v21,v22,v23,v24,(v25,(),()),()),v26,(v27++[((rd aS v18 (Int.toNat v2)).1,(rd aS v18 (Int.toNat v2)).2)]),v28,()))) (
      none))) (
    none)) (
   none)) (
  some (R3.out (((),(),(),(),(),()),((v3,v4,()),(v5,(),()),(v6,(),(),(),(),(),(),(),(),()),v7,v8,v9,v10,v11,v12,v13,v14,v15,v16,v17,v18,v19,v20,v21,v22,v23,v24,(v25,(),()),()),v26,v27,v28,())))
noncomputable def eS (z:nU):Option (R3 nU vZ w8):=oQ z.1.2.2.2.2.2.2.1 z.1.2.2.2.2.2.2.2.1 z.2.1.1.1 z.2.1.1.2.1 z.2.1.2.1.1 z.2.1.2.2.1.1 z.2.1.2.2.2.1 z.2.1.2.2.2.2.1 z.2.1.2.2.2.2.2.1 z.2.1.2.2.2.2.2.2.1 z.2.1.2.2.2.2.2.2.2.1 z.2.1.2.2.2.2.2.2.2.2.1 z.2.1.2.2.2.2.2.2.2.2.2.1 z.2.1.2.2.2.2.2.2.2.2.2.2.1 z.2.1.2.2.2.2.2.2.2.2.2.2.2.1 z.2.1.2.2.2.2.2.2.2.2.2.2.2.2.1 z.2.1.2.2.2.2.2.2.2.2.2.2.2.2.2.1 z.2.1.2.2.2.2.2.2.2.2.2.2.2.2.2.2.1 z.2.1.2.2.2.2.2.2.2.2.2.2.2.2.2.2.2.1 z.2.1.2.2.2.2.2.2.2.2.2.2.2.2.2.2.2.2.1 z.2.1.2.2.2.2.2.2.2.2.2.2.2.2.2.2.2.2.2.1 z.2.1.2.2.2.2.2.2.2.2.2.2.2.2.2.2.2.2.2.2.1 z.2.1.2.2.2.2.2.2.2.2.2.2.2.2.2.2.2.2.2.2.2.1 z.2.1.2.2.2.2.2.2.2.2.2.2.2.2.2.2.2.2.2.2.2.2.1 z.2.1.2.2.2.2.2.2.2.2.2.2.2.2.2.2.2.2.2.2.2.2.2.1.1 z.2.2.1 z.2.2.2.1 z.2.2.2.2.1
abbrev og:Type:=xD×Ks×au×au×au×au×Unit
abbrev wL:Type:=iK×Ks×au×au×au×au×Unit
abbrev vR:Type:=Unit×Za×Unit
noncomputable def nZ (v1 v2 v3:Int)(v4:au)(v5 v6:Int)(v7 v8 v9 v10 v11 v12 v13 v14 v15 v16 v17 v18 v19 v20 v21 v22 v23 v24:au)(v25:Int)(v26 v27 v28 v29:au):Option (R3 og wL vR):=
 cond (decide (v2<v1)) (
  cond ((decide (0≤v2))&&(decide (v2<(v19.length:Int)))) (
   cond (decide ((Int.toNat v2)<v19.length)) (
    ((f136 (rd aS v19 (Int.toNat v2)).1 (rd aS v19 (Int.toNat v2)).2)).bind fun y30=>
    cond y30.1 (
     cond ((decide (((v26.length+1) * 16)≤140737488355328))&&(decide ((v26.length+1)≤9223372036854775807))) (
      some (R3.next (((),(),(),(),(),(),v1,(IntKind.wrap .i64 (v2+1)),()),((v3,v4,()),(v5,(),()),(v6,(),(),(),(),(),(),(),(),()),v7,v8,v9,v10,v11,v12,v13,v14,v15,v16,v17,v18,v19,v20,v21,v22,v23,v24,(v25,(),()),()),(v26++[((rd aS v19 (Int.toNat v2)).1,(rd aS v19 (Int.toNat v2)).2)]),v27,v28,v29,()))) (
      none)) (
     cond ((decide (((v27.length+1) * 16)≤140737488355328))&&(decide ((v27.length+1)≤9223372036854775807))) (
      some (R3.next (((),(),(),(),(),(),v1,(IntKind.wrap .i64 (v2+1)),()),((v3,v4,()),(v5,(),()),(v6,(),(),(),(),(),(),(),(),()),v7,v8,v9,v10,v11,v12,v13,v14,v15,v16,v17,v18,v19,v20,v21,v22,v23,v24,(v25,(),()),()),v26,(v27++[((rd aS v19 (Int.toNat v2)).1,(rd aS v19 (Int.toNat v2)).2)]),v28,v29,()))) (
      none))) (
    none)) (
   none)) (
  some (R3.out (((),(),(),(),(),()),((v3,v4,()),(v5,(),()),(v6,(),(),(),(),(),(),(),(),()),v7,v8,v9,v10,v11,v12,v13,v14,v15,v16,v17,v18,v19,v20,v21,v22,v23,v24,(v25,(),()),()),v26,v27,v28,v29,())))
noncomputable def fA (z:og):Option (R3 og wL vR):=nZ z.1.2.2.2.2.2.2.1 z.1.2.2.2.2.2.2.2.1 z.2.1.1.1 z.2.1.1.2.1 z.2.1.2.1.1 z.2.1.2.2.1.1 z.2.1.2.2.2.1 z.2.1.2.2.2.2.1 z.2.1.2.2.2.2.2.1 z.2.1.2.2.2.2.2.2.1 z.2.1.2.2.2.2.2.2.2.1 z.2.1.2.2.2.2.2.2.2.2.1 z.2.1.2.2.2.2.2.2.2.2.2.1 z.2.1.2.2.2.2.2.2.2.2.2.2.1 z.2.1.2.2.2.2.2.2.2.2.2.2.2.1 z.2.1.2.2.2.2.2.2.2.2.2.2.2.2.1 z.2.1.2.2.2.2.2.2.2.2.2.2.2.2.2.1 z.2.1.2.2.2.2.2.2.2.2.2.2.2.2.2.2.1 z.2.1.2.2.2.2.2.2.2.2.2.2.2.2.2.2.2.1 z.2.1.2.2.2.2.2.2.2.2.2.2.2.2.2.2.2.2.1 z.2.1.2.2.2.2.2.2.2.2.2.2.2.2.2.2.2.2.2.1 z.2.1.2.2.2.2.2.2.2.2.2.2.2.2.2.2.2.2.2.2.1 z.2.1.2.2.2.2.2.2.2.2.2.2.2.2.2.2.2.2.2.2.2.1 z.2.1.2.2.2.2.2.2.2.2.2.2.2.2.2.2.2.2.2.2.2.2.1 z.2.1.2.2.2.2.2.2.2.2.2.2.2.2.2.2.2.2.2.2.2.2.2.1.1 z.2.2.1 z.2.2.2.1 z.2.2.2.2.1 z.2.2.2.2.2.1
abbrev mv:Type:=xD×Ks×au×au×au×au×au×Unit
abbrev rX:Type:=iK×Ks×au×au×au×au×au×Unit
abbrev tY:Type:=Unit×Za×Unit
noncomputable def lR (v1 v2 v3:Int)(v4:au)(v5 v6:Int)(v7 v8 v9 v10 v11 v12 v13 v14 v15 v16 v17 v18 v19 v20 v21 v22 v23 v24:au)(v25:Int)(v26 v27 v28 v29 v30:au):Option (R3 mv rX tY):=
 cond (decide (v2<v1)) (
  cond ((decide (0≤v2))&&(decide (v2<(v20.length:Int)))) (
   cond (decide ((Int.toNat v2)<v20.length)) (
    ((f136 (rd aS v20 (Int.toNat v2)).1 (rd aS v20 (Int.toNat v2)).2)).bind fun y31=>
    cond y31.1 (
     cond ((decide (((v26.length+1) * 16)≤140737488355328))&&(decide ((v26.length+1)≤9223372036854775807))) (
      some (R3.next (((),(),(),(),(),(),v1,(IntKind.wrap .i64 (v2+1)),()),((v3,v4,()),(v5,(),()),(v6,(),(),(),(),(),(),(),(),()),v7,v8,v9,v10,v11,v12,v13,v14,v15,v16,v17,v18,v19,v20,v21,v22,v23,v24,(v25,(),()),()),(v26++[((rd aS v20 (Int.toNat v2)).1,(rd aS v20 (Int.toNat v2)).2)]),v27,v28,v29,v30,()))) (
      none)) (
     cond ((decide (((v27.length+1) * 16)≤140737488355328))&&(decide ((v27.length+1)≤9223372036854775807))) (
      some (R3.next (((),(),(),(),(),(),v1,(IntKind.wrap .i64 (v2+1)),()),((v3,v4,()),(v5,(),()),(v6,(),(),(),(),(),(),(),(),()),v7,v8,v9,v10,v11,v12,v13,v14,v15,v16,v17,v18,v19,v20,v21,v22,v23,v24,(v25,(),()),()),v26,(v27++[((rd aS v20 (Int.toNat v2)).1,(rd aS v20 (Int.toNat v2)).2)]),v28,v29,v30,()))) (
      none))) (
    none)) (
   none)) (
  some (R3.out (((),(),(),(),(),()),((v3,v4,()),(v5,(),()),(v6,(),(),(),(),(),(),(),(),()),v7,v8,v9,v10,v11,v12,v13,v14,v15,v16,v17,v18,v19,v20,v21,v22,v23,v24,(v25,(),()),()),v26,v27,v28,v29,v30,())))
noncomputable def dL (z:mv):Option (R3 mv rX tY):=lR z.1.2.2.2.2.2.2.1 z.1.2.2.2.2.2.2.2.1 z.2.1.1.1 z.2.1.1.2.1 z.2.1.2.1.1 z.2.1.2.2.1.1 z.2.1.2.2.2.1 z.2.1.2.2.2.2.1 z.2.1.2.2.2.2.2.1 z.2.1.2.2.2.2.2.2.1 z.2.1.2.2.2.2.2.2.2.1 z.2.1.2.2.2.2.2.2.2.2.1 z.2.1.2.2.2.2.2.2.2.2.2.1 z.2.1.2.2.2.2.2.2.2.2.2.2.1 z.2.1.2.2.2.2.2.2.2.2.2.2.2.1 z.2.1.2.2.2.2.2.2.2.2.2.2.2.2.1 z.2.1.2.2.2.2.2.2.2.2.2.2.2.2.2.1 z.2.1.2.2.2.2.2.2.2.2.2.2.2.2.2.2.1 z.2.1.2.2.2.2.2.2.2.2.2.2.2.2.2.2.2.1 z.2.1.2.2.2.2.2.2.2.2.2.2.2.2.2.2.2.2.1 z.2.1.2.2.2.2.2.2.2.2.2.2.2.2.2.2.2.2.2.1 z.2.1.2.2.2.2.2.2.2.2.2.2.2.2.2.2.2.2.2.2.1 z.2.1.2.2.2.2.2.2.2.2.2.2.2.2.2.2.2.2.2.2.2.1 z.2.1.2.2.2.2.2.2.2.2.2.2.2.2.2.2.2.2.2.2.2.2.1 z.2.1.2.2.2.2.2.2.2.2.2.2.2.2.2.2.2.2.2.2.2.2.2.1.1 z.2.2.1 z.2.2.2.1 z.2.2.2.2.1 z.2.2.2.2.2.1 z.2.2.2.2.2.2.1
abbrev lG:Type:=xD×Ks×au×au×au×au×au×au×Unit
abbrev sW:Type:=iK×Ks×au×au×au×au×au×au×Unit
abbrev th:Type:=Unit×Za×Unit
noncomputable def mg (v1 v2 v3:Int)(v4:au)(v5 v6:Int)(v7 v8 v9 v10 v11 v12 v13 v14 v15 v16 v17 v18 v19 v20 v21 v22 v23 v24:au)(v25:Int)(v26 v27 v28 v29 v30 v31:au):Option (R3 lG sW th):=
 cond (decide (v2<v1)) (
  cond ((decide (0≤v2))&&(decide (v2<(v21.length:Int)))) (
   cond (decide ((Int.toNat v2)<v21.length)) (
    ((f136 (rd aS v21 (Int.toNat v2)).1 (rd aS v21 (Int.toNat v2)).2)).bind fun y32=>
    cond y32.1 (
     cond ((decide (((v26.length+1) * 16)≤140737488355328))&&(decide ((v26.length+1)≤9223372036854775807))) (
      some (R3.next (((),(),(),(),(),(),v1,(IntKind.wrap .i64 (v2+1)),()),((v3,v4,()),(v5,(),()),(v6,(),(),(),(),(),(),(),(),()),v7,v8,v9,v10,v11,v12,v13,v14,v15,v16,v17,v18,v19,v20,v21,v22,v23,v24,(v25,(),()),()),(v26++[((rd aS v21 (Int.toNat v2)).1,(rd aS v21 (Int.toNat v2)).2)]),v27,v28,v29,v30,v31,()))) (
      none)) (
     cond ((decide (((v27.length+1) * 16)≤140737488355328))&&(decide ((v27.length+1)≤9223372036854775807))) (
      some (R3.next (((),(),(),(),(),(),v1,(IntKind.wrap .i64 (v2+1)),()),((v3,v4,()),(v5,(),()),(v6,(),(),(),(),(),(),(),(),()),v7,v8,v9,v10,v11,v12,v13,v14,v15,v16,v17,v18,v19,v20,v21,v22,v23,v24,(v25,(),()),()),v26,(v27++[((rd aS v21 (Int.toNat v2)).1,(rd aS v21 (Int.toNat v2)).2)]),v28,v29,v30,v31,()))) (
      none))) (
    none)) (
   none)) (
  some (R3.out (((),(),(),(),(),()),((v3,v4,()),(v5,(),()),(v6,(),(),(),(),(),(),(),(),()),v7,v8,v9,v10,v11,v12,v13,v14,v15,v16,v17,v18,v19,v20,v21,v22,v23,v24,(v25,(),()),()),v26,v27,v28,v29,v30,v31,())))
noncomputable def dW (z:lG):Option (R3 lG sW th):=mg z.1.2.2.2.2.2.2.1 z.1.2.2.2.2.2.2.2.1 z.2.1.1.1 z.2.1.1.2.1 z.2.1.2.1.1 z.2.1.2.2.1.1 z.2.1.2.2.2.1 z.2.1.2.2.2.2.1 z.2.1.2.2.2.2.2.1 z.2.1.2.2.2.2.2.2.1 z.2.1.2.2.2.2.2.2.2.1 z.2.1.2.2.2.2.2.2.2.2.1 z.2.1.2.2.2.2.2.2.2.2.2.1 z.2.1.2.2.2.2.2.2.2.2.2.2.1 z.2.1.2.2.2.2.2.2.2.2.2.2.2.1 z.2.1.2.2.2.2.2.2.2.2.2.2.2.2.1 z.2.1.2.2.2.2.2.2.2.2.2.2.2.2.2.1 z.2.1.2.2.2.2.2.2.2.2.2.2.2.2.2.2.1 z.2.1.2.2.2.2.2.2.2.2.2.2.2.2.2.2.2.1 z.2.1.2.2.2.2.2.2.2.2.2.2.2.2.2.2.2.2.1 z.2.1.2.2.2.2.2.2.2.2.2.2.2.2.2.2.2.2.2.1 z.2.1.2.2.2.2.2.2.2.2.2.2.2.2.2.2.2.2.2.2.1 z.2.1.2.2.2.2.2.2.2.2.2.2.2.2.2.2.2.2.2.2.2.1 z.2.1.2.2.2.2.2.2.2.2.2.2.2.2.2.2.2.2.2.2.2.2.1 z.2.1.2.2.2.2.2.2.2.2.2.2.2.2.2.2.2.2.2.2.2.2.2.1.1 z.2.2.1 z.2.2.2.1 z.2.2.2.2.1 z.2.2.2.2.2.1 z.2.2.2.2.2.2.1 z.2.2.2.2.2.2.2.1
abbrev lE:Type:=xD×Ks×au×au×au×au×au×au×au×Unit
abbrev sA:Type:=iK×Ks×au×au×au×au×au×au×au×Unit
abbrev s4:Type:=Unit×Za×Unit
noncomputable def lV (v1 v2 v3:Int)(v4:au)(v5 v6:Int)(v7 v8 v9 v10 v11 v12 v13 v14 v15 v16 v17 v18 v19 v20 v21 v22 v23 v24:au)(v25:Int)(v26 v27 v28 v29 v30 v31 v32:au):Option (R3 lE sA s4):=
 cond (decide (v2<v1)) (
  cond ((decide (0≤v2))&&(decide (v2<(v22.length:Int)))) (
   cond (decide ((Int.toNat v2)<v22.length)) (
    ((f136 (rd aS v22 (Int.toNat v2)).1 (rd aS v22 (Int.toNat v2)).2)).bind fun y33=>
    cond y33.1 (
     cond ((decide (((v26.length+1) * 16)≤140737488355328))&&(decide ((v26.length+1)≤9223372036854775807))) (
      some (R3.next (((),(),(),(),(),(),v1,(IntKind.wrap .i64 (v2+1)),()),((v3,v4,()),(v5,(),()),(v6,(),(),(),(),(),(),(),(),()),v7,v8,v9,v10,v11,v12,v13,v14,v15,v16,v17,v18,v19,v20,v21,v22,v23,v24,(v25,(),()),()),(v26++[((rd aS v22 (Int.toNat v2)).1,(rd aS v22 (Int.toNat v2)).2)]),v27,v28,v29,v30,v31,v32,()))) (
      none)) (
     cond ((decide (((v27.length+1) * 16)≤140737488355328))&&(decide ((v27.length+1)≤9223372036854775807))) (
      some (R3.next (((),(),(),(),(),(),v1,(IntKind.wrap .i64 (v2+1)),()),((v3,v4,()),(v5,(),()),(v6,(),(),(),(),(),(),(),(),()),v7,v8,v9,v10,v11,v12,v13,v14,v15,v16,v17,v18,v19,v20,v21,v22,v23,v24,(v25,(),()),()),v26,(v27++[((rd aS v22 (Int.toNat v2)).1,(rd aS v22 (Int.toNat v2)).2)]),v28,v29,v30,v31,v32,()))) (
      none))) (
    none)) (
   none)) (
  some (R3.out (((),(),(),(),(),()),((v3,v4,()),(v5,(),()),(v6,(),(),(),(),(),(),(),(),()),v7,v8,v9,v10,v11,v12,v13,v14,v15,v16,v17,v18,v19,v20,v21,v22,v23,v24,(v25,(),()),()),v26,v27,v28,v29,v30,v31,v32,())))
noncomputable def dP (z:lE):Option (R3 lE sA s4):=lV z.1.2.2.2.2.2.2.1 z.1.2.2.2.2.2.2.2.1 z.2.1.1.1 z.2.1.1.2.1 z.2.1.2.1.1 z.2.1.2.2.1.1 z.2.1.2.2.2.1 z.2.1.2.2.2.2.1 z.2.1.2.2.2.2.2.1 z.2.1.2.2.2.2.2.2.1 z.2.1.2.2.2.2.2.2.2.1 z.2.1.2.2.2.2.2.2.2.2.1 z.2.1.2.2.2.2.2.2.2.2.2.1 z.2.1.2.2.2.2.2.2.2.2.2.2.1 z.2.1.2.2.2.2.2.2.2.2.2.2.2.1 z.2.1.2.2.2.2.2.2.2.2.2.2.2.2.1 z.2.1.2.2.2.2.2.2.2.2.2.2.2.2.2.1 z.2.1.2.2.2.2.2.2.2.2.2.2.2.2.2.2.1 z.2.1.2.2.2.2.2.2.2.2.2.2.2.2.2.2.2.1 z.2.1.2.2.2.2.2.2.2.2.2.2.2.2.2.2.2.2.1 z.2.1.2.2.2.2.2.2.2.2.2.2.2.2.2.2.2.2.2.1 z.2.1.2.2.2.2.2.2.2.2.2.2.2.2.2.2.2.2.2.2.1 z.2.1.2.2.2.2.2.2.2.2.2.2.2.2.2.2.2.2.2.2.2.1 z.2.1.2.2.2.2.2.2.2.2.2.2.2.2.2.2.2.2.2.2.2.2.1 z.2.1.2.2.2.2.2.2.2.2.2.2.2.2.2.2.2.2.2.2.2.2.2.1.1 z.2.2.1 z.2.2.2.1 z.2.2.2.2.1 z.2.2.2.2.2.1 z.2.2.2.2.2.2.1 z.2.2.2.2.2.2.2.1 z.2.2.2.2.2.2.2.2.1
abbrev lz:Type:=xD×Ks×au×au×au×au×au×au×au×au×Unit
abbrev s6:Type:=iK×Ks×au×au×au×au×au×au×au×au×Unit
abbrev s7:Type:=Unit×Za×Unit
noncomputable def kV (v1 v2 v3:Int)(v4:au)(v5 v6:Int)(v7 v8 v9 v10 v11 v12 v13 v14 v15 v16 v17 v18 v19 v20 v21 v22 v23 v24:au)(v25:Int)(v26 v27 v28 v29 v30 v31 v32 v33:au):Option (R3 lz s6 s7):=
 cond (decide (v2<v1)) (
  cond ((decide (0≤v2))&&(decide (v2<(v23.length:Int)))) (
   cond (decide ((Int.toNat v2)<v23.length)) (
    ((f136 (rd aS v23 (Int.toNat v2)).1 (rd aS v23 (Int.toNat v2)).2)).bind fun y34=>
    cond y34.1 (
     cond ((decide (((v26.length+1) * 16)≤140737488355328))&&(decide ((v26.length+1)≤9223372036854775807))) (
      some (R3.next (((),(),(),(),(),(),v1,(IntKind.wrap .i64 (v2+1)),()),((v3,v4,()),(v5,(),()),(v6,(),(),(),(),(),(),(),(),()),v7,v8,v9,v10,v11,v12,v13,v14,v15,v16,v17,v18,v19,v20,v21,v22,v23,v24,(v25,(),()),()),(v26++[((rd aS v23 (Int.toNat v2)).1,(rd aS v23 (Int.toNat v2)).2)]),v27,v28,v29,v30,v31,v32,v33,()))) (
      none)) (
     cond ((decide (((v27.length+1) * 16)≤140737488355328))&&(decide ((v27.length+1)≤9223372036854775807))) (
      some (R3.next (((),(),(),(),(),(),v1,(IntKind.wrap .i64 (v2+1)),()),((v3,v4,()),(v5,(),()),(v6,(),(),(),(),(),(),(),(),()),v7,v8,v9,v10,v11,v12,v13,v14,v15,v16,v17,v18,v19,v20,v21,v22,v23,v24,(v25,(),()),()),v26,(v27++[((rd aS v23 (Int.toNat v2)).1,(rd aS v23 (Int.toNat v2)).2)]),v28,v29,v30,v31,v32,v33,()))) (
      none))) (
    none)) (
   none)) (
  some (R3.out (((),(),(),(),(),()),((v3,v4,()),(v5,(),()),(v6,(),(),(),(),(),(),(),(),()),v7,v8,v9,v10,v11,v12,v13,v14,v15,v16,v17,v18,v19,v20,v21,v22,v23,v24,(v25,(),()),()),v26,v27,v28,v29,v30,v31,v32,v33,())))
noncomputable def dN (z:lz):Option (R3 lz s6 s7):=kV z.1.2.2.2.2.2.2.1 z.1.2.2.2.2.2.2.2.1 z.2.1.1.1 z.2.1.1.2.1 z.2.1.2.1.1 z.2.1.2.2.1.1 z.2.1.2.2.2.1 z.2.1.2.2.2.2.1 z.2.1.2.2.2.2.2.1 z.2.1.2.2.2.2.2.2.1 z.2.1.2.2.2.2.2.2.2.1 z.2.1.2.2.2.2.2.2.2.2.1 z.2.1.2.2.2.2.2.2.2.2.2.1 z.2.1.2.2.2.2.2.2.2.2.2.2.1 z.2.1.2.2.2.2.2.2.2.2.2.2.2.1 z.2.1.2.2.2.2.2.2.2.2.2.2.2.2.1 z.2.1.2.2.2.2.2.2.2.2.2.2.2.2.2.1 z.2.1.2.2.2.2.2.2.2.2.2.2.2.2.2.2.1 z.2.1.2.2.2.2.2.2.2.2.2.2.2.2.2.2.2.1 z.2.1.2.2.2.2.2.2.2.2.2.2.2.2.2.2.2.2.1 z.2.1.2.2.2.2.2.2.2.2.2.2.2.2.2.2.2.2.2.1 z.2.1.2.2.2.2.2.2.2.2.2.2.2.2.2.2.2.2.2.2.1 z.2.1.2.2.2.2.2.2.2.2.2.2.2.2.2.2.2.2.2.2.2.1 z.2.1.2.2.2.2.2.2.2.2.2.2.2.2.2.2.2.2.2.2.2.2.1 z.2.1.2.2.2.2.2.2.2.2.2.2.2.2.2.2.2.2.2.2.2.2.2.1.1 z.2.2.1 z.2.2.2.1 z.2.2.2.2.1 z.2.2.2.2.2.1 z.2.2.2.2.2.2.1 z.2.2.2.2.2.2.2.1 z.2.2.2.2.2.2.2.2.1 z.2.2.2.2.2.2.2.2.2.1
abbrev kX:Type:=xD×Ks×au×au×au×au×au×au×au×au×au×Unit
abbrev tU:Type:=iK×Ks×au×au×au×au×au×au×au×au×au×Unit
abbrev tq:Type:=Unit×Za×Unit
noncomputable def lu (v1 v2 v3:Int)(v4:au)(v5 v6:Int)(v7 v8 v9 v10 v11 v12 v13 v14 v15 v16 v17 v18 v19 v20 v21 v22 v23 v24:au)(v25:Int)(v26 v27 v28 v29 v30 v31 v32 v33 v34:au):Option (R3 kX tU tq):=
 cond (decide (v2<v1)) (
  cond ((decide (0≤v2))&&(decide (v2<(v24.length:Int)))) (
   cond (decide ((Int.toNat v2)<v24.length)) (
    ((f136 (rd aS v24 (Int.toNat v2)).1 (rd aS v24 (Int.toNat v2)).2)).bind fun y35=>
    cond y35.1 (
     cond ((decide (((v26.length+1) * 16)≤140737488355328))&&(decide ((v26.length+1)≤9223372036854775807))) (
      some (R3.next (((),(),(),(),(),(),v1,(IntKind.wrap .i64 (v2+1)),()),((v3,v4,()),(v5,(),()),(v6,(),(),(),(),(),(),(),(),()),v7,v8,v9,v10,v11,v12,v13,v14,v15,v16,v17,v18,v19,v20,v21,v22,v23,v24,(v25,(),()),()),(v26++[((rd aS v24 (Int.toNat v2)).1,(rd aS v24 (Int.toNat v2)).2)]),v27,v28,v29,v30,v31,v32,v33,v34,()))) (
      none)) (
     cond ((decide (((v27.length+1) * 16)≤140737488355328))&&(decide ((v27.length+1)≤9223372036854775807))) (
      some (R3.next (((),(),(),(),(),(),v1,(IntKind.wrap .i64 (v2+1)),()),((v3,v4,()),(v5,(),()),(v6,(),(),(),(),(),(),(),(),()),v7,v8,v9,v10,v11,v12,v13,v14,v15,v16,v17,v18,v19,v20,v21,v22,v23,v24,(v25,(),()),()),v26,(v27++[((rd aS v24 (Int.toNat v2)).1,(rd aS v24 (Int.toNat v2)).2)]),v28,v29,v30,v31,v32,v33,v34,()))) (
      none))) (
    none)) (
   none)) (
  some (R3.out (((),(),(),(),(),()),((v3,v4,()),(v5,(),()),(v6,(),(),(),(),(),(),(),(),()),v7,v8,v9,v10,v11,v12,v13,v14,v15,v16,v17,v18,v19,v20,v21,v22,v23,v24,(v25,(),()),()),v26,v27,v28,v29,v30,v31,v32,v33,v34,())))
noncomputable def dM (z:kX):Option (R3 kX tU tq):=lu z.1.2.2.2.2.2.2.1 z.1.2.2.2.2.2.2.2.1 z.2.1.1.1 z.2.1.1.2.1 z.2.1.2.1.1 z.2.1.2.2.1.1 z.2.1.2.2.2.1 z.2.1.2.2.2.2.1 z.2.1.2.2.2.2.2.1 z.2.1.2.2.2.2.2.2.1 z.2.1.2.2.2.2.2.2.2.1 z.2.1.2.2.2.2.2.2.2.2.1 z.2.1.2.2.2.2.2.2.2.2.2.1 z.2.1.2.2.2.2.2.2.2.2.2.2.1 z.2.1.2.2.2.2.2.2.2.2.2.2.2.1 z.2.1.2.2.2.2.2.2.2.2.2.2.2.2.1 z.2.1.2.2.2.2.2.2.2.2.2.2.2.2.2.1 z.2.1.2.2.2.2.2.2.2.2.2.2.2.2.2.2.1 z.2.1.2.2.2.2.2.2.2.2.2.2.2.2.2.2.2.1 z.2.1.2.2.2.2.2.2.2.2.2.2.2.2.2.2.2.2.1 z.2.1.2.2.2.2.2.2.2.2.2.2.2.2.2.2.2.2.2.1 z.2.1.2.2.2.2.2.2.2.2.2.2.2.2.2.2.2.2.2.2.1 z.2.1.2.2.2.2.2.2.2.2.2.2.2.2.2.2.2.2.2.2.2.1 z.2.1.2.2.2.2.2.2.2.2.2.2.2.2.2.2.2.2.2.2.2.2.1 z.2.1.2.2.2.2.2.2.2.2.2.2.2.2.2.2.2.2.2.2.2.2.2.1.1 z.2.2.1 z.2.2.2.1 z.2.2.2.2.1 z.2.2.2.2.2.1 z.2.2.2.2.2.2.1 z.2.2.2.2.2.2.2.1 z.2.2.2.2.2.2.2.2.1 z.2.2.2.2.2.2.2.2.2.1 z.2.2.2.2.2.2.2.2.2.2.1
abbrev kZ:Type:=xD×Ks×au×au×au×au×au×au×au×au×au×au×Unit
abbrev sF:Type:=iK×Ks×au×au×au×au×au×au×au×au×au×au×Unit
abbrev sR:Type:=Unit×Za×Unit
noncomputable def mj (v1 v2 v3:Int)(v4:au)(v5 v6:Int)(v7 v8 v9 v10 v11 v12 v13 v14 v15 v16 v17 v18 v19 v20 v21 v22 v23 v24:au)(v25:Int)(v26 v27 v28 v29 v30 v31 v32 v33 v34 v35:au):Option (R3 kZ sF sR):=
 cond (decide (v2<v1)) (
  cond ((decide (0≤v2))&&(decide (v2<(v17.length:Int)))) (
   cond (decide ((Int.toNat v2)<v17.length)) (
    ((f136 (rd aS v17 (Int.toNat v2)).1 (rd aS v17 (Int.toNat v2)).2)).bind fun y36=>
    cond y36.1 (
     cond ((decide (((v26.length+1) * 16)≤140737488355328))&&(decide ((v26.length+1)≤9223372036854775807))) (
      some (R3.next (((),(),(),(),(),(),v1,(IntKind.wrap .i64 (v2+1)),()),((v3,v4,()),(v5,(),()),(v6,(),(),(),(),(),(),(),(),()),v7,v8,v9,v10,v11,v12,v13,v14,v15,v16,v17,v18,v19,v20,v21,v22,v23,v24,(v25,(),()),()),(v26++[((rd aS v17 (Int.toNat v2)).1,(rd aS v17 (Int.toNat v2)).2)]),v27,v28,v29,v30,v31,v32,v33,v34,v35,()))) (
      none)) (
     cond ((decide (((v27.length+1) * 16)≤140737488355328))&&(decide ((v27.length+1)≤9223372036854775807))) (
      some (R3.next (((),(),(),(),(),(),v1,(IntKind.wrap .i64 (v2+1)),()),((v3,v4,()),(v5,(),()),(v6,(),(),(),(),(),(),(),(),()),v7,v8,v9,v10,v11,v12,v13,v14,v15,v16,v17,v18,v19,v20,v21,v22,v23,v24,(v25,(),()),()),v26,(v27++[((rd aS v17 (Int.toNat v2)).1,(rd aS v17 (Int.toNat v2)).2)]),v28,v29,v30,v31,v32,v33,v34,v35,()))) (
      none))) (
    none)) (
   none)) (
  some (R3.out (((),(),(),(),(),()),((v3,v4,()),(v5,(),()),(v6,(),(),(),(),(),(),(),(),()),v7,v8,v9,v10,v11,v12,v13,v14,v15,v16,v17,v18,v19,v20,v21,v22,v23,v24,(v25,(),()),()),v26,v27,v28,v29,v30,v31,v32,v33,v34,v35,())))
noncomputable def dU (z:kZ):Option (R3 kZ sF sR):=mj z.1.2.2.2.2.2.2.1 z.1.2.2.2.2.2.2.2.1 z.2.1.1.1 z.2.1.1.2.1 z.2.1.2.1.1 z.2.1.2.2.1.1 z.2.1.2.2.2.1 z.2.1.2.2.2.2.1 z.2.1.2.2.2.2.2.1 z.2.1.2.2.2.2.2.2.1 z.2.1.2.2.2.2.2.2.2.1 z.2.1.2.2.2.2.2.2.2.2.1 z.2.1.2.2.2.2.2.2.2.2.2.1 z.2.1.2.2.2.2.2.2.2.2.2.2.1 z.2.1.2.2.2.2.2.2.2.2.2.2.2.1 z.2.1.2.2.2.2.2.2.2.2.2.2.2.2.1 z.2.1.2.2.2.2.2.2.2.2.2.2.2.2.2.1 z.2.1.2.2.2.2.2.2.2.2.2.2.2.2.2.2.1 z.2.1.2.2.2.2.2.2.2.2.2.2.2.2.2.2.2.1 z.2.1.2.2.2.2.2.2.2.2.2.2.2.2.2.2.2.2.1 z.2.1.2.2.2.2.2.2.2.2.2.2.2.2.2.2.2.2.2.1 z.2.1.2.2.2.2.2.2.2.2.2.2.2.2.2.2.2.2.2.2.1 z.2.1.2.2.2.2.2.2.2.2.2.2.2.2.2.2.2.2.2.2.2.1 z.2.1.2.2.2.2.2.2.2.2.2.2.2.2.2.2.2.2.2.2.2.2.1 z.2.1.2.2.2.2.2.2.2.2.2.2.2.2.2.2.2.2.2.2.2.2.2.1.1 z.2.2.1 z.2.2.2.1 z.2.2.2.2.1 z.2.2.2.2.2.1 z.2.2.2.2.2.2.1 z.2.2.2.2.2.2.2.1 z.2.2.2.2.2.2.2.2.1 z.2.2.2.2.2.2.2.2.2.1 z.2.2.2.2.2.2.2.2.2.2.1 z.2.2.2.2.2.2.2.2.2.2.2.1
noncomputable def f69 (v1:Int)(v2:au)(v3:Int):Option ((Int×au)×au×Int×Unit):=
 ((f104 v1 v2)).bind fun y4=>
 cond (!y4.1) (
  ((f106 v1 v2)).bind fun y5=>
  some ((y5.1.1,y5.1.2),[],1,())) (
  cond (decide (v3<v1)) (
   ((f106 v1 v2)).bind fun y6=>
   some ((y6.1.1,y6.1.2),[],10,())) (
   cond (decide (1073741824<v3)) (
    ((f106 v1 v2)).bind fun y7=>
    some ((y7.1.1,y7.1.2),[],10,())) (
    ((iter aC eV (((),v2,(v2.length:Int),0,()),((v1,v2,()),(0,(),()),(v1,(),(),(),(),(),(),(),(),()),()),[],[],[],[],[],[],[],[],[],()))).bind fun r=>match r with
    | .inl y8=>
      ((iter aC fw (((),(),(),(),(),(),(y8.2.2.2.1.length:Int),0,()),((y8.2.1.1.1,y8.2.1.1.2.1,()),(y8.2.1.2.1.1,(),()),(v3,(),(),(),(),(),(),(),(),()),y8.2.2.1,y8.2.2.2.1,y8.2.2.2.2.1,y8.2.2.2.2.2.1,y8.2.2.2.2.2.2.1,y8.2.2.2.2.2.2.2.1,y8.2.2.2.2.2.2.2.2.1,y8.2.2.2.2.2.2.2.2.2.1,y8.2.2.2.2.2.2.2.2.2.2.1,()),[],[],()))).bind fun r=>match r with
      | .inl y10=>
        ((iter aC fC (((),(),(),(),(),(),(y10.2.1.2.2.2.2.2.1.length:Int),0,()),((y10.2.1.1.1,y10.2.1.1.2.1,()),(y10.2.1.2.1.1,(),()),(y10.2.1.2.2.1.1,(),(),(),(),(),(),(),(),()),y10.2.1.2.2.2.1,y10.2.1.2.2.2.2.1,y10.2.1.2.2.2.2.2.1,y10.2.1.2.2.2.2.2.2.1,y10.2.1.2.2.2.2.2.2.2.1,y10.2.1.2.2.2.2.2.2.2.2.1,y10.2.1.2.2.2.2.2.2.2.2.2.1,y10.2.1.2.2.2.2.2.2.2.2.2.2.1,y10.2.1.2.2.2.2.2.2.2.2.2.2.2.1,()),y10.2.2.1,[],y10.2.2.2.1,()))).bind fun r=>match r with
        | .inl y12=>
          ((iter aC fp (((),(),(),(),(),(),(y12.2.1.2.2.2.2.2.2.1.length:Int),0,()),((y12.2.1.1.1,y12.2.1.1.2.1,()),(y12.2.1.2.1.1,(),()),(y12.2.1.2.2.1.1,(),(),(),(),(),(),(),(),()),y12.2.1.2.2.2.1,y12.2.1.2.2.2.2.1,y12.2.1.2.2.2.2.2.1,y12.2.1.2.2.2.2.2.2.1,y12.2.1.2.2.2.2.2.2.2.1,y12.2.1.2.2.2.2.2.2.2.2.1,y12.2.1.2.2.2.2.2.2.2.2.2.1,y12.2.1.2.2.2.2.2.2.2.2.2.2.1,y12.2.1.2.2.2.2.2.2.2.2.2.2.2.1,()),y12.2.2.1,[],y12.2.2.2.2.1,y12.2.2.2.1,()))).bind fun r=>match r with
          | .inl y14=>
            ((iter aC eM (((),(),(),(),(),(),(y14.2.1.2.2.2.2.2.2.2.1.length:Int),0,()),((y14.2.1.1.1,y14.2.1.1.2.1,()),(y14.2.1.2.1.1,(),()),(y14.2.1.2.2.1.1,(),(),(),(),(),(),(),(),()),y14.2.1.2.2.2.1,y14.2.1.2.2.2.2.1,y14.2.1.2.2.2.2.2.1,y14.2.1.2.2.2.2.2.2.1,y14.2.1.2.2.2.2.2.2.2.1,y14.2.1.2.2.2.2.2.2.2.2.1,y14.2.1.2.2.2.2.2.2.2.2.2.1,y14.2.1.2.2.2.2.2.2.2.2.2.2.1,y14.2.1.2.2.2.2.2.2.2.2.2.2.2.1,()),y14.2.2.1,[],y14.2.2.2.2.1,y14.2.2.2.2.2.1,y14.2.2.2.1,()))).bind fun r=>match r with
            | .inl y16=>
              ((iter aC eX (((),(),(),(),(),(),(y16.2.1.2.2.2.2.2.2.2.2.1.length:Int),0,()),((y16.2.1.1.1,y16.2.1.1.2.1,()),(y16.2.1.2.1.1,(),()),(y16.2.1.2.2.1.1,(),(),(),(),(),(),(),(),()),y16.2.1.2.2.2.1,y16.2.1.2.2.2.2.1,y16.2.1.2.2.2.2.2.1,y16.2.1.2.2.2.2.2.2.1,y16.2.1.2.2.2.2.2.2.2.1,y16.2.1.2.2.2.2.2.2.2.2.1,y16.2.1.2.2.2.2.2.2.2.2.2.1,y16.2.1.2.2.2.2.2.2.2.2.2.2.1,y16.2.1.2.2.2.2.2.2.2.2.2.2.2.1,()),y16.2.2.1,[],y16.2.2.2.2.1,y16.2.2.2.2.2.1,y16.2.2.2.2.2.2.1,y16.2.2.2.1,()))).bind fun r=>match r with
              | .inl y18=>
                ((iter aC eZ (((),(),(),(),(),(),(y18.2.1.2.2.2.2.2.2.2.2.2.1.length:Int),0,()),((y18.2.1.1.1,y18.2.1.1.2.1,()),(y18.2.1.2.1.1,(),()),(y18.2.1.2.2.1.1,(),(),(),(),(),(),(),(),()),y18.2.1.2.2.2.1,y18.2.1.2.2.2.2.1,y18.2.1.2.2.2.2.2.1,y18.2.1.2.2.2.2.2.2.1,y18.2.1.2.2.2.2.2.2.2.1,y18.2.1.2.2.2.2.2.2.2.2.1,y18.2.1.2.2.2.2.2.2.2.2.2.1,y18.2.1.2.2.2.2.2.2.2.2.2.2.1,y18.2.1.2.2.2.2.2.2.2.2.2.2.2.1,()),y18.2.2.1,[],y18.2.2.2.2.1,y18.2.2.2.2.2.1,y18.2.2.2.2.2.2.1,y18.2.2.2.2.2.2.2.1,y18.2.2.2.1,()))).bind fun r=>match r with
                | .inl y20=>
                  ((iter aC fq (((),(),(),(),(),(),(y20.2.1.2.2.2.2.2.2.2.2.2.2.1.length:Int),0,()),((y20.2.1.1.1,y20.2.1.1.2.1,()),(y20.2.1.2.1.1,(),()),(y20.2.1.2.2.1.1,(),(),(),(),(),(),(),(),()),y20.2.1.2.2.2.1,y20.2.1.2.2.2.2.1,y20.2.1.2.2.2.2.2.1,y20.2.1.2.2.2.2.2.2.1,y20.2.1.2.2.2.2.2.2.2.1,y20.2.1.2.2.2.2.2.2.2.2.1,y20.2.1.2.2.2.2.2.2.2.2.2.1,y20.2.1.2.2.2.2.2.2.2.2.2.2.1,y20.2.1.2.2.2.2.2.2.2.2.2.2.2.1,()),y20.2.2.1,[],y20.2.2.2.2.1,y20.2.2.2.2.2.1,y20.2.2.2.2.2.2.1,y20.2.2.2.2.2.2.2.1,y20.2.2.2.2.2.2.2.2.1,y20.2.2.2.1,()))).bind fun r=>match r with
                  | .inl y22=>
                    ((iter aC fm (((),(),(),(),(),(),(y22.2.1.2.2.2.2.2.2.2.2.2.2.2.1.length:Int),0,()),((y22.2.1.1.1,y22.2.1.1.2.1,()),(y22.2.1.2.1.1,(),()),(y22.2.1.2.2.1.1,(),(),(),(),(),(),(),(),()),y22.2.1.2.2.2.1,y22.2.1.2.2.2.2.1,y22.2.1.2.2.2.2.2.1,y22.2.1.2.2.2.2.2.2.1,y22.2.1.2.2.2.2.2.2.2.1,y22.2.1.2.2.2.2.2.2.2.2.1,y22.2.1.2.2.2.2.2.2.2.2.2.1,y22.2.1.2.2.2.2.2.2.2.2.2.2.1,y22.2.1.2.2.2.2.2.2.2.2.2.2.2.1,()),y22.2.2.1,[],y22.2.2.2.2.1,y22.2.2.2.2.2.1,y22.2.2.2.2.2.2.1,y22.2.2.2.2.2.2.2.1,y22.2.2.2.2.2.2.2.2.1,y22.2.2.2.2.2.2.2.2.2.1,y22.2.2.2.1,()))).bind fun r=>match r with
                    | .inl y24=>
                      ((uV y24.2.2.1)).bind fun y26=>
                      cond ((Nat.beq y26.length y24.2.2.1.length)&&true) (
                       ((iter aC eS (((),(),(),(),(),(),(y24.2.2.2.2.1.length:Int),0,()),((y24.2.1.1.1,y24.2.1.1.2.1,()),(y24.2.1.2.1.1,(),()),(y24.2.1.2.2.1.1,(),(),(),(),(),(),(),(),()),y24.2.1.2.2.2.1,y24.2.1.2.2.2.2.1,y24.2.1.2.2.2.2.2.1,y24.2.1.2.2.2.2.2.2.1,y24.2.1.2.2.2.2.2.2.2.1,y24.2.1.2.2.2.2.2.2.2.2.1,y24.2.1.2.2.2.2.2.2.2.2.2.1,y24.2.1.2.2.2.2.2.2.2.2.2.2.1,y24.2.1.2.2.2.2.2.2.2.2.2.2.2.1,y26,y24.2.2.2.1,y24.2.2.2.2.1,y24.2.2.2.2.2.1,y24.2.2.2.2.2.2.1,y24.2.2.2.2.2.2.2.1,y24.2.2.2.2.2.2.2.2.1,y24.2.2.2.2.2.2.2.2.2.1,y24.2.2.2.2.2.2.2.2.2.2.1,(0,(),()),()),[],[],[],()))).bind fun r=>match r with
                       | .inl y27=>
                         ((iter aC fA (((),(),(),(),(),(),(y27.2.1.2.2.2.2.2.2.2.2.2.2.2.2.2.2.2.1.length:Int),0,()),((y27.2.1.1.1,y27.2.1.1.2.1,()),(y27.2.1.2.1.1,(),()),(y27.2.1.2.2.1.1,(),(),(),(),(),(),(),(),()),y27.2.1.2.2.2.1,y27.2.1.2.2.2.2.1,y27.2.1.2.2.2.2.2.1,y27.2.1.2.2.2.2.2.2.1,y27.2.1.2.2.2.2.2.2.2.1,y27.2.1.2.2.2.2.2.2.2.2.1,y27.2.1.2.2.2.2.2.2.2.2.2.1,y27.2.1.2.2.2.2.2.2.2.2.2.2.1,y27.2.1.2.2.2.2.2.2.2.2.2.2.2.1,y27.2.1.2.2.2.2.2.2.2.2.2.2.2.2.1,y27.2.1.2.2.2.2.2.2.2.2.2.2.2.2.2.1,y27.2.1.2.2.2.2.2.2.2.2.2.2.2.2.2.2.1,y27.2.1.2.2.2.2.2.2.2.2.2.2.2.2.2.2.2.1,y27.2.1.2.2.2.2.2.2.2.2.2.2.2.2.2.2.2.2.1,y27.2.1.2.2.2.2.2.2.2.2.2.2.2.2.2.2.2.2.2.1,y27.2.1.2.2.2.2.2.2.2.2.2.2.2.2.2.2.2.2.2.2.1,y27.2.1.2.2.2.2.2.2.2.2.2.2.2.2.2.2.2.2.2.2.2.1,y27.2.1.2.2.2.2.2.2.2.2.2.2.2.2.2.2.2.2.2.2.2.2.1,(y27.2.1.2.2.2.2.2.2.2.2.2.2.2.2.2.2.2.2.2.2.2.2.2.1.1,(),()),()),y27.2.2.1,[],y27.2.2.2.1,y27.2.2.2.2.1,()))).bind fun r=>match r with
                         | .inl y29=>
                           ((iter aC dL (((),(),(),(),(),(),(y29.2.1.2.2.2.2.2.2.2.2.2.2.2.2.2.2.2.2.1.length:Int),0,()),((y29.2.1.1.1,y29.2.1.1.2.1,()),(y29.2.1.2.1.1,(),()),(y29.2.1.2.2.1.1,(),(),(),(),(),(),(),(),()),y29.2.1.2.2.2.1,y29.2.1.2.2.2.2.1,y29.2.1.2.2.2.2.2.1,y29.2.1.2.2.2.2.2.2.1,y29.2.1.2.2.2.2.2.2.2.1,y29.2.1.2.2.2.2.2.2.2.2.1,y29.2.1.2.2.2.2.2.2.2.2.2.1,y29.2.1.2.2.2.2.2.2.2.2.2.2.1,y29.2.1.2.2.2.2.2.2.2.2.2.2.2.1,y29.2.1.2.2.2.2.2.2.2.2.2.2.2.2.1,y29.2.1.2.2.2.2.2.2.2.2.2.2.2.2.2.1,y29.2.1.2.2.2.2.2.2.2.2.2.2.2.2.2.2.1,y29.2.1.2.2.2.2.2.2.2.2.2.2.2.2.2.2.2.1,y29.2.1.2.2.2.2.2.2.2.2.2.2.2.2.2.2.2.2.1,y29.2.1.2.2.2.2.2.2.2.2.2.2.2.2.2.2.2.2.2.1,y29.2.1.2.2.2.2.2.2.2.2.2.2.2.2.2.2.2.2.2.2.1,y29.2.1.2.2.2.2.2.2.2.2.2.2.2.2.2.2.2.2.2.2.2.1,y29.2.1.2.2.2.2.2.2.2.2.2.2.2.2.2.2.2.2.2.2.2.2.1,(y29.2.1.2.2.2.2.2.2.2.2.2.2.2.2.2.2.2.2.2.2.2.2.2.1.1,(),()),()),y29.2.2.1,[],y29.2.2.2.2.1,y29.2.2.2.1,y29.2.2.2.2.2.1,()))).bind fun r=>match r with
                           | .inl y31=>
                             ((iter aC dW (((),(),(),(),(),(),(y31.2.1.2.2.2.2.2.2.2.2.2.2.2.2.2.2.2.2.2.1.length:Int),0,()),((y31.2.1.1.1,y31.2.1.1.2.1,()),(y31.2.1.2.1.1,(),()),(y31.2.1.2.2.1.1,(),(),(),(),(),(),(),(),()),y31.2.1.2.2.2.1,y31.2.1.2.2.2.2.1,y31.2.1.2.2.2.2.2.1,y31.2.1.2.2.2.2.2.2.1,y31.2.1.2.2.2.2.2.2.2.1,y31.2.1.2.2.2.2.2.2.2.2.1,y31.2.1.2.2.2.2.2.2.2.2.2.1,y31.2.1.2.2.2.2.2.2.2.2.2.2.1,y31.2.1.2.2.2.2.2.2.2.2.2.2.2.1,y31.2.1.2.2.2.2.2.2.2.2.2.2.2.2.1,y31.2.1.2.2.2.2.2.2.2.2.2.2.2.2.2.1,y31.2.1.2.2.2.2.2.2.2.2.2.2.2.2.2.2.1,y31.2.1.2.2.2.2.2.2.2.2.2.2.2.2.2.2.2.1,y31.2.1.2.2.2.2.2.2.2.2.2.2.2.2.2.2.2.2.1,y31.2.1.2.2.2.2.2.2.2.2.2.2.2.2.2.2.2.2.2.1,y31.2.1.2.2.2.2.2.2.2.2.2.2.2.2.2.2.2.2.2.2.1,y31.2.1.2.2.2.2.2.2.2.2.2.2.2.2.2.2.2.2.2.2.2.1,y31.2.1.2.2.2.2.2.2.2.2.2.2.2.2.2.2.2.2.2.2.2.2.1,(y31.2.1.2.2.2.2.2.2.2.2.2.2.2.2.2.2.2.2.2.2.2.2.2.1.1,(),()),()),y31.2.2.1,[],y31.2.2.2.2.1,y31.2.2.2.2.2.1,y31.2.2.2.1,y31.2.2.2.2.2.2.1,()))).bind fun r=>match r with
                             | .inl y33=>
                               ((iter aC dP (((),(),(),(),(),(),(y33.2.1.2.2.2.2.2.2.2.2.2.2.2.2.2.2.2.2.2.2.1.length:Int),0,()),((y33.2.1.1.1,y33.2.1.1.2.1,()),(y33.2.1.2.1.1,(),()),(y33.2.1.2.2.1.1,(),(),(),(),(),(),(),(),()),y33.2.1.2.2.2.1,y33.2.1.2.2.2.2.1,y33.2.1.2.2.2.2.2.1,y33.2.1.2.2.2.2.2.2.1,y33.2.1.2.2.2.2.2.2.2.1,y33.2.1.2.2.2.2.2.2.2.2.1,y33.2.1.2.2.2.2.2.2.2.2.2.1,y33.2.1.2.2.2.2.2.2.2.2.2.2.1,y33.2.1.2.2.2.2.2.2.2.2.2.2.2.1,y33.2.1.2.2.2.2.2.2.2.2.2.2.2.2.1,y33.2.1.2.2.2.2.2.2.2.2.2.2.2.2.2.1,y33.2.1.2.2.2.2.2.2.2.2.2.2.2.2.2.2.1,y33.2.1.2.2.2.2.2.2.2.2.2.2.2.2.2.2.2.1,y33.2.1.2.2.2.2.2.2.2.2.2.2.2.2.2.2.2.2.1,y33.2.1.2.2.2.2.2.2.2.2.2.2.2.2.2.2.2.2.2.1,y33.2.1.2.2.2.2.2.2.2.2.2.2.2.2.2.2.2.2.2.2.1,y33.2.1.2.2.2.2.2.2.2.2.2.2.2.2.2.2.2.2.2.2.2.1,y33.2.1.2.2.2.2.2.2.2.2.2.2.2.2.2.2.2.2.2.2.2.2.1,(y33.2.1.2.2.2.2.2.2.2.2.2.2.2.2.2.2.2.2.2.2.2.2.2.1.1,(),()),()),y33.2.2.1,[],y33.2.2.2.2.1,y33.2.2.2.2.2.1,y33.2.2.2.2.2.2.1,y33.2.2.2.1,y33.2.2.2.2.2.2.2.1,()))).bind fun r=>match r with
                               | .inl y35=>
                                 ((iter aC dN (((),(),(),(),(),(),(y35.2.1.2.2.2.2.2.2.2.2.2.2.2.2.2.2.2.2.2.2.2.1.length:Int),0,()),((y35.2.1.1.1,y35.2.1.1.2.1,()),(y35.2.1.2.1.1,(),()),(y35.2.1.2.2.1.1,(),(),(),(),(),(),(),(),()),y35.2.1.2.2.2.1,y35.2.1.2.2.2.2.1,y35.2.1.2.2.2.2.2.1,y35.2.1.2.2.2.2.2.2.1,y35.2.1.2.2.2.2.2.2.2.1,y35.2.1.2.2.2.2.2.2.2.2.1,y35.2.1.2.2.2.2.2.2.2.2.2.1,y35.2.1.2.2.2.2.2.2.2.2.2.2.1,y35.2.1.2.2.2.2.2.2.2.2.2.2.2.1,y35.2.1.2.2.2.2.2.2.2.2.2.2.2.2.1,y35.2.1.2.2.2.2.2.2.2.2.2.2.2.2.2.1,y35.2.1.2.2.2.2.2.2.2.2.2.2.2.2.2.2.1,y35.2.1.2.2.2.2.2.2.2.2.2.2.2.2.2.2.2.1,y35.2.1.2.2.2.2.2.2.2.2.2.2.2.2.2.2.2.2.1,y35.2.1.2.2.2.2.2.2.2.2.2.2.2.2.2.2.2.2.2.1,y35.2.1.2.2.2.2.2.2.2.2.2.2.2.2.2.2.2.2.2.2.1,y35.2.1.2.2.2.2.2.2.2.2.2.2.2.2.2.2.2.2.2.2.2.1,y35.2.1.2.2.2.2.2.2.2.2.2.2.2.2.2.2.2.2.2.2.2.2.1,(y35.2.1.2.2.2.2.2.2.2.2.2.2.2.2.2.2.2.2.2.2.2.2.2.1.1,(),()),()),y35.2.2.1,[],y35.2.2.2.2.1,y35.2.2.2.2.2.1,y35.2.2.2.2.2.2.1,y35.2.2.2.2.2.2.2.1,y35.2.2.2.1,y35.2.2.2.2.2.2.2.2.1,()))).bind fun r=>match r with
                                 | .inl y37=>
                                   ((iter aC dM (((),(),(),(),(),(),(y37.2.1.2.2.2.2.2.2.2.2.2.2.2.2.2.2.2.2.2.2.2.2.1.length:Int),0,()),((y37.2.1.1.1,y37.2.1.1.2.1,()),(y37.2.1.2.1.1,(),()),(y37.2.1.2.2.1.1,(),(),(),(),(),(),(),(),()),y37.2.1.2.2.2.1,y37.2.1.2.2.2.2.1,y37.2.1.2.2.2.2.2.1,y37.2.1.2.2.2.2.2.2.1,y37.2.1.2.2.2.2.2.2.2.1,y37.2.1.2.2.2.2.2.2.2.2.1,y37.2.1.2.2.2.2.2.2.2.2.2.1,y37.2.1.2.2.2.2.2.2.2.2.2.2.1,y37.2.1.2.2.2.2.2.2.2.2.2.2.2.1,y37.2.1.2.2.2.2.2.2.2.2.2.2.2.2.1,y37.2.1.2.2.2.2.2.2.2.2.2.2.2.2.2.1,y37.2.1.2.2.2.2.2.2.2.2.2.2.2.2.2.2.1,y37.2.1.2.2.2.2.2.2.2.2.2.2.2.2.2.2.2.1,y37.2.1.2.2.2.2.2.2.2.2.2.2.2.2.2.2.2.2.1,y37.2.1.2.2.2.2.2.2.2.2.2.2.2.2.2.2.2.2.2.1,y37.2.1.2.2.2.2.2.2.2.2.2.2.2.2.2.2.2.2.2.2.1,y37.2.1.2.2.2.2.2.2.2.2.2.2.2.2.2.2.2.2.2.2.2.1,y37.2.1.2.2.2.2.2.2.2.2.2.2.2.2.2.2.2.2.2.2.2.2.1,(y37.2.1.2.2.2.2.2.2.2.2.2.2.2.2.2.2.2.2.2.2.2.2.2.1.1,(),()),()),y37.2.2.1,[],y37.2.2.2.2.1,y37.2.2.2.2.2.1,y37.2.2.2.2.2.2.1,y37.2.2.2.2.2.2.2.1,y37.2.2.2.2.2.2.2.2.1,y37.2.2.2.1,y37.2.2.2.2.2.2.2.2.2.1,()))).bind fun r=>match r with
                                   | .inl y39=>
                                     ((iter aC dU (((),(),(),(),(),(),(y39.2.1.2.2.2.2.2.2.2.2.2.2.2.2.2.1.length:Int),0,()),((y39.2.1.1.1,y39.2.1.1.2.1,()),(y39.2.1.2.1.1,(),()),(y39.2.1.2.2.1.1,(),(),(),(),(),(),(),(),()),y39.2.1.2.2.2.1,y39.2.1.2.2.2.2.1,y39.2.1.2.2.2.2.2.1,y39.2.1.2.2.2.2.2.2.1,y39.2.1.2.2.2.2.2.2.2.1,y39.2.1.2.2.2.2.2.2.2.2.1,y39.2.1.2.2.2.2.2.2.2.2.2.1,y39.2.1.2.2.2.2.2.2.2.2.2.2.1,y39.2.1.2.2.2.2.2.2.2.2.2.2.2.1,y39.2.1.2.2.2.2.2.2.2.2.2.2.2.2.1,y39.2.1.2.2.2.2.2.2.2.2.2.2.2.2.2.1,y39.2.1.2.2.2.2.2.2.2.2.2.2.2.2.2.2.1,y39.2.1.2.2.2.2.2.2.2.2.2.2.2.2.2.2.2.1,y39.2.1.2.2.2.2.2.2.2.2.2.2.2.2.2.2.2.2.1,y39.2.1.2.2.2.2.2.2.2.2.2.2.2.2.2.2.2.2.2.1,y39.2.1.2.2.2.2.2.2.2.2.2.2.2.2.2.2.2.2.2.2.1,y39.2.1.2.2.2.2.2.2.2.2.2.2.2.2.2.2.2.2.2.2.2.1,y39.2.1.2.2.2.2.2.2.2.2.2.2.2.2.2.2.2.2.2.2.2.2.1,(y39.2.1.2.2.2.2.2.2.2.2.2.2.2.2.2.2.2.2.2.2.2.2.2.1.1,(),()),()),y39.2.2.1,[],y39.2.2.2.2.1,y39.2.2.2.2.2.1,y39.2.2.2.2.2.2.1,y39.2.2.2.2.2.2.2.1,y39.2.2.2.2.2.2.2.2.1,y39.2.2.2.2.2.2.2.2.2.1,y39.2.2.2.1,y39.2.2.2.2.2.2.2.2.2.2.1,()))).bind fun r=>match r with
                                     | .inl y41=>
                                       ((uV y41.2.2.1)).bind fun y43=>
                                       cond ((Nat.beq y43.length y41.2.2.1.length)&&true) (
                                        cond (decide (y41.2.1.2.2.1.1=y24.2.1.2.2.1.1)) (
                                         some ((y24.2.1.2.2.1.1,y43),y41.2.1.2.2.2.2.2.2.2.2.2.2.2.2.1,0,())) (
                                         none)) (
                                        none)
                                     | .inr z42=>
                                       none
                                   | .inr z40=>
                                     none
                                 | .inr z38=>
                                   none
                               | .inr z36=>
                                 none
                             | .inr z34=>
                               none
                           | .inr z32=>
                             none
                         | .inr z30=>
                           none
                       | .inr z28=>
                         none) (
                       none)
                    | .inr z25=>
                      none
                  | .inr z23=>
                    none
                | .inr z21=>
                  none
              | .inr z19=>
                none
            | .inr z17=>
              none
          | .inr z15=>
            none
        | .inr z13=>
          none
      | .inr z11=>
        none
    | .inr z9=>
      none)))
abbrev rH:Type:=(Unit×Int×Int×Unit)×DT6×bw×ed×bw×xT×xT×Unit
abbrev yP:Type:=(Unit×Int×Int×Unit)×DT6×bw×ed×bw×xT×xT×Unit
abbrev yL:Type:=Unit×ZW×Unit
noncomputable def iX (v1 v2 v3 v4 v5 v6 v7 v8 v9 v10 v11 v12 v13:Int)(v14:Bool)(v15:Int)(v16:bw)(v17:ed)(v18:bw)(v19 v20 v21 v22 v23 v24 v25 v26:Int)(v27:Bool)(v28 v29 v30 v31 v32 v33 v34 v35 v36 v37 v38:Int)(v39:Bool)(v40 v41 v42 v43:Int)(v44:bw)(v45:ed)(v46:bw)(v47 v48 v49 v50 v51 v52 v53 v54 v55 v56 v57:Int)(v58:Bool)(v59 v60 v61 v62 v63 v64 v65 v66 v67:Int)(v68:Bool)(v69 v70 v71:Int)(v72:bw)(v73:ed)(v74:bw)(v75 v76:xT):Option (R3 rH yP yL):=
 cond (decide (v1<v2)) (
  ((f23 v44 v1)).bind fun y77=>
  cond (!y77.1) (
   some (R3.next (((),(IntKind.wrap .i64 (v1+1)),v2,()),((v3,v4,v5,v6,v7,v8,v9,v10,v11,v12,v13,v14,v15,v16,v17,v18,()),(v19,v20,v21,v22,v23,v24,v25,v26,v27,()),(v28,v29,v30,v31,v32,v33,v34,v35,v36,v37,v38,v39,v40,(),(),(),()),((),()),(v41,v42,v43,()),((),(),(),(),(),(),(),(),(),()),v44,v45,v46,(v47,v48,v49,v50,v51,v52,v53,v54,v55,v56,v57,v58,v59,(),(),(),v60,v61,v62,v63,v64,v65,v66,v67,v68,(),v69,v70,v71,()),()),v72,v73,v74,v75,v76,()))) (
   ((f100 v47 v48 v49 v50 v51 v52 v53 v54 v45 v46 v1)).bind fun y78=>
   ((f99 y78.1.1 y78.1.2)).bind fun y79=>
   cond (decide (y79.1=(-1))) (
    some (R3.next (((),(IntKind.wrap .i64 (v1+1)),v2,()),((v3,v4,v5,v6,v7,v8,v9,v10,v11,v12,v13,v14,v15,v16,v17,v18,()),(v19,v20,v21,v22,v23,v24,v25,v26,v27,()),(v28,v29,v30,v31,v32,v33,v34,v35,v36,v37,v38,v39,v40,(),(),(),()),((),()),(v41,v42,v43,()),((),(),(),(),(),(),(),(),(),()),v44,v45,v46,(v47,v48,v49,v50,v51,v52,v53,v54,v55,v56,v57,v58,v59,(),(),(),v60,v61,v62,v63,v64,v65,v66,v67,v68,(),v69,v70,v71,()),()),v72,v73,v74,v75,v76,()))) (
    some (R3.out (((),v1,v2,()),((v3,v4,v5,v6,v7,v8,v9,v10,v11,v12,v13,v14,v15,v16,v17,v18,()),(v19,v20,v21,v22,v23,v24,v25,v26,v27,()),(v28,v29,v30,v31,v32,v33,v34,v35,v36,v37,v38,v39,v40,(),(),(),()),((),()),(v41,v42,v43,()),((),(),(),(),(),(),(),(),(),()),v44,v45,v46,(v47,v48,v49,v50,v51,v52,v53,v54,v55,v56,v57,v58,v59,(),(),(),v60,v61,v62,v63,v64,v65,v66,v67,v68,(),v69,v70,v71,()),()),v72,v73,v74,v75,v76,()))))) (
  some (R3.out (((),v1,v2,()),((v3,v4,v5,v6,v7,v8,v9,v10,v11,v12,v13,v14,v15,v16,v17,v18,()),(v19,v20,v21,v22,v23,v24,v25,v26,v27,()),(v28,v29,v30,v31,v32,v33,v34,v35,v36,v37,v38,v39,v40,(),(),(),()),((),()),(v41,v42,v43,()),((),(),(),(),(),(),(),(),(),()),v44,v45,v46,(v47,v48,v49,v50,v51,v52,v53,v54,v55,v56,v57,v58,v59,(),(),(),v60,v61,v62,v63,v64,v65,v66,v67,v68,(),v69,v70,v71,()),()),v72,v73,v74,v75,v76,())))
noncomputable def dH (z:rH):Option (R3 rH yP yL):=iX z.1.2.1 z.1.2.2.1 z.2.1.1.1 z.2.1.1.2.1 z.2.1.1.2.2.1 z.2.1.1.2.2.2.1 z.2.1.1.2.2.2.2.1 z.2.1.1.2.2.2.2.2.1 z.2.1.1.2.2.2.2.2.2.1 z.2.1.1.2.2.2.2.2.2.2.1 z.2.1.1.2.2.2.2.2.2.2.2.1 z.2.1.1.2.2.2.2.2.2.2.2.2.1 z.2.1.1.2.2.2.2.2.2.2.2.2.2.1 z.2.1.1.2.2.2.2.2.2.2.2.2.2.2.1 z.2.1.1.2.2.2.2.2.2.2.2.2.2.2.2.1 z.2.1.1.2.2.2.2.2.2.2.2.2.2.2.2.2.1 z.2.1.1.2.2.2.2.2.2.2.2.2.2.2.2.2.2.1 z.2.1.1.2.2.2.2.2.2.2.2.2.2.2.2.2.2.2.1 z.2.1.2.1.1 z.2.1.2.1.2.1 z.2.1.2.1.2.2.1 z.2.1.2.1.2.2.2.1 z.2.1.2.1.2.2.2.2.1 z.2.1.2.1.2.2.2.2.2.1 z.2.1.2.1.2.2.2.2.2.2.1 z.2.1.2.1.2.2.2.2.2.2.2.1 z.2.1.2.1.2.2.2.2.2.2.2.2.1 z.2.1.2.2.1.1 z.2.1.2.2.1.2.1 z.2.1.2.2.1.2.2.1 z.2.1.2.2.1.2.2.2.1 z.2.1.2.2.1.2.2.2.2.1 z.2.1.2.2.1.2.2.2.2.2.1 z.2.1.2.2.1.2.2.2.2.2.2.1 z.2.1.2.2.1.2.2.2.2.2.2.2.1 z.2.1.2.2.1.2.2.2.2.2.2.2.2.1 z.2.1.2.2.1.2.2.2.2.2.2.2.2.2.1 z.2.1.2.2.1.2.2.2.2.2.2.2.2.2.2.1 z.2.1.2.2.1.2.2.2.2.2.2.2.2.2.2.2.1 z.2.1.2.2.1.2.2.2.2.2.2.2.2.2.2.2.2.1 z.2.1.2.2.2.2.1.1 z.2.1.2.2.2.2.1.2.1 z.2.1.2.2.2.2.1.2.2.1 z.2.1.2.2.2.2.2.2.1 z.2.1.2.2.2.2.2.2.2.1 z.2.1.2.2.2.2.2.2.2.2.1 z.2.1.2.2.2.2.2.2.2.2.2.1.1 z.2.1.2.2.2.2.2.2.2.2.2.1.2.1 z.2.1.2.2.2.2.2.2.2.2.2.1.2.2.1 z.2.1.2.2.2.2.2.2.2.2.2.1.2.2.2.1 z.2.1.2.2.2.2.2.2.2.2.2.1.2.2.2.2.1 z.2.1.2.2.2.2.2.2.2.2.2.1.2.2.2.2.2.1 z.2.1.2.2.2.2.2.2.2.2.2.1.2.2.2.2.2.2.1 z.2.1.2.2.2.2.2.2.2.2.2.1.2.2.2.2.2.2.2.1 z.2.1.2.2.2.2.2.2.2.2.2.1.2.2.2.2.2.2.2.2.1 z.2.1.2.2.2.2.2.2.2.2.2.1.2.2.2.2.2.2.2.2.2.1 z.2.1.2.2.2.2.2.2.2.2.2.1.2.2.2.2.2.2.2.2.2.2.1 z.2.1.2.2.2.2.2.2.2.2.2.1.2.2.2.2.2.2.2.2.2.2.2.1 z.2.1.2.2.2.2.2.2.2.2.2.1.2.2.2.2.2.2.2.2.2.2.2.2.1 z.2.1.2.2.2.2.2.2.2.2.2.1.2.2.2.2.2.2.2.2.2.2.2.2.2.2.2.2.1 z.2.1.2.2.2.2.2.2.2.2.2.1.2.2.2.2.2.2.2.2.2.2.2.2.2.2.2.2.2.1 z.2.1.2.2.2.2.2.2.2.2.2.1.2.2.2.2.2.2.2.2.2.2.2.2.2.2.2.2.2.2.1 z.2.1.2.2.2.2.2.2.2.2.2.1.2.2.2.2.2.2.2.2.2.2.2.2.2.2.2.2.2.2.2.1 z.2.1.2.2.2.2.2.2.2.2.2.1.2.2.2.2.2.2.2.2.2.2.2.2.2.2.2.2.2.2.2.2.1 z.2.1.2.2.2.2.2.2.2.2.2.1.2.2.2.2.2.2.2.2.2.2.2.2.2.2.2.2.2.2.2.2.2.1 z.2.1.2.2.2.2.2.2.2.2.2.1.2.2.2.2.2.2.2.2.2.2.2.2.2.2.2.2.2.2.2.2.2.2.1 z.2.1.2.2.2.2.2.2.2.2.2.1.2.2.2.2.2.2.2.2.2.2.2.2.2.2.2.2.2.2.2.2.2.2.2.1 z.2.1.2.2.2.2.2.2.2.2.2.1.2.2.2.2.2.2.2.2.2.2.2.2.2.2.2.2.2.2.2.2.2.2.2.2.1 z.2.1.2.2.2.2.2.2.2.2.2.1.2.2.2.2.2.2.2.2.2.2.2.2.2.2.2.2.2.2.2.2.2.2.2.2.2.2.1 z.2.1.2.2.2.2.2.2.2.2.2.1.2.2.2.2.2.2.2.2.2.2.2.2.2.2.2.2.2.2.2.2.2.2.2.2.2.2.2.1 z.2.1.2.2.2.2.2.2.2.2.2.1.2.2.2.2.2.2.2.2.2.2.2.2.2.2.2.2.2.2.2.2.2.2.2.2.2.2.2.2.1 z.2.2.1 z.2.2.2.1 z.2.2.2.2.1 z.2.2.2.2.2.1 z.2.2.2.2.2.2.1
abbrev rC:Type:=(Unit×Unit×Unit×Int×Int×Unit)×acM×bw×ed×bw×xT×xT×Unit
abbrev yq:Type:=O1×acM×bw×ed×bw×xT×xT×Unit
abbrev zD:Type:=Unit×ZW×Unit
noncomputable def ry (v1 v2 v3 v4 v5 v6 v7 v8 v9 v10 v11 v12 v13:Int)(v14:Bool)(v15:Int)(v16:bw)(v17:ed)(v18:bw)(v19 v20 v21 v22 v23 v24 v25 v26:Int)(v27:Bool)(v28 v29 v30 v31 v32 v33 v34 v35 v36 v37 v38:Int)(v39:Bool)(v40 v41 v42 v43:Int)(v44:bw)(v45:ed)(v46:bw)(v47 v48 v49 v50 v51 v52 v53 v54 v55 v56 v57:Int)(v58:Bool)(v59 v60 v61 v62 v63 v64 v65 v66 v67:Int)(v68:Bool)(v69 v70 v71 v72:Int)(v73:au)(v74:bw)(v75:ed)(v76:bw)(v77 v78:xT):Option (R3 rC yq zD):=
 cond (decide (v2<v1)) (
  cond ((decide (0≤v2))&&(decide (v2<(v45.length:Int)))) (
   cond (decide ((Int.toNat v2)<v45.length)) (
    ((f68 v72 v73 (IntKind.wrap .i64 ((IntKind.wrap .i64 ((rd b9 v45 (Int.toNat v2)).2.1 * 8))+(rd b9 v45 (Int.toNat v2)).2.2.1)) (IntKind.wrap .i64 ((rd b9 v45 (Int.toNat v2)).2.2.2.2+v56)))).bind fun y79=>
    some (R3.next (((),(),(),v1,(IntKind.wrap .i64 (v2+1)),()),((v3,v4,v5,v6,v7,v8,v9,v10,v11,v12,v13,v14,v15,v16,v17,v18,()),(v19,v20,v21,v22,v23,v24,v25,v26,v27,()),(v28,v29,v30,v31,v32,v33,v34,v35,v36,v37,v38,v39,v40,(),(),(),()),((),()),(v41,v42,v43,()),((),(),(),(),(),(),(),(),(),()),v44,v45,v46,(v47,v48,v49,v50,v51,v52,v53,v54,v55,v56,v57,v58,v59,(),(),(),v60,v61,v62,v63,v64,v65,v66,v67,v68,(),v69,v70,v71,()),(y79.1.1,y79.1.2,()),()),v74,v75,v76,v77,v78,()))) (
    none)) (
   none)) (
  some (R3.out (((),(),()),((v3,v4,v5,v6,v7,v8,v9,v10,v11,v12,v13,v14,v15,v16,v17,v18,()),(v19,v20,v21,v22,v23,v24,v25,v26,v27,()),(v28,v29,v30,v31,v32,v33,v34,v35,v36,v37,v38,v39,v40,(),(),(),()),((),()),(v41,v42,v43,()),((),(),(),(),(),(),(),(),(),()),v44,v45,v46,(v47,v48,v49,v50,v51,v52,v53,v54,v55,v56,v57,v58,v59,(),(),(),v60,v61,v62,v63,v64,v65,v66,v67,v68,(),v69,v70,v71,()),(v72,v73,()),()),v74,v75,v76,v77,v78,())))
noncomputable def gD (z:rC):Option (R3 rC yq zD):=ry z.1.2.2.2.1 z.1.2.2.2.2.1 z.2.1.1.1 z.2.1.1.2.1 z.2.1.1.2.2.1 z.2.1.1.2.2.2.1 z.2.1.1.2.2.2.2.1 z.2.1.1.2.2.2.2.2.1 z.2.1.1.2.2.2.2.2.2.1 z.2.1.1.2.2.2.2.2.2.2.1 z.2.1.1.2.2.2.2.2.2.2.2.1 z.2.1.1.2.2.2.2.2.2.2.2.2.1 z.2.1.1.2.2.2.2.2.2.2.2.2.2.1 z.2.1.1.2.2.2.2.2.2.2.2.2.2.2.1 z.2.1.1.2.2.2.2.2.2.2.2.2.2.2.2.1 z.2.1.1.2.2.2.2.2.2.2.2.2.2.2.2.2.1 z.2.1.1.2.2.2.2.2.2.2.2.2.2.2.2.2.2.1 z.2.1.1.2.2.2.2.2.2.2.2.2.2.2.2.2.2.2.1 z.2.1.2.1.1 z.2.1.2.1.2.1 z.2.1.2.1.2.2.1 z.2.1.2.1.2.2.2.1 z.2.1.2.1.2.2.2.2.1 z.2.1.2.1.2.2.2.2.2.1 z.2.1.2.1.2.2.2.2.2.2.1 z.2.1.2.1.2.2.2.2.2.2.2.1 z.2.1.2.1.2.2.2.2.2.2.2.2.1 z.2.1.2.2.1.1 z.2.1.2.2.1.2.1 z.2.1.2.2.1.2.2.1 z.2.1.2.2.1.2.2.2.1 z.2.1.2.2.1.2.2.2.2.1 z.2.1.2.2.1.2.2.2.2.2.1 z.2.1.2.2.1.2.2.2.2.2.2.1 z.2.1.2.2.1.2.2.2.2.2.2.2.1 z.2.1.2.2.1.2.2.2.2.2.2.2.2.1 z.2.1.2.2.1.2.2.2.2.2.2.2.2.2.1 z.2.1.2.2.1.2.2.2.2.2.2.2.2.2.2.1 z.2.1.2.2.1.2.2.2.2.2.2.2.2.2.2.2.1 z.2.1.2.2.1.2.2.2.2.2.2.2.2.2.2.2.2.1 z.2.1.2.2.2.2.1.1 z.2.1.2.2.2.2.1.2.1 z.2.1.2.2.2.2.1.2.2.1 z.2.1.2.2.2.2.2.2.1 z.2.1.2.2.2.2.2.2.2.1 z.2.1.2.2.2.2.2.2.2.2.1 z.2.1.2.2.2.2.2.2.2.2.2.1.1 z.2.1.2.2.2.2.2.2.2.2.2.1.2.1 z.2.1.2.2.2.2.2.2.2.2.2.1.2.2.1 z.2.1.2.2.2.2.2.2.2.2.2.1.2.2.2.1 z.2.1.2.2.2.2.2.2.2.2.2.1.2.2.2.2.1 z.2.1.2.2.2.2.2.2.2.2.2.1.2.2.2.2.2.1 z.2.1.2.2.2.2.2.2.2.2.2.1.2.2.2.2.2.2.1 z.2.1.2.2.2.2.2.2.2.2.2.1.2.2.2.2.2.2.2.1 z.2.1.2.2.2.2.2.2.2.2.2.1.2.2.2.2.2.2.2.2.1 z.2.1.2.2.2.2.2.2.2.2.2.1.2.2.2.2.2.2.2.2.2.1 z.2.1.2.2.2.2.2.2.2.2.2.1.2.2.2.2.2.2.2.2.2.2.1 z.2.1.2.2.2.2.2.2.2.2.2.1.2.2.2.2.2.2.2.2.2.2.2.1 z.2.1.2.2.2.2.2.2.2.2.2.1.2.2.2.2.2.2.2.2.2.2.2.2.1 z.2.1.2.2.2.2.2.2.2.2.2.1.2.2.2.2.2.2.2.2.2.2.2.2.2.2.2.2.1 z.2.1.2.2.2.2.2.2.2.2.2.1.2.2.2.2.2.2.2.2.2.2.2.2.2.2.2.2.2.1 z.2.1.2.2.2.2.2.2.2.2.2.1.2.2.2.2.2.2.2.2.2.2.2.2.2.2.2.2.2.2.1 z.2.1.2.2.2.2.2.2.2.2.2.1.2.2.2.2.2.2.2.2.2.2.2.2.2.2.2.2.2.2.2.1 z.2.1.2.2.2.2.2.2.2.2.2.1.2.2.2.2.2.2.2.2.2.2.2.2.2.2.2.2.2.2.2.2.1 z.2.1.2.2.2.2.2.2.2.2.2.1.2.2.2.2.2.2.2.2.2.2.2.2.2.2.2.2.2.2.2.2.2.1 z.2.1.2.2.2.2.2.2.2.2.2.1.2.2.2.2.2.2.2.2.2.2.2.2.2.2.2.2.2.2.2.2.2.2.1 z.2.1.2.2.2.2.2.2.2.2.2.1.2.2.2.2.2.2.2.2.2.2.2.2.2.2.2.2.2.2.2.2.2.2.2.1 z.2.1.2.2.2.2.2.2.2.2.2.1.2.2.2.2.2.2.2.2.2.2.2.2.2.2.2.2.2.2.2.2.2.2.2.2.1 z.2.1.2.2.2.2.2.2.2.2.2.1.2.2.2.2.2.2.2.2.2.2.2.2.2.2.2.2.2.2.2.2.2.2.2.2.2.2.1 z.2.1.2.2.2.2.2.2.2.2.2.1.2.2.2.2.2.2.2.2.2.2.2.2.2.2.2.2.2.2.2.2.2.2.2.2.2.2.2.1 z.2.1.2.2.2.2.2.2.2.2.2.1.2.2.2.2.2.2.2.2.2.2.2.2.2.2.2.2.2.2.2.2.2.2.2.2.2.2.2.2.1 z.2.1.2.2.2.2.2.2.2.2.2.2.1.1 z.2.1.2.2.2.2.2.2.2.2.2.2.1.2.1 z.2.2.1 z.2.2.2.1 z.2.2.2.2.1 z.2.2.2.2.2.1 z.2.2.2.2.2.2.1
abbrev nc:Type:=(Unit×au×au×Int×Int×Unit)×DT6×bw×ed×bw×xT×bw×ed×bw×xT×Unit
abbrev wq:Type:=(Unit×au×Unit)×DT6×bw×ed×bw×xT×bw×ed×bw×xT×Unit
abbrev wB:Type:=Unit×ZW×Unit
noncomputable def oJ (v1 v2:au)(v3 v4 v5 v6 v7 v8 v9 v10 v11 v12 v13 v14 v15:Int)(v16:Bool)(v17:Int)(v18:bw)(v19:ed)(v20:bw)(v21 v22 v23 v24 v25 v26 v27 v28:Int)(v29:Bool)(v30 v31 v32 v33 v34 v35 v36 v37 v38 v39 v40:Int)(v41:Bool)(v42 v43 v44 v45:Int)(v46:bw)(v47:ed)(v48:bw)(v49 v50 v51 v52 v53 v54 v55 v56 v57 v58 v59:Int)(v60:Bool)(v61 v62 v63 v64 v65 v66 v67 v68 v69:Int)(v70:Bool)(v71 v72 v73:Int)(v74:bw)(v75:ed)(v76:bw)(v77:xT)(v78:bw)(v79:ed)(v80:bw)(v81:xT):Option (R3 nc wq wB):=
 cond (decide (v4<v3)) (
  cond ((decide (0≤v4))&&(decide (v4<(v2.length:Int)))) (
   ((f22 v79 (IntKind.wrap .i64 (Int.tdiv (rd aS v2 (Int.toNat v4)).1 8)) (Int.tmod (rd aS v2 (Int.toNat v4)).1 8))).bind fun y82=>
   cond ((decide (0≤y82.1))&&(decide (y82.1<(v79.length:Int)))) (
    cond (decide ((Int.toNat y82.1)<v79.length)) (
     ((f24 v79 (rd b9 v79 (Int.toNat y82.1)).2.1 (rd b9 v79 (Int.toNat y82.1)).2.2.1)).bind fun y83=>
     cond (decide (0<v59)) (
      ((f103 v80 (rd b9 v79 (Int.toNat y82.1)).2.1 (rd b9 v79 (Int.toNat y82.1)).2.2.1 (IntKind.wrap .i64 ((rd aS v2 (Int.toNat v4)).2+v59)))).bind fun y84=>
      cond ((decide (((v81.length+1) * 72)≤140737488355328))&&(decide ((v81.length+1)≤9223372036854775807))) (
       some (R3.next (((),v1,v2,v3,(IntKind.wrap .i64 (v4+1)),()),((v5,v6,v7,v8,v9,v10,v11,v12,v13,v14,v15,v16,v17,v18,v19,v20,()),(v21,v22,v23,v24,v25,v26,v27,v28,v29,()),(v30,v31,v32,v33,v34,v35,v36,v37,v38,v39,v40,v41,v42,(),(),(),()),((),()),(v43,v44,v45,()),((),(),(),(),(),(),(),(),(),()),v46,v47,v48,(v49,v50,v51,v52,v53,v54,v55,v56,v57,v58,v59,v60,v61,(),(),(),v62,v63,v64,v65,v66,v67,v68,v69,v70,(),v71,v72,v73,()),()),v74,v75,v76,v77,v78,y83.1,y84.1,(v81++[(1,(rd aS v2 (Int.toNat v4)).2,(rd b9 v79 (Int.toNat y82.1)).1,(rd b9 v79 (Int.toNat y82.1)).2.1,(rd b9 v79 (Int.toNat y82.1)).2.2.1,0,0,0,false)]),()))) (
       none)) (
      cond ((decide (((v81.length+1) * 72)≤140737488355328))&&(decide ((v81.length+1)≤9223372036854775807))) (
       some (R3.next (((),v1,v2,v3,(IntKind.wrap .i64 (v4+1)),()),((v5,v6,v7,v8,v9,v10,v11,v12,v13,v14,v15,v16,v17,v18,v19,v20,()),(v21,v22,v23,v24,v25,v26,v27,v28,v29,()),(v30,v31,v32,v33,v34,v35,v36,v37,v38,v39,v40,v41,v42,(),(),(),()),((),()),(v43,v44,v45,()),((),(),(),(),(),(),(),(),(),()),v46,v47,v48,(v49,v50,v51,v52,v53,v54,v55,v56,v57,v58,v59,v60,v61,(),(),(),v62,v63,v64,v65,v66,v67,v68,v69,v70,(),v71,v72,v73,()),()),v74,v75,v76,v77,v78,y83.1,v80,(v81++[(1,(rd aS v2 (Int.toNat v4)).2,(rd b9 v79 (Int.toNat y82.1)).1,(rd b9 v79 (Int.toNat y82.1)).2.1,(rd b9 v79 (Int.toNat y82.1)).2.2.1,0,0,0,false)]),()))) (
       none))) (
     none)) (
    none)) (
   none)) (
  some (R3.out (((),v1,()),((v5,v6,v7,v8,v9,v10,v11,v12,v13,v14,v15,v16,v17,v18,v19,v20,()),(v21,v22,v23,v24,v25,v26,v27,v28,v29,()),(v30,v31,v32,v33,v34,v35,v36,v37,v38,v39,v40,v41,v42,(),(),(),()),((),()),(v43,v44,v45,()),((),(),(),(),(),(),(),(),(),()),v46,v47,v48,(v49,v50,v51,v52,v53,v54,v55,v56,v57,v58,v59,v60,v61,(),(),(),v62,v63,v64,v65,v66,v67,v68,v69,v70,(),v71,v72,v73,()),()),v74,v75,v76,v77,v78,v79,v80,v81,())))
noncomputable def e6 (z:nc):Option (R3 nc wq wB):=oJ z.1.2.1 z.1.2.2.1 z.1.2.2.2.1 z.1.2.2.2.2.1 z.2.1.1.1 z.2.1.1.2.1 z.2.1.1.2.2.1 z.2.1.1.2.2.2.1 z.2.1.1.2.2.2.2.1 z.2.1.1.2.2.2.2.2.1 z.2.1.1.2.2.2.2.2.2.1 z.2.1.1.2.2.2.2.2.2.2.1 z.2.1.1.2.2.2.2.2.2.2.2.1 z.2.1.1.2.2.2.2.2.2.2.2.2.1 z.2.1.1.2.2.2.2.2.2.2.2.2.2.1 z.2.1.1.2.2.2.2.2.2.2.2.2.2.2.1 z.2.1.1.2.2.2.2.2.2.2.2.2.2.2.2.1 z.2.1.1.2.2.2.2.2.2.2.2.2.2.2.2.2.1 z.2.1.1.2.2.2.2.2.2.2.2.2.2.2.2.2.2.1 z.2.1.1.2.2.2.2.2.2.2.2.2.2.2.2.2.2.2.1 z.2.1.2.1.1 z.2.1.2.1.2.1 z.2.1.2.1.2.2.1 z.2.1.2.1.2.2.2.1 z.2.1.2.1.2.2.2.2.1 z.2.1.2.1.2.2.2.2.2.1 z.2.1.2.1.2.2.2.2.2.2.1 z.2.1.2.1.2.2.2.2.2.2.2.1 z.2.1.2.1.2.2.2.2.2.2.2.2.1 z.2.1.2.2.1.1 z.2.1.2.2.1.2.1 z.2.1.2.2.1.2.2.1 z.2.1.2.2.1.2.2.2.1 z.2.1.2.2.1.2.2.2.2.1 z.2.1.2.2.1.2.2.2.2.2.1 z.2.1.2.2.1.2.2.2.2.2.2.1 z.2.1.2.2.1.2.2.2.2.2.2.2.1 z.2.1.2.2.1.2.2.2.2.2.2.2.2.1 z.2.1.2.2.1.2.2.2.2.2.2.2.2.2.1 z.2.1.2.2.1.2.2.2.2.2.2.2.2.2.2.1 z.2.1.2.2.1.2.2.2.2.2.2.2.2.2.2.2.1 z.2.1.2.2.1.2.2.2.2.2.2.2.2.2.2.2.2.1 z.2.1.2.2.2.2.1.1 z.2.1.2.2.2.2.1.2.1 z.2.1.2.2.2.2.1.2.2.1 z.2.1.2.2.2.2.2.2.1 z.2.1.2.2.2.2.2.2.2.1 z.2.1.2.2.2.2.2.2.2.2.1 z.2.1.2.2.2.2.2.2.2.2.2.1.1 z.2.1.2.2.2.2.2.2.2.2.2.1.2.1 z.2.1.2.2.2.2.2.2.2.2.2.1.2.2.1 z.2.1.2.2.2.2.2.2.2.2.2.1.2.2.2.1 z.2.1.2.2.2.2.2.2.2.2.2.1.2.2.2.2.1 z.2.1.2.2.2.2.2.2.2.2.2.1.2.2.2.2.2.1 z.2.1.2.2.2.2.2.2.2.2.2.1.2.2.2.2.2.2.1 z.2.1.2.2.2.2.2.2.2.2.2.1.2.2.2.2.2.2.2.1 z.2.1.2.2.2.2.2.2.2.2.2.1.2.2.2.2.2.2.2.2.1 z.2.1.2.2.2.2.2.2.2.2.2.1.2.2.2.2.2.2.2.2.2.1 z.2.1.2.2.2.2.2.2.2.2.2.1.2.2.2.2.2.2.2.2.2.2.1 z.2.1.2.2.2.2.2.2.2.2.2.1.2.2.2.2.2.2.2.2.2.2.2.1 z.2.1.2.2.2.2.2.2.2.2.2.1.2.2.2.2.2.2.2.2.2.2.2.2.1 z.2.1.2.2.2.2.2.2.2.2.2.1.2.2.2.2.2.2.2.2.2.2.2.2.2.2.2.2.1 z.2.1.2.2.2.2.2.2.2.2.2.1.2.2.2.2.2.2.2.2.2.2.2.2.2.2.2.2.2.1 z.2.1.2.2.2.2.2.2.2.2.2.1.2.2.2.2.2.2.2.2.2.2.2.2.2.2.2.2.2.2.1 z.2.1.2.2.2.2.2.2.2.2.2.1.2.2.2.2.2.2.2.2.2.2.2.2.2.2.2.2.2.2.2.1 z.2.1.2.2.2.2.2.2.2.2.2.1.2.2.2.2.2.2.2.2.2.2.2.2.2.2.2.2.2.2.2.2.1 z.2.1.2.2.2.2.2.2.2.2.2.1.2.2.2.2.2.2.2.2.2.2.2.2.2.2.2.2.2.2.2.2.2.1 z.2.1.2.2.2.2.2.2.2.2.2.1.2.2.2.2.2.2.2.2.2.2.2.2.2.2.2.2.2.2.2.2.2.2.1 z.2.1.2.2.2.2.2.2.2.2.2.1.2.2.2.2.2.2.2.2.2.2.2.2.2.2.2.2.2.2.2.2.2.2.2.1 z.2.1.2.2.2.2.2.2.2.2.2.1.2.2.2.2.2.2.2.2.2.2.2.2.2.2.2.2.2.2.2.2.2.2.2.2.1 z.2.1.2.2.2.2.2.2.2.2.2.1.2.2.2.2.2.2.2.2.2.2.2.2.2.2.2.2.2.2.2.2.2.2.2.2.2.2.1 z.2.1.2.2.2.2.2.2.2.2.2.1.2.2.2.2.2.2.2.2.2.2.2.2.2.2.2.2.2.2.2.2.2.2.2.2.2.2.2.1 z.2.1.2.2.2.2.2.2.2.2.2.1.2.2.2.2.2.2.2.2.2.2.2.2.2.2.2.2.2.2.2.2.2.2.2.2.2.2.2.2.1 z.2.2.1 z.2.2.2.1 z.2.2.2.2.1 z.2.2.2.2.2.1 z.2.2.2.2.2.2.1 z.2.2.2.2.2.2.2.1 z.2.2.2.2.2.2.2.2.1 z.2.2.2.2.2.2.2.2.2.1
noncomputable def f13 (v1 v2 v3 v4 v5 v6 v7 v8 v9 v10 v11:Int)(v12:Bool)(v13:Int)(v14:bw)(v15:ed)(v16:bw)(v17 v18 v19 v20 v21 v22 v23 v24:Int)(v25:Bool):Option (WO×xT×(Int×Int×Int)×Unit):=
 ((f15 v1 v2 v3 v4 v5 v6 v7 v8 v9 v10 v11 v12 v13 v14 v15 v16)).bind fun y26=>
 cond y26.1 (
  cond (decide (0≤v17)) (
   cond (!(decide (v17<9))) (
    ((f40 v1 v2 v3 v4 v5 v6 v7 v8 v9 v10 v11 v12 v13 v14 v15 v16)).bind fun y27=>
    some ((((y27.1.1.1.1,y27.1.1.1.2),(y27.1.1.2.1.1,y27.1.1.2.1.2),y27.1.1.2.2.1,y27.1.1.2.2.2.1,y27.1.1.2.2.2.2.1,y27.1.1.2.2.2.2.2),(y27.1.2.1.1,y27.1.2.1.2.1,y27.1.2.1.2.2.1,y27.1.2.1.2.2.2),y27.1.2.2.1,y27.1.2.2.2.1,y27.1.2.2.2.2.1,y27.1.2.2.2.2.2),[],(1,0,0),())) (
    ((f40 v1 v2 v3 v4 v5 v6 v7 v8 v9 v10 v11 v12 v13 v14 v15 v16)).bind fun y28=>
    cond (decide (v17=0)) (
     ((f19 y28.1.1.1.1 y28.1.1.1.2 y28.1.1.2.1.1 y28.1.1.2.1.2 y28.1.1.2.2.1 y28.1.1.2.2.2.1 y28.1.1.2.2.2.2.1 y28.1.1.2.2.2.2.2 v18)).bind fun y29=>
     cond (!y29.2.1) (
      ((f40 v1 v2 v3 v4 v5 v6 v7 v8 v9 v10 v11 v12 v13 v14 v15 v16)).bind fun y30=>
      some ((((y30.1.1.1.1,y30.1.1.1.2),(y30.1.1.2.1.1,y30.1.1.2.1.2),y30.1.1.2.2.1,y30.1.1.2.2.2.1,y30.1.1.2.2.2.2.1,y30.1.1.2.2.2.2.2),(y30.1.2.1.1,y30.1.2.1.2.1,y30.1.2.1.2.2.1,y30.1.2.1.2.2.2),y30.1.2.2.1,y30.1.2.2.2.1,y30.1.2.2.2.2.1,y30.1.2.2.2.2.2),[],(5,0,0),())) (
      ((f21 y28.1.2.2.2.2.1 v18)).bind fun y31=>
      cond (!(decide ((y31.1.length:Int)<y28.1.2.1.1))) (
       ((f40 v1 v2 v3 v4 v5 v6 v7 v8 v9 v10 v11 v12 v13 v14 v15 v16)).bind fun y32=>
       some ((((y32.1.1.1.1,y32.1.1.1.2),(y32.1.1.2.1.1,y32.1.1.2.1.2),y32.1.1.2.2.1,y32.1.1.2.2.2.1,y32.1.1.2.2.2.2.1,y32.1.1.2.2.2.2.2),(y32.1.2.1.1,y32.1.2.1.2.1,y32.1.2.1.2.2.1,y32.1.2.1.2.2.2),y32.1.2.2.1,y32.1.2.2.2.1,y32.1.2.2.2.2.1,y32.1.2.2.2.2.2),[],(6,0,0),())) (
       ((f46 y28.1.1.1.1 y28.1.1.1.2 y28.1.1.2.1.1 y28.1.1.2.1.2 y28.1.1.2.2.1 y28.1.1.2.2.2.1 y28.1.1.2.2.2.2.1 y28.1.1.2.2.2.2.2 y28.1.2.1.1 y28.1.2.1.2.1 y28.1.2.1.2.2.1 y28.1.2.1.2.2.2 y28.1.2.2.1 y28.1.2.2.2.1 y28.1.2.2.2.2.1 y28.1.2.2.2.2.2)).bind fun y33=>
       cond y28.1.2.1.2.2.2 (
        ((f20 y28.1.2.2.2.1 y29.1.1)).bind fun y34=>
        cond (!(!(decide (y34.1=(-1))))) (
         ((f40 v1 v2 v3 v4 v5 v6 v7 v8 v9 v10 v11 v12 v13 v14 v15 v16)).bind fun y35=>
         some ((((y35.1.1.1.1,y35.1.1.1.2),(y35.1.1.2.1.1,y35.1.1.2.1.2),y35.1.1.2.2.1,y35.1.1.2.2.2.1,y35.1.1.2.2.2.2.1,y35.1.1.2.2.2.2.2),(y35.1.2.1.1,y35.1.2.1.2.1,y35.1.2.1.2.2.1,y35.1.2.1.2.2.2),y35.1.2.2.1,y35.1.2.2.2.1,y35.1.2.2.2.2.1,y35.1.2.2.2.2.2),[],(7,0,0),())) (
         ((f23 y28.1.2.2.2.1 y29.1.1)).bind fun y36=>
         cond (!y36.1) (
          ((f40 v1 v2 v3 v4 v5 v6 v7 v8 v9 v10 v11 v12 v13 v14 v15 v16)).bind fun y37=>
          some ((((y37.1.1.1.1,y37.1.1.1.2),(y37.1.1.2.1.1,y37.1.1.2.1.2),y37.1.1.2.2.1,y37.1.1.2.2.2.1,y37.1.1.2.2.2.2.1,y37.1.1.2.2.2.2.2),(y37.1.2.1.1,y37.1.2.1.2.1,y37.1.2.1.2.2.1,y37.1.2.1.2.2.2),y37.1.2.2.1,y37.1.2.2.2.1,y37.1.2.2.2.2.1,y37.1.2.2.2.2.2),[],(8,0,0),())) (
          ((iter aC dH (((),y29.1.1,(IntKind.wrap .i64 (y29.1.1+1)),()),((v1,v2,v3,v4,v5,v6,v7,v8,v9,v10,v11,v12,v13,v14,v15,v16,()),(v17,v18,v19,v20,v21,v22,v23,v24,v25,()),(0,0,0,0,0,0,0,0,0,0,0,false,0,(),(),(),()),((),()),(0,0,0,()),((),(),(),(),(),(),(),(),(),()),y28.1.2.2.2.1,y28.1.2.2.2.2.1,y28.1.2.2.2.2.2,(y28.1.1.1.1,y28.1.1.1.2,y28.1.1.2.1.1,y28.1.1.2.1.2,y28.1.1.2.2.1,y28.1.1.2.2.2.1,y28.1.1.2.2.2.2.1,y28.1.1.2.2.2.2.2,y28.1.2.1.1,y28.1.2.1.2.1,y28.1.2.1.2.2.1,y28.1.2.1.2.2.2,y28.1.2.2.1,(),(),(),v17,v18,v19,v20,v21,v22,v23,v24,v25,(),0,0,0,()),()),[],[],[],[],[],()))).bind fun r=>match r with
          | .inl y38=>
            cond (!(decide (y38.1.2.1<y38.1.2.2.1))) (
             ((f40 y38.2.1.1.1 y38.2.1.1.2.1 y38.2.1.1.2.2.1 y38.2.1.1.2.2.2.1 y38.2.1.1.2.2.2.2.1 y38.2.1.1.2.2.2.2.2.1 y38.2.1.1.2.2.2.2.2.2.1 y38.2.1.1.2.2.2.2.2.2.2.1 y38.2.1.1.2.2.2.2.2.2.2.2.1 y38.2.1.1.2.2.2.2.2.2.2.2.2.1 y38.2.1.1.2.2.2.2.2.2.2.2.2.2.1 y38.2.1.1.2.2.2.2.2.2.2.2.2.2.2.1 y38.2.1.1.2.2.2.2.2.2.2.2.2.2.2.2.1 y38.2.1.1.2.2.2.2.2.2.2.2.2.2.2.2.2.1 y38.2.1.1.2.2.2.2.2.2.2.2.2.2.2.2.2.2.1 y38.2.1.1.2.2.2.2.2.2.2.2.2.2.2.2.2.2.2.1)).bind fun y40=>
             some ((((y40.1.1.1.1,y40.1.1.1.2),(y40.1.1.2.1.1,y40.1.1.2.1.2),y40.1.1.2.2.1,y40.1.1.2.2.2.1,y40.1.1.2.2.2.2.1,y40.1.1.2.2.2.2.2),(y40.1.2.1.1,y40.1.2.1.2.1,y40.1.2.1.2.2.1,y40.1.2.1.2.2.2),y40.1.2.2.1,y40.1.2.2.2.1,y40.1.2.2.2.2.1,y40.1.2.2.2.2.2),[],(7,0,0),())) (
             ((f23 y38.2.1.2.2.2.2.2.2.1 y38.1.2.1)).bind fun y41=>
             cond (!y41.1) (
              ((f63 y38.2.1.2.2.2.2.2.2.2.1 y38.2.1.2.2.2.2.2.2.2.2.2.1.2.2.2.2.2.2.2.2.2.2.2.2.2.2.2.2.2.1 y38.1.2.1 (-1) y38.2.1.2.2.2.2.2.2.2.2.2.1.2.2.2.2.2.2.2.2.2.2.2.2.1 y38.2.1.2.2.2.2.2.2.2.2.2.1.2.2.2.2.2.2.2.2.2.2.2.2.1)).bind fun y42=>
              cond ((decide (((y38.2.2.2.2.2.2.1.length+1) * 72)≤140737488355328))&&(decide ((y38.2.2.2.2.2.2.1.length+1)≤9223372036854775807))) (
               some ((((y38.2.1.2.2.2.2.2.2.2.2.2.1.1,y38.2.1.2.2.2.2.2.2.2.2.2.1.2.1),(y38.2.1.2.2.2.2.2.2.2.2.2.1.2.2.1,y38.2.1.2.2.2.2.2.2.2.2.2.1.2.2.2.1),y38.2.1.2.2.2.2.2.2.2.2.2.1.2.2.2.2.1,y38.2.1.2.2.2.2.2.2.2.2.2.1.2.2.2.2.2.1,y38.2.1.2.2.2.2.2.2.2.2.2.1.2.2.2.2.2.2.1,y38.2.1.2.2.2.2.2.2.2.2.2.1.2.2.2.2.2.2.2.1),(y38.2.1.2.2.2.2.2.2.2.2.2.1.2.2.2.2.2.2.2.2.1,y38.2.1.2.2.2.2.2.2.2.2.2.1.2.2.2.2.2.2.2.2.2.1,y38.2.1.2.2.2.2.2.2.2.2.2.1.2.2.2.2.2.2.2.2.2.2.1,y38.2.1.2.2.2.2.2.2.2.2.2.1.2.2.2.2.2.2.2.2.2.2.2.1),y38.2.1.2.2.2.2.2.2.2.2.2.1.2.2.2.2.2.2.2.2.2.2.2.2.1,y38.2.1.2.2.2.2.2.2.1,y42.1,y38.2.1.2.2.2.2.2.2.2.2.1),(y38.2.2.2.2.2.2.1++[(0,y38.2.1.2.2.2.2.2.2.2.2.2.1.2.2.2.2.2.2.2.2.2.2.2.2.1,y38.2.1.2.2.2.2.2.2.2.2.2.1.2.2.2.2.2.2.2.2.2.2.2.2.2.2.2.2.2.1,y38.1.2.1,(-1),0,0,0,false)]),(0,y38.1.2.1,(-1)),())) (
               none)) (
              ((f100 y38.2.1.2.2.2.2.2.2.2.2.2.1.1 y38.2.1.2.2.2.2.2.2.2.2.2.1.2.1 y38.2.1.2.2.2.2.2.2.2.2.2.1.2.2.1 y38.2.1.2.2.2.2.2.2.2.2.2.1.2.2.2.1 y38.2.1.2.2.2.2.2.2.2.2.2.1.2.2.2.2.1 y38.2.1.2.2.2.2.2.2.2.2.2.1.2.2.2.2.2.1 y38.2.1.2.2.2.2.2.2.2.2.2.1.2.2.2.2.2.2.1 y38.2.1.2.2.2.2.2.2.2.2.2.1.2.2.2.2.2.2.2.1 y38.2.1.2.2.2.2.2.2.2.1 y38.2.1.2.2.2.2.2.2.2.2.1 y38.1.2.1)).bind fun y43=>
              ((f99 y43.1.1 y43.1.2)).bind fun y44=>
              ((f63 y38.2.1.2.2.2.2.2.2.2.1 y38.2.1.2.2.2.2.2.2.2.2.2.1.2.2.2.2.2.2.2.2.2.2.2.2.2.2.2.2.2.1 y38.1.2.1 y44.1 y38.2.1.2.2.2.2.2.2.2.2.2.1.2.2.2.2.2.2.2.2.2.2.2.2.1 y38.2.1.2.2.2.2.2.2.2.2.2.1.2.2.2.2.2.2.2.2.2.2.2.2.1)).bind fun y45=>
              cond ((decide (((y38.2.2.2.2.2.2.1.length+1) * 72)≤140737488355328))&&(decide ((y38.2.2.2.2.2.2.1.length+1)≤9223372036854775807))) (
               some ((((y38.2.1.2.2.2.2.2.2.2.2.2.1.1,y38.2.1.2.2.2.2.2.2.2.2.2.1.2.1),(y38.2.1.2.2.2.2.2.2.2.2.2.1.2.2.1,y38.2.1.2.2.2.2.2.2.2.2.2.1.2.2.2.1),y38.2.1.2.2.2.2.2.2.2.2.2.1.2.2.2.2.1,y38.2.1.2.2.2.2.2.2.2.2.2.1.2.2.2.2.2.1,y38.2.1.2.2.2.2.2.2.2.2.2.1.2.2.2.2.2.2.1,y38.2.1.2.2.2.2.2.2.2.2.2.1.2.2.2.2.2.2.2.1),(y38.2.1.2.2.2.2.2.2.2.2.2.1.2.2.2.2.2.2.2.2.1,y38.2.1.2.2.2.2.2.2.2.2.2.1.2.2.2.2.2.2.2.2.2.1,y38.2.1.2.2.2.2.2.2.2.2.2.1.2.2.2.2.2.2.2.2.2.2.1,y38.2.1.2.2.2.2.2.2.2.2.2.1.2.2.2.2.2.2.2.2.2.2.2.1),y38.2.1.2.2.2.2.2.2.2.2.2.1.2.2.2.2.2.2.2.2.2.2.2.2.1,y38.2.1.2.2.2.2.2.2.1,y45.1,y38.2.1.2.2.2.2.2.2.2.2.1),(y38.2.2.2.2.2.2.1++[(0,y38.2.1.2.2.2.2.2.2.2.2.2.1.2.2.2.2.2.2.2.2.2.2.2.2.1,y38.2.1.2.2.2.2.2.2.2.2.2.1.2.2.2.2.2.2.2.2.2.2.2.2.2.2.2.2.2.1,y38.1.2.1,y44.1,0,0,0,false)]),(0,y38.1.2.1,y44.1),())) (
               none)))
          | .inr z39=>
            none))) (
        ((iter aC dH (((),0,y33.1,()),((v1,v2,v3,v4,v5,v6,v7,v8,v9,v10,v11,v12,v13,v14,v15,v16,()),(v17,v18,v19,v20,v21,v22,v23,v24,v25,()),(0,0,0,0,0,0,0,0,0,0,0,false,0,(),(),(),()),((),()),(0,0,0,()),((),(),(),(),(),(),(),(),(),()),y28.1.2.2.2.1,y28.1.2.2.2.2.1,y28.1.2.2.2.2.2,(y28.1.1.1.1,y28.1.1.1.2,y28.1.1.2.1.1,y28.1.1.2.1.2,y28.1.1.2.2.1,y28.1.1.2.2.2.1,y28.1.1.2.2.2.2.1,y28.1.1.2.2.2.2.2,y28.1.2.1.1,y28.1.2.1.2.1,y28.1.2.1.2.2.1,y28.1.2.1.2.2.2,y28.1.2.2.1,(),(),(),v17,v18,v19,v20,v21,v22,v23,v24,v25,(),0,0,0,()),()),[],[],[],[],[],()))).bind fun r=>match r with
        | .inl y46=>
          cond (!(decide (y46.1.2.1<y46.1.2.2.1))) (
           ((f40 y46.2.1.1.1 y46.2.1.1.2.1 y46.2.1.1.2.2.1 y46.2.1.1.2.2.2.1 y46.2.1.1.2.2.2.2.1 y46.2.1.1.2.2.2.2.2.1 y46.2.1.1.2.2.2.2.2.2.1 y46.2.1.1.2.2.2.2.2.2.2.1 y46.2.1.1.2.2.2.2.2.2.2.2.1 y46.2.1.1.2.2.2.2.2.2.2.2.2.1 y46.2.1.1.2.2.2.2.2.2.2.2.2.2.1 y46.2.1.1.2.2.2.2.2.2.2.2.2.2.2.1 y46.2.1.1.2.2.2.2.2.2.2.2.2.2.2.2.1 y46.2.1.1.2.2.2.2.2.2.2.2.2.2.2.2.2.1 y46.2.1.1.2.2.2.2.2.2.2.2.2.2.2.2.2.2.1 y46.2.1.1.2.2.2.2.2.2.2.2.2.2.2.2.2.2.2.1)).bind fun y48=>
           some ((((y48.1.1.1.1,y48.1.1.1.2),(y48.1.1.2.1.1,y48.1.1.2.1.2),y48.1.1.2.2.1,y48.1.1.2.2.2.1,y48.1.1.2.2.2.2.1,y48.1.1.2.2.2.2.2),(y48.1.2.1.1,y48.1.2.1.2.1,y48.1.2.1.2.2.1,y48.1.2.1.2.2.2),y48.1.2.2.1,y48.1.2.2.2.1,y48.1.2.2.2.2.1,y48.1.2.2.2.2.2),[],(7,0,0),())) (
           ((f23 y46.2.1.2.2.2.2.2.2.1 y46.1.2.1)).bind fun y49=>
           cond (!y49.1) (
            ((f63 y46.2.1.2.2.2.2.2.2.2.1 y46.2.1.2.2.2.2.2.2.2.2.2.1.2.2.2.2.2.2.2.2.2.2.2.2.2.2.2.2.2.1 y46.1.2.1 (-1) y46.2.1.2.2.2.2.2.2.2.2.2.1.2.2.2.2.2.2.2.2.2.2.2.2.1 y46.2.1.2.2.2.2.2.2.2.2.2.1.2.2.2.2.2.2.2.2.2.2.2.2.1)).bind fun y50=>
            cond ((decide (((y46.2.2.2.2.2.2.1.length+1) * 72)≤140737488355328))&&(decide ((y46.2.2.2.2.2.2.1.length+1)≤9223372036854775807))) (
             some ((((y46.2.1.2.2.2.2.2.2.2.2.2.1.1,y46.2.1.2.2.2.2.2.2.2.2.2.1.2.1),(y46.2.1.2.2.2.2.2.2.2.2.2.1.2.2.1,y46.2.1.2.2.2.2.2.2.2.2.2.1.2.2.2.1),y46.2.1.2.2.2.2.2.2.2.2.2.1.2.2.2.2.1,y46.2.1.2.2.2.2.2.2.2.2.2.1.2.2.2.2.2.1,y46.2.1.2.2.2.2.2.2.2.2.2.1.2.2.2.2.2.2.1,y46.2.1.2.2.2.2.2.2.2.2.2.1.2.2.2.2.2.2.2.1),(y46.2.1.2.2.2.2.2.2.2.2.2.1.2.2.2.2.2.2.2.2.1,y46.2.1.2.2.2.2.2.2.2.2.2.1.2.2.2.2.2.2.2.2.2.1,y46.2.1.2.2.2.2.2.2.2.2.2.1.2.2.2.2.2.2.2.2.2.2.1,y46.2.1.2.2.2.2.2.2.2.2.2.1.2.2.2.2.2.2.2.2.2.2.2.1),y46.2.1.2.2.2.2.2.2.2.2.2.1.2.2.2.2.2.2.2.2.2.2.2.2.1,y46.2.1.2.2.2.2.2.2.1,y50.1,y46.2.1.2.2.2.2.2.2.2.2.1),(y46.2.2.2.2.2.2.1++[(0,y46.2.1.2.2.2.2.2.2.2.2.2.1.2.2.2.2.2.2.2.2.2.2.2.2.1,y46.2.1.2.2.2.2.2.2.2.2.2.1.2.2.2.2.2.2.2.2.2.2.2.2.2.2.2.2.2.1,y46.1.2.1,(-1),0,0,0,false)]),(0,y46.1.2.1,(-1)),())) (
             none)) (
            ((f100 y46.2.1.2.2.2.2.2.2.2.2.2.1.1 y46.2.1.2.2.2.2.2.2.2.2.2.1.2.1 y46.2.1.2.2.2.2.2.2.2.2.2.1.2.2.1 y46.2.1.2.2.2.2.2.2.2.2.2.1.2.2.2.1 y46.2.1.2.2.2.2.2.2.2.2.2.1.2.2.2.2.1 y46.2.1.2.2.2.2.2.2.2.2.2.1.2.2.2.2.2.1 y46.2.1.2.2.2.2.2.2.2.2.2.1.2.2.2.2.2.2.1 y46.2.1.2.2.2.2.2.2.2.2.2.1.2.2.2.2.2.2.2.1 y46.2.1.2.2.2.2.2.2.2.1 y46.2.1.2.2.2.2.2.2.2.2.1 y46.1.2.1)).bind fun y51=>
            ((f99 y51.1.1 y51.1.2)).bind fun y52=>
            ((f63 y46.2.1.2.2.2.2.2.2.2.1 y46.2.1.2.2.2.2.2.2.2.2.2.1.2.2.2.2.2.2.2.2.2.2.2.2.2.2.2.2.2.1 y46.1.2.1 y52.1 y46.2.1.2.2.2.2.2.2.2.2.2.1.2.2.2.2.2.2.2.2.2.2.2.2.1 y46.2.1.2.2.2.2.2.2.2.2.2.1.2.2.2.2.2.2.2.2.2.2.2.2.1)).bind fun y53=>
            cond ((decide (((y46.2.2.2.2.2.2.1.length+1) * 72)≤140737488355328))&&(decide ((y46.2.2.2.2.2.2.1.length+1)≤9223372036854775807))) (
             some ((((y46.2.1.2.2.2.2.2.2.2.2.2.1.1,y46.2.1.2.2.2.2.2.2.2.2.2.1.2.1),(y46.2.1.2.2.2.2.2.2.2.2.2.1.2.2.1,y46.2.1.2.2.2.2.2.2.2.2.2.1.2.2.2.1),y46.2.1.2.2.2.2.2.2.2.2.2.1.2.2.2.2.1,y46.2.1.2.2.2.2.2.2.2.2.2.1.2.2.2.2.2.1,y46.2.1.2.2.2.2.2.2.2.2.2.1.2.2.2.2.2.2.1,y46.2.1.2.2.2.2.2.2.2.2.2.1.2.2.2.2.2.2.2.1),(y46.2.1.2.2.2.2.2.2.2.2.2.1.2.2.2.2.2.2.2.2.1,y46.2.1.2.2.2.2.2.2.2.2.2.1.2.2.2.2.2.2.2.2.2.1,y46.2.1.2.2.2.2.2.2.2.2.2.1.2.2.2.2.2.2.2.2.2.2.1,y46.2.1.2.2.2.2.2.2.2.2.2.1.2.2.2.2.2.2.2.2.2.2.2.1),y46.2.1.2.2.2.2.2.2.2.2.2.1.2.2.2.2.2.2.2.2.2.2.2.2.1,y46.2.1.2.2.2.2.2.2.1,y53.1,y46.2.1.2.2.2.2.2.2.2.2.1),(y46.2.2.2.2.2.2.1++[(0,y46.2.1.2.2.2.2.2.2.2.2.2.1.2.2.2.2.2.2.2.2.2.2.2.2.1,y46.2.1.2.2.2.2.2.2.2.2.2.1.2.2.2.2.2.2.2.2.2.2.2.2.2.2.2.2.2.1,y46.1.2.1,y52.1,0,0,0,false)]),(0,y46.1.2.1,y52.1),())) (
             none)))
        | .inr z47=>
          none)))) (
     cond (decide (v17=1)) (
      ((f22 y28.1.2.2.2.2.1 v19 v20)).bind fun y54=>
      cond (!(decide (y54.1=(-1)))) (
       cond ((decide (0≤y54.1))&&(decide (y54.1<(y28.1.2.2.2.2.1.length:Int)))) (
        cond (decide ((Int.toNat y54.1)<y28.1.2.2.2.2.1.length)) (
         cond (!(decide ((rd b9 y28.1.2.2.2.2.1 (Int.toNat y54.1)).1=v18))) (
          ((f40 v1 v2 v3 v4 v5 v6 v7 v8 v9 v10 v11 v12 v13 v14 v15 v16)).bind fun y55=>
          some ((((y55.1.1.1.1,y55.1.1.1.2),(y55.1.1.2.1.1,y55.1.1.2.1.2),y55.1.1.2.2.1,y55.1.1.2.2.2.1,y55.1.1.2.2.2.2.1,y55.1.1.2.2.2.2.2),(y55.1.2.1.1,y55.1.2.1.2.1,y55.1.2.1.2.2.1,y55.1.2.1.2.2.2),y55.1.2.2.1,y55.1.2.2.2.1,y55.1.2.2.2.2.1,y55.1.2.2.2.2.2),[],(5,0,0),())) (
          cond ((decide (0≤y54.1))&&(decide (y54.1<(y28.1.2.2.2.2.1.length:Int)))) (
           cond (decide ((Int.toNat y54.1)<y28.1.2.2.2.2.1.length)) (
            some ((((y28.1.1.1.1,y28.1.1.1.2),(y28.1.1.2.1.1,y28.1.1.2.1.2),y28.1.1.2.2.1,y28.1.1.2.2.2.1,y28.1.1.2.2.2.2.1,y28.1.1.2.2.2.2.2),(y28.1.2.1.1,y28.1.2.1.2.1,y28.1.2.1.2.2.1,y28.1.2.1.2.2.2),y28.1.2.2.1,y28.1.2.2.2.1,(y28.1.2.2.2.2.1.set (Int.toNat y54.1) ((rd b9 y28.1.2.2.2.2.1 (Int.toNat y54.1)).1,(rd b9 y28.1.2.2.2.2.1 (Int.toNat y54.1)).2.1,(rd b9 y28.1.2.2.2.2.1 (Int.toNat y54.1)).2.2.1,(rd b9 y28.1.2.2.2.2.1 (Int.toNat y54.1)).2.2.2.1,y28.1.2.2.1)),y28.1.2.2.2.2.2),[],(0,v19,v20),())) (
            none)) (
           none))) (
         none)) (
        none)) (
       ((f40 v1 v2 v3 v4 v5 v6 v7 v8 v9 v10 v11 v12 v13 v14 v15 v16)).bind fun y56=>
       some ((((y56.1.1.1.1,y56.1.1.1.2),(y56.1.1.2.1.1,y56.1.1.2.1.2),y56.1.1.2.2.1,y56.1.1.2.2.2.1,y56.1.1.2.2.2.2.1,y56.1.1.2.2.2.2.2),(y56.1.2.1.1,y56.1.2.1.2.1,y56.1.2.1.2.2.1,y56.1.2.1.2.2.2),y56.1.2.2.1,y56.1.2.2.2.1,y56.1.2.2.2.2.1,y56.1.2.2.2.2.2),[],(5,0,0),()))) (
      cond (decide (v17=2)) (
       ((f22 y28.1.2.2.2.2.1 v19 v20)).bind fun y57=>
       cond (!(decide (y57.1=(-1)))) (
        cond ((decide (0≤y57.1))&&(decide (y57.1<(y28.1.2.2.2.2.1.length:Int)))) (
         cond (decide ((Int.toNat y57.1)<y28.1.2.2.2.2.1.length)) (
          cond (!(decide ((rd b9 y28.1.2.2.2.2.1 (Int.toNat y57.1)).1=v18))) (
           ((f40 v1 v2 v3 v4 v5 v6 v7 v8 v9 v10 v11 v12 v13 v14 v15 v16)).bind fun y58=>
           some ((((y58.1.1.1.1,y58.1.1.1.2),(y58.1.1.2.1.1,y58.1.1.2.1.2),y58.1.1.2.2.1,y58.1.1.2.2.2.1,y58.1.1.2.2.2.2.1,y58.1.1.2.2.2.2.2),(y58.1.2.1.1,y58.1.2.1.2.1,y58.1.2.1.2.2.1,y58.1.2.1.2.2.2),y58.1.2.2.1,y58.1.2.2.2.1,y58.1.2.2.2.2.1,y58.1.2.2.2.2.2),[],(5,0,0),())) (
           cond ((decide (0≤y57.1))&&(decide (y57.1<(y28.1.2.2.2.2.1.length:Int)))) (
            cond (decide ((Int.toNat y57.1)<y28.1.2.2.2.2.1.length)) (
             cond (decide (y28.1.2.2.1=y28.1.2.2.1)) (
              ((f24 y28.1.2.2.2.2.1 (rd b9 y28.1.2.2.2.2.1 (Int.toNat y57.1)).2.1 (rd b9 y28.1.2.2.2.2.1 (Int.toNat y57.1)).2.2.1)).bind fun y59=>
              cond (decide (0<y28.1.2.1.2.2.1)) (
               ((f103 y28.1.2.2.2.2.2 (rd b9 y28.1.2.2.2.2.1 (Int.toNat y57.1)).2.1 (rd b9 y28.1.2.2.2.2.1 (Int.toNat y57.1)).2.2.1 (IntKind.wrap .i64 (y28.1.2.2.1+y28.1.2.1.2.2.1)))).bind fun y60=>
               cond ((decide (72≤140737488355328))&&(decide (1≤9223372036854775807))) (
                some ((((y28.1.1.1.1,y28.1.1.1.2),(y28.1.1.2.1.1,y28.1.1.2.1.2),y28.1.1.2.2.1,y28.1.1.2.2.2.1,y28.1.1.2.2.2.2.1,y28.1.1.2.2.2.2.2),(y28.1.2.1.1,y28.1.2.1.2.1,y28.1.2.1.2.2.1,y28.1.2.1.2.2.2),y28.1.2.2.1,y28.1.2.2.2.1,y59.1,y60.1),[(1,y28.1.2.2.1,(rd b9 y28.1.2.2.2.2.1 (Int.toNat y57.1)).1,(rd b9 y28.1.2.2.2.2.1 (Int.toNat y57.1)).2.1,(rd b9 y28.1.2.2.2.2.1 (Int.toNat y57.1)).2.2.1,0,0,0,false)],(0,v19,v20),())) (
                none)) (
               cond ((decide (72≤140737488355328))&&(decide (1≤9223372036854775807))) (
                some ((((y28.1.1.1.1,y28.1.1.1.2),(y28.1.1.2.1.1,y28.1.1.2.1.2),y28.1.1.2.2.1,y28.1.1.2.2.2.1,y28.1.1.2.2.2.2.1,y28.1.1.2.2.2.2.2),(y28.1.2.1.1,y28.1.2.1.2.1,y28.1.2.1.2.2.1,y28.1.2.1.2.2.2),y28.1.2.2.1,y28.1.2.2.2.1,y59.1,y28.1.2.2.2.2.2),[(1,y28.1.2.2.1,(rd b9 y28.1.2.2.2.2.1 (Int.toNat y57.1)).1,(rd b9 y28.1.2.2.2.2.1 (Int.toNat y57.1)).2.1,(rd b9 y28.1.2.2.2.2.1 (Int.toNat y57.1)).2.2.1,0,0,0,false)],(0,v19,v20),())) (
                none))) (
              none)) (
             none)) (
            none))) (
          none)) (
         none)) (
        ((f40 v1 v2 v3 v4 v5 v6 v7 v8 v9 v10 v11 v12 v13 v14 v15 v16)).bind fun y61=>
        some ((((y61.1.1.1.1,y61.1.1.1.2),(y61.1.1.2.1.1,y61.1.1.2.1.2),y61.1.1.2.2.1,y61.1.1.2.2.2.1,y61.1.1.2.2.2.2.1,y61.1.1.2.2.2.2.2),(y61.1.2.1.1,y61.1.2.1.2.1,y61.1.2.1.2.2.1,y61.1.2.1.2.2.2),y61.1.2.2.1,y61.1.2.2.2.1,y61.1.2.2.2.2.1,y61.1.2.2.2.2.2),[],(5,0,0),()))) (
       cond (decide (v17=3)) (
        ((f67 y28.1.2.2.1)).bind fun y62=>
        cond (!y62.2.1) (
         ((f40 v1 v2 v3 v4 v5 v6 v7 v8 v9 v10 v11 v12 v13 v14 v15 v16)).bind fun y63=>
         some ((((y63.1.1.1.1,y63.1.1.1.2),(y63.1.1.2.1.1,y63.1.1.2.1.2),y63.1.1.2.2.1,y63.1.1.2.2.2.1,y63.1.1.2.2.2.2.1,y63.1.1.2.2.2.2.2),(y63.1.2.1.1,y63.1.2.1.2.1,y63.1.2.1.2.2.1,y63.1.2.1.2.2.2),y63.1.2.2.1,y63.1.2.2.2.1,y63.1.2.2.2.2.1,y63.1.2.2.2.2.2),[],(1,0,0),())) (
         ((iter aC gD (((),(),(),(y28.1.2.2.2.2.1.length:Int),0,()),((v1,v2,v3,v4,v5,v6,v7,v8,v9,v10,v11,v12,v13,v14,v15,v16,()),(v17,v18,v19,v20,v21,v22,v23,v24,v25,()),(0,0,0,0,0,0,0,0,0,0,0,false,0,(),(),(),()),((),()),(0,0,0,()),((),(),(),(),(),(),(),(),(),()),y28.1.2.2.2.1,y28.1.2.2.2.2.1,y28.1.2.2.2.2.2,(y28.1.1.1.1,y28.1.1.1.2,y28.1.1.2.1.1,y28.1.1.2.1.2,y28.1.1.2.2.1,y28.1.1.2.2.2.1,y28.1.1.2.2.2.2.1,y28.1.1.2.2.2.2.2,y28.1.2.1.1,y28.1.2.1.2.1,y28.1.2.1.2.2.1,y28.1.2.1.2.2.2,y28.1.2.2.1,(),(),(),v17,v18,v19,v20,v21,v22,v23,v24,v25,(),0,0,0,()),(y62.1.1,y62.1.2,()),()),[],[],[],[],[],()))).bind fun r=>match r with
         | .inl y64=>
           ((f69 y64.2.1.2.2.2.2.2.2.2.2.2.2.1.1 y64.2.1.2.2.2.2.2.2.2.2.2.2.1.2.1 y64.2.1.2.2.2.2.2.2.2.2.2.1.2.2.2.2.2.2.2.2.2.2.2.2.2.2.2.2.2.2.2.2.1)).bind fun y66=>
           cond (!(decide (y66.2.2.1=0))) (
            ((f40 y64.2.1.1.1 y64.2.1.1.2.1 y64.2.1.1.2.2.1 y64.2.1.1.2.2.2.1 y64.2.1.1.2.2.2.2.1 y64.2.1.1.2.2.2.2.2.1 y64.2.1.1.2.2.2.2.2.2.1 y64.2.1.1.2.2.2.2.2.2.2.1 y64.2.1.1.2.2.2.2.2.2.2.2.1 y64.2.1.1.2.2.2.2.2.2.2.2.2.1 y64.2.1.1.2.2.2.2.2.2.2.2.2.2.1 y64.2.1.1.2.2.2.2.2.2.2.2.2.2.2.1 y64.2.1.1.2.2.2.2.2.2.2.2.2.2.2.2.1 y64.2.1.1.2.2.2.2.2.2.2.2.2.2.2.2.2.1 y64.2.1.1.2.2.2.2.2.2.2.2.2.2.2.2.2.2.1 y64.2.1.1.2.2.2.2.2.2.2.2.2.2.2.2.2.2.2.1)).bind fun y67=>
            some ((((y67.1.1.1.1,y67.1.1.1.2),(y67.1.1.2.1.1,y67.1.1.2.1.2),y67.1.1.2.2.1,y67.1.1.2.2.2.1,y67.1.1.2.2.2.2.1,y67.1.1.2.2.2.2.2),(y67.1.2.1.1,y67.1.2.1.2.1,y67.1.2.1.2.2.1,y67.1.2.1.2.2.2),y67.1.2.2.1,y67.1.2.2.2.1,y67.1.2.2.2.2.1,y67.1.2.2.2.2.2),[],(y66.2.2.1,0,0),())) (
            ((iter aC e6 (((),y66.2.1,y66.2.1,(y66.2.1.length:Int),0,()),((y64.2.1.1.1,y64.2.1.1.2.1,y64.2.1.1.2.2.1,y64.2.1.1.2.2.2.1,y64.2.1.1.2.2.2.2.1,y64.2.1.1.2.2.2.2.2.1,y64.2.1.1.2.2.2.2.2.2.1,y64.2.1.1.2.2.2.2.2.2.2.1,y64.2.1.1.2.2.2.2.2.2.2.2.1,y64.2.1.1.2.2.2.2.2.2.2.2.2.1,y64.2.1.1.2.2.2.2.2.2.2.2.2.2.1,y64.2.1.1.2.2.2.2.2.2.2.2.2.2.2.1,y64.2.1.1.2.2.2.2.2.2.2.2.2.2.2.2.1,y64.2.1.1.2.2.2.2.2.2.2.2.2.2.2.2.2.1,y64.2.1.1.2.2.2.2.2.2.2.2.2.2.2.2.2.2.1,y64.2.1.1.2.2.2.2.2.2.2.2.2.2.2.2.2.2.2.1,()),(y64.2.1.2.1.1,y64.2.1.2.1.2.1,y64.2.1.2.1.2.2.1,y64.2.1.2.1.2.2.2.1,y64.2.1.2.1.2.2.2.2.1,y64.2.1.2.1.2.2.2.2.2.1,y64.2.1.2.1.2.2.2.2.2.2.1,y64.2.1.2.1.2.2.2.2.2.2.2.1,y64.2.1.2.1.2.2.2.2.2.2.2.2.1,()),(y64.2.1.2.2.1.1,y64.2.1.2.2.1.2.1,y64.2.1.2.2.1.2.2.1,y64.2.1.2.2.1.2.2.2.1,y64.2.1.2.2.1.2.2.2.2.1,y64.2.1.2.2.1.2.2.2.2.2.1,y64.2.1.2.2.1.2.2.2.2.2.2.1,y64.2.1.2.2.1.2.2.2.2.2.2.2.1,y64.2.1.2.2.1.2.2.2.2.2.2.2.2.1,y64.2.1.2.2.1.2.2.2.2.2.2.2.2.2.1,y64.2.1.2.2.1.2.2.2.2.2.2.2.2.2.2.1,y64.2.1.2.2.1.2.2.2.2.2.2.2.2.2.2.2.1,y64.2.1.2.2.1.2.2.2.2.2.2.2.2.2.2.2.2.1,(),(),(),()),((),()),(y64.2.1.2.2.2.2.1.1,y64.2.1.2.2.2.2.1.2.1,y64.2.1.2.2.2.2.1.2.2.1,()),((),(),(),(),(),(),(),(),(),()),[],[],[],(y64.2.1.2.2.2.2.2.2.2.2.2.1.1,y64.2.1.2.2.2.2.2.2.2.2.2.1.2.1,y64.2.1.2.2.2.2.2.2.2.2.2.1.2.2.1,y64.2.1.2.2.2.2.2.2.2.2.2.1.2.2.2.1,y64.2.1.2.2.2.2.2.2.2.2.2.1.2.2.2.2.1,y64.2.1.2.2.2.2.2.2.2.2.2.1.2.2.2.2.2.1,y64.2.1.2.2.2.2.2.2.2.2.2.1.2.2.2.2.2.2.1,y64.2.1.2.2.2.2.2.2.2.2.2.1.2.2.2.2.2.2.2.1,y64.2.1.2.2.2.2.2.2.2.2.2.1.2.2.2.2.2.2.2.2.1,y64.2.1.2.2.2.2.2.2.2.2.2.1.2.2.2.2.2.2.2.2.2.1,y64.2.1.2.2.2.2.2.2.2.2.2.1.2.2.2.2.2.2.2.2.2.2.1,y64.2.1.2.2.2.2.2.2.2.2.2.1.2.2.2.2.2.2.2.2.2.2.2.1,y64.2.1.2.2.2.2.2.2.2.2.2.1.2.2.2.2.2.2.2.2.2.2.2.2.1,(),(),(),y64.2.1.2.2.2.2.2.2.2.2.2.1.2.2.2.2.2.2.2.2.2.2.2.2.2.2.2.2.1,y64.2.1.2.2.2.2.2.2.2.2.2.1.2.2.2.2.2.2.2.2.2.2.2.2.2.2.2.2.2.1,y64.2.1.2.2.2.2.2.2.2.2.2.1.2.2.2.2.2.2.2.2.2.2.2.2.2.2.2.2.2.2.1,y64.2.1.2.2.2.2.2.2.2.2.2.1.2.2.2.2.2.2.2.2.2.2.2.2.2.2.2.2.2.2.2.1,y64.2.1.2.2.2.2.2.2.2.2.2.1.2.2.2.2.2.2.2.2.2.2.2.2.2.2.2.2.2.2.2.2.1,y64.2.1.2.2.2.2.2.2.2.2.2.1.2.2.2.2.2.2.2.2.2.2.2.2.2.2.2.2.2.2.2.2.2.1,y64.2.1.2.2.2.2.2.2.2.2.2.1.2.2.2.2.2.2.2.2.2.2.2.2.2.2.2.2.2.2.2.2.2.2.1,y64.2.1.2.2.2.2.2.2.2.2.2.1.2.2.2.2.2.2.2.2.2.2.2.2.2.2.2.2.2.2.2.2.2.2.2.1,y64.2.1.2.2.2.2.2.2.2.2.2.1.2.2.2.2.2.2.2.2.2.2.2.2.2.2.2.2.2.2.2.2.2.2.2.2.1,(),y64.2.1.2.2.2.2.2.2.2.2.2.1.2.2.2.2.2.2.2.2.2.2.2.2.2.2.2.2.2.2.2.2.2.2.2.2.2.2.1,y64.2.1.2.2.2.2.2.2.2.2.2.1.2.2.2.2.2.2.2.2.2.2.2.2.2.2.2.2.2.2.2.2.2.2.2.2.2.2.2.1,y64.2.1.2.2.2.2.2.2.2.2.2.1.2.2.2.2.2.2.2.2.2.2.2.2.2.2.2.2.2.2.2.2.2.2.2.2.2.2.2.2.1,()),()),y64.2.2.1,y64.2.2.2.1,y64.2.2.2.2.1,y64.2.2.2.2.2.1,y64.2.1.2.2.2.2.2.2.1,y64.2.1.2.2.2.2.2.2.2.1,y64.2.1.2.2.2.2.2.2.2.2.1,y64.2.2.2.2.2.2.1,()))).bind fun r=>match r with
            | .inl y68=>
              ((f70 y68.2.2.2.2.2.2.2.2.1 y68.2.1.2.2.2.2.2.2.2.2.2.1.2.2.2.2.2.2.2.2.2.2.2.2.2.2.2.2.2.2.2.2.1)).bind fun y70=>
              some ((((y68.2.1.2.2.2.2.2.2.2.2.2.1.1,y68.2.1.2.2.2.2.2.2.2.2.2.1.2.1),(y68.2.1.2.2.2.2.2.2.2.2.2.1.2.2.1,y68.2.1.2.2.2.2.2.2.2.2.2.1.2.2.2.1),y68.2.1.2.2.2.2.2.2.2.2.2.1.2.2.2.2.1,y68.2.1.2.2.2.2.2.2.2.2.2.1.2.2.2.2.2.1,y68.2.1.2.2.2.2.2.2.2.2.2.1.2.2.2.2.2.2.1,y68.2.1.2.2.2.2.2.2.2.2.2.1.2.2.2.2.2.2.2.1),(y68.2.1.2.2.2.2.2.2.2.2.2.1.2.2.2.2.2.2.2.2.1,y68.2.1.2.2.2.2.2.2.2.2.2.1.2.2.2.2.2.2.2.2.2.1,y68.2.1.2.2.2.2.2.2.2.2.2.1.2.2.2.2.2.2.2.2.2.2.1,y68.2.1.2.2.2.2.2.2.2.2.2.1.2.2.2.2.2.2.2.2.2.2.2.1),y68.2.1.2.2.2.2.2.2.2.2.2.1.2.2.2.2.2.2.2.2.2.2.2.2.2.2.2.2.2.2.2.2.1,y68.2.2.2.2.2.2.1,y68.2.2.2.2.2.2.2.1,y70.1),y68.2.2.2.2.2.2.2.2.2.1,(y68.2.1.2.2.2.2.2.2.2.2.2.1.2.2.2.2.2.2.2.2.2.2.2.2.2.2.2.2.2.2.2.2.2.2.2.2.2.2.1,(y68.1.2.1.length:Int),y68.2.1.2.2.2.2.2.2.2.2.2.1.2.2.2.2.2.2.2.2.2.2.2.2.2.2.2.2.2.2.2.2.2.2.2.2.2.2.2.2.1),())
            | .inr z69=>
              none)
         | .inr z65=>
           none)) (
        cond (decide (v17=4)) (
         ((f46 y28.1.1.1.1 y28.1.1.1.2 y28.1.1.2.1.1 y28.1.1.2.1.2 y28.1.1.2.2.1 y28.1.1.2.2.2.1 y28.1.1.2.2.2.2.1 y28.1.1.2.2.2.2.2 y28.1.2.1.1 y28.1.2.1.2.1 y28.1.2.1.2.2.1 y28.1.2.1.2.2.2 y28.1.2.2.1 y28.1.2.2.2.1 y28.1.2.2.2.2.1 y28.1.2.2.2.2.2)).bind fun y71=>
         ((f72 y28.1.2.2.2.1 y71.1 v19 v21)).bind fun y72=>
         cond (!(decide (y72.2.1=0))) (
          ((f40 v1 v2 v3 v4 v5 v6 v7 v8 v9 v10 v11 v12 v13 v14 v15 v16)).bind fun y73=>
          some ((((y73.1.1.1.1,y73.1.1.1.2),(y73.1.1.2.1.1,y73.1.1.2.1.2),y73.1.1.2.2.1,y73.1.1.2.2.2.1,y73.1.1.2.2.2.2.1,y73.1.1.2.2.2.2.2),(y73.1.2.1.1,y73.1.2.1.2.1,y73.1.2.1.2.2.1,y73.1.2.1.2.2.2),y73.1.2.2.1,y73.1.2.2.2.1,y73.1.2.2.2.2.1,y73.1.2.2.2.2.2),[],(y72.2.1,0,0),())) (
          cond ((decide (72≤140737488355328))&&(decide (1≤9223372036854775807))) (
           some ((((y28.1.1.1.1,y28.1.1.1.2),(y28.1.1.2.1.1,y28.1.1.2.1.2),y28.1.1.2.2.1,y28.1.1.2.2.2.1,y28.1.1.2.2.2.2.1,y28.1.1.2.2.2.2.2),(y28.1.2.1.1,y28.1.2.1.2.1,y28.1.2.1.2.2.1,y28.1.2.1.2.2.2),y28.1.2.2.1,y72.1,y28.1.2.2.2.2.1,y28.1.2.2.2.2.2),[(2,y28.1.2.2.1,v19,v21,0,0,0,0,false)],(0,0,0),())) (
           none))) (
         cond (decide (v17=5)) (
          ((f46 y28.1.1.1.1 y28.1.1.1.2 y28.1.1.2.1.1 y28.1.1.2.1.2 y28.1.1.2.2.1 y28.1.1.2.2.2.1 y28.1.1.2.2.2.2.1 y28.1.1.2.2.2.2.2 y28.1.2.1.1 y28.1.2.1.2.1 y28.1.2.1.2.2.1 y28.1.2.1.2.2.2 y28.1.2.2.1 y28.1.2.2.2.1 y28.1.2.2.2.2.1 y28.1.2.2.2.2.2)).bind fun y74=>
          ((f73 y28.1.2.2.2.1 y74.1 v21)).bind fun y75=>
          cond (!(decide (y75.2.1=0))) (
           ((f40 v1 v2 v3 v4 v5 v6 v7 v8 v9 v10 v11 v12 v13 v14 v15 v16)).bind fun y76=>
           some ((((y76.1.1.1.1,y76.1.1.1.2),(y76.1.1.2.1.1,y76.1.1.2.1.2),y76.1.1.2.2.1,y76.1.1.2.2.2.1,y76.1.1.2.2.2.2.1,y76.1.1.2.2.2.2.2),(y76.1.2.1.1,y76.1.2.1.2.1,y76.1.2.1.2.2.1,y76.1.2.1.2.2.2),y76.1.2.2.1,y76.1.2.2.2.1,y76.1.2.2.2.2.1,y76.1.2.2.2.2.2),[],(y75.2.1,0,0),())) (
           cond ((decide (72≤140737488355328))&&(decide (1≤9223372036854775807))) (
            some ((((y28.1.1.1.1,y28.1.1.1.2),(y28.1.1.2.1.1,y28.1.1.2.1.2),y28.1.1.2.2.1,y28.1.1.2.2.2.1,y28.1.1.2.2.2.2.1,y28.1.1.2.2.2.2.2),(y28.1.2.1.1,y28.1.2.1.2.1,y28.1.2.1.2.2.1,y28.1.2.1.2.2.2),y28.1.2.2.1,y75.1,y28.1.2.2.2.2.1,y28.1.2.2.2.2.2),[(3,y28.1.2.2.1,v21,0,0,0,0,0,false)],(0,0,0),())) (
            none))) (
          cond (decide (v17=6)) (
           ((f46 y28.1.1.1.1 y28.1.1.1.2 y28.1.1.2.1.1 y28.1.1.2.1.2 y28.1.1.2.2.1 y28.1.1.2.2.2.1 y28.1.1.2.2.2.2.1 y28.1.1.2.2.2.2.2 y28.1.2.1.1 y28.1.2.1.2.1 y28.1.2.1.2.2.1 y28.1.2.1.2.2.2 y28.1.2.2.1 y28.1.2.2.2.1 y28.1.2.2.2.2.1 y28.1.2.2.2.2.2)).bind fun y77=>
           ((f75 y28.1.2.2.2.2.1)).bind fun y78=>
           ((f74 y28.1.2.2.2.1 y77.1 v19 v21 y78.1)).bind fun y79=>
           cond (!(decide (y79.2.1=0))) (
            ((f40 v1 v2 v3 v4 v5 v6 v7 v8 v9 v10 v11 v12 v13 v14 v15 v16)).bind fun y80=>
            some ((((y80.1.1.1.1,y80.1.1.1.2),(y80.1.1.2.1.1,y80.1.1.2.1.2),y80.1.1.2.2.1,y80.1.1.2.2.2.1,y80.1.1.2.2.2.2.1,y80.1.1.2.2.2.2.2),(y80.1.2.1.1,y80.1.2.1.2.1,y80.1.2.1.2.2.1,y80.1.2.1.2.2.2),y80.1.2.2.1,y80.1.2.2.2.1,y80.1.2.2.2.2.1,y80.1.2.2.2.2.2),[],(y79.2.1,0,0),())) (
            cond ((decide (72≤140737488355328))&&(decide (1≤9223372036854775807))) (
             some ((((y28.1.1.1.1,y28.1.1.1.2),(y28.1.1.2.1.1,y28.1.1.2.1.2),y28.1.1.2.2.1,y28.1.1.2.2.2.1,y28.1.1.2.2.2.2.1,y28.1.1.2.2.2.2.2),(y28.1.2.1.1,y28.1.2.1.2.1,y28.1.2.1.2.2.1,y28.1.2.1.2.2.2),y28.1.2.2.1,y79.1,y28.1.2.2.2.2.1,y28.1.2.2.2.2.2),[(4,y28.1.2.2.1,v19,v21,0,0,0,0,false)],(0,0,0),())) (
             none))) (
           cond (decide (v17=7)) (
            ((f46 y28.1.1.1.1 y28.1.1.1.2 y28.1.1.2.1.1 y28.1.1.2.1.2 y28.1.1.2.2.1 y28.1.1.2.2.2.1 y28.1.1.2.2.2.2.1 y28.1.1.2.2.2.2.2 y28.1.2.1.1 y28.1.2.1.2.1 y28.1.2.1.2.2.1 y28.1.2.1.2.2.2 y28.1.2.2.1 y28.1.2.2.2.1 y28.1.2.2.2.2.1 y28.1.2.2.2.2.2)).bind fun y81=>
            ((f75 y28.1.2.2.2.2.1)).bind fun y82=>
            ((f76 y28.1.2.2.2.1 y81.1 v21 y82.1)).bind fun y83=>
            cond (!(decide (y83.2.1=0))) (
             ((f40 v1 v2 v3 v4 v5 v6 v7 v8 v9 v10 v11 v12 v13 v14 v15 v16)).bind fun y84=>
             some ((((y84.1.1.1.1,y84.1.1.1.2),(y84.1.1.2.1.1,y84.1.1.2.1.2),y84.1.1.2.2.1,y84.1.1.2.2.2.1,y84.1.1.2.2.2.2.1,y84.1.1.2.2.2.2.2),(y84.1.2.1.1,y84.1.2.1.2.1,y84.1.2.1.2.2.1,y84.1.2.1.2.2.2),y84.1.2.2.1,y84.1.2.2.2.1,y84.1.2.2.2.2.1,y84.1.2.2.2.2.2),[],(y83.2.1,0,0),())) (
             cond ((decide (72≤140737488355328))&&(decide (1≤9223372036854775807))) (
              some ((((y28.1.1.1.1,y28.1.1.1.2),(y28.1.1.2.1.1,y28.1.1.2.1.2),y28.1.1.2.2.1,y28.1.1.2.2.2.1,y28.1.1.2.2.2.2.1,y28.1.1.2.2.2.2.2),(y28.1.2.1.1,y28.1.2.1.2.1,y28.1.2.1.2.2.1,y28.1.2.1.2.2.2),y28.1.2.2.1,y83.1,y28.1.2.2.2.2.1,y28.1.2.2.2.2.2),[(5,y28.1.2.2.1,v21,0,0,0,0,0,false)],(0,0,0),())) (
              none))) (
            cond (decide (v17=8)) (
             ((f28 v22 v23 v24 v25)).bind fun y85=>
             cond (!y85.1) (
              ((f40 v1 v2 v3 v4 v5 v6 v7 v8 v9 v10 v11 v12 v13 v14 v15 v16)).bind fun y86=>
              some ((((y86.1.1.1.1,y86.1.1.1.2),(y86.1.1.2.1.1,y86.1.1.2.1.2),y86.1.1.2.2.1,y86.1.1.2.2.2.1,y86.1.1.2.2.2.2.1,y86.1.1.2.2.2.2.2),(y86.1.2.1.1,y86.1.2.1.2.1,y86.1.2.1.2.2.1,y86.1.2.1.2.2.2),y86.1.2.2.1,y86.1.2.2.2.1,y86.1.2.2.2.2.1,y86.1.2.2.2.2.2),[],(1,0,0),())) (
              ((f15 y28.1.1.1.1 y28.1.1.1.2 y28.1.1.2.1.1 y28.1.1.2.1.2 y28.1.1.2.2.1 y28.1.1.2.2.2.1 y28.1.1.2.2.2.2.1 y28.1.1.2.2.2.2.2 v22 v23 v24 v25 y28.1.2.2.1 y28.1.2.2.2.1 y28.1.2.2.2.2.1 y28.1.2.2.2.2.2)).bind fun y87=>
              cond (!y87.1) (
               ((f40 v1 v2 v3 v4 v5 v6 v7 v8 v9 v10 v11 v12 v13 v14 v15 v16)).bind fun y88=>
               some ((((y88.1.1.1.1,y88.1.1.1.2),(y88.1.1.2.1.1,y88.1.1.2.1.2),y88.1.1.2.2.1,y88.1.1.2.2.2.1,y88.1.1.2.2.2.2.1,y88.1.1.2.2.2.2.2),(y88.1.2.1.1,y88.1.2.1.2.1,y88.1.2.1.2.2.1,y88.1.2.1.2.2.2),y88.1.2.2.1,y88.1.2.2.2.1,y88.1.2.2.2.2.1,y88.1.2.2.2.2.2),[],(12,0,0),())) (
               cond ((decide (72≤140737488355328))&&(decide (1≤9223372036854775807))) (
                some ((((y28.1.1.1.1,y28.1.1.1.2),(y28.1.1.2.1.1,y28.1.1.2.1.2),y28.1.1.2.2.1,y28.1.1.2.2.2.1,y28.1.1.2.2.2.2.1,y28.1.1.2.2.2.2.2),(v22,v23,v24,v25),y28.1.2.2.1,y28.1.2.2.2.1,y28.1.2.2.2.2.1,y28.1.2.2.2.2.2),[(6,y28.1.2.2.1,0,0,0,v22,v23,v24,v25)],(0,0,0),())) (
                none)))) (
             none))))))))))) (
   ((f40 v1 v2 v3 v4 v5 v6 v7 v8 v9 v10 v11 v12 v13 v14 v15 v16)).bind fun y89=>
   some ((((y89.1.1.1.1,y89.1.1.1.2),(y89.1.1.2.1.1,y89.1.1.2.1.2),y89.1.1.2.2.1,y89.1.1.2.2.2.1,y89.1.1.2.2.2.2.1,y89.1.1.2.2.2.2.2),(y89.1.2.1.1,y89.1.2.1.2.1,y89.1.2.1.2.2.1,y89.1.2.1.2.2.2),y89.1.2.2.1,y89.1.2.2.2.1,y89.1.2.2.2.2.1,y89.1.2.2.2.2.2),[],(1,0,0),()))) (
  ((f40 v1 v2 v3 v4 v5 v6 v7 v8 v9 v10 v11 v12 v13 v14 v15 v16)).bind fun y90=>
  some ((((y90.1.1.1.1,y90.1.1.1.2),(y90.1.1.2.1.1,y90.1.1.2.1.2),y90.1.1.2.2.1,y90.1.1.2.2.2.1,y90.1.1.2.2.2.2.1,y90.1.1.2.2.2.2.2),(y90.1.2.1.1,y90.1.2.1.2.1,y90.1.2.1.2.2.1,y90.1.2.1.2.2.2),y90.1.2.2.1,y90.1.2.2.2.1,y90.1.2.2.2.2.1,y90.1.2.2.2.2.2),[],(1,0,0),()))
noncomputable def f29 (v1:ed)(v2:bw):Option dr:=
 cond (decide ((v1.length:Int)≤40)) (
  some ((decide ((v2.length:Int)≤40)),())) (
  some (false,()))
noncomputable def f12 (v1 v2 v3 v4 v5 v6 v7 v8 v9 v10 v11:Int)(v12:Bool)(v13:Int)(v14:bw)(v15:ed)(v16:bw):Option dr:=
 ((f29 v15 v16)).bind fun y17=>
 cond y17.1 (
  some ((decide ((v14.length:Int)≤6)),())) (
  some (false,()))
abbrev ON:Type:=(xT×Unit×Unit×Int×Unit)×acQ×xT×bw×ed×bw×Unit
abbrev Yg:Type:=O1×acQ×xT×bw×ed×bw×Unit
abbrev YR:Type:=Unit×Unit×Unit
noncomputable def R8 (v1:xT)(v2 v3 v4 v5 v6 v7 v8 v9 v10 v11 v12 v13:Int)(v14:Bool)(v15:Int)(v16:bw)(v17:ed)(v18:bw)(v19 v20 v21 v22 v23 v24 v25 v26 v27 v28 v29:Int)(v30:Bool)(v31:Int)(v32:xT)(v33:bw)(v34:ed)(v35:bw):Option (R3 ON Yg YR):=
 cond (decide (v2<(v1.length:Int))) (
  cond ((decide (0≤v2))&&(decide (v2<(v1.length:Int)))) (
   ((f13 v3 v4 v5 v6 v7 v8 v9 v10 v11 v12 v13 v14 v15 v16 v17 v18 (rd X3 v1 (Int.toNat v2)).1 (rd X3 v1 (Int.toNat v2)).2.1 (rd X3 v1 (Int.toNat v2)).2.2.1 (rd X3 v1 (Int.toNat v2)).2.2.2.1 (rd X3 v1 (Int.toNat v2)).2.2.2.2.1 (rd X3 v1 (Int.toNat v2)).2.2.2.2.2.1 (rd X3 v1 (Int.toNat v2)).2.2.2.2.2.2.1 (rd X3 v1 (Int.toNat v2)).2.2.2.2.2.2.2.1 (rd X3 v1 (Int.toNat v2)).2.2.2.2.2.2.2.2)).bind fun y36=>
   cond ((decide (((v32.length+y36.2.1.length) * 72)≤140737488355328))&&(decide ((v32.length+y36.2.1.length)≤9223372036854775807))) (
    some (R3.next ((v1,(),(),(IntKind.wrap .i64 (v2+1)),()),((y36.1.1.1.1,y36.1.1.1.2,y36.1.1.2.1.1,y36.1.1.2.1.2,y36.1.1.2.2.1,y36.1.1.2.2.2.1,y36.1.1.2.2.2.2.1,y36.1.1.2.2.2.2.2,y36.1.2.1.1,y36.1.2.1.2.1,y36.1.2.1.2.2.1,y36.1.2.1.2.2.2,y36.1.2.2.1,y36.1.2.2.2.1,y36.1.2.2.2.2.1,y36.1.2.2.2.2.2,()),(v19,v20,v21,v22,v23,v24,v25,v26,v27,v28,v29,v30,v31,(),(),(),()),()),(v32++y36.2.1),v33,v34,v35,()))) (
    none)) (
   none)) (
  some (R3.out (((),(),()),((v3,v4,v5,v6,v7,v8,v9,v10,v11,v12,v13,v14,v15,v16,v17,v18,()),(v19,v20,v21,v22,v23,v24,v25,v26,v27,v28,v29,v30,v31,(),(),(),()),()),v32,v33,v34,v35,())))
noncomputable def BG (z:ON):Option (R3 ON Yg YR):=R8 z.1.1 z.1.2.2.2.1 z.2.1.1.1 z.2.1.1.2.1 z.2.1.1.2.2.1 z.2.1.1.2.2.2.1 z.2.1.1.2.2.2.2.1 z.2.1.1.2.2.2.2.2.1 z.2.1.1.2.2.2.2.2.2.1 z.2.1.1.2.2.2.2.2.2.2.1 z.2.1.1.2.2.2.2.2.2.2.2.1 z.2.1.1.2.2.2.2.2.2.2.2.2.1 z.2.1.1.2.2.2.2.2.2.2.2.2.2.1 z.2.1.1.2.2.2.2.2.2.2.2.2.2.2.1 z.2.1.1.2.2.2.2.2.2.2.2.2.2.2.2.1 z.2.1.1.2.2.2.2.2.2.2.2.2.2.2.2.2.1 z.2.1.1.2.2.2.2.2.2.2.2.2.2.2.2.2.2.1 z.2.1.1.2.2.2.2.2.2.2.2.2.2.2.2.2.2.2.1 z.2.1.2.1.1 z.2.1.2.1.2.1 z.2.1.2.1.2.2.1 z.2.1.2.1.2.2.2.1 z.2.1.2.1.2.2.2.2.1 z.2.1.2.1.2.2.2.2.2.1 z.2.1.2.1.2.2.2.2.2.2.1 z.2.1.2.1.2.2.2.2.2.2.2.1 z.2.1.2.1.2.2.2.2.2.2.2.2.1 z.2.1.2.1.2.2.2.2.2.2.2.2.2.1 z.2.1.2.1.2.2.2.2.2.2.2.2.2.2.1 z.2.1.2.1.2.2.2.2.2.2.2.2.2.2.2.1 z.2.1.2.1.2.2.2.2.2.2.2.2.2.2.2.2.1 z.2.2.1 z.2.2.2.1 z.2.2.2.2.1 z.2.2.2.2.2.1
noncomputable def f17 (v1 v2 v3 v4 v5 v6 v7 v8 v9 v10 v11:Int)(v12:Bool)(v13:Int)(v14:bw)(v15:ed)(v16:bw)(v17:xT):Option (WO×xT×Unit):=
 ((iter aC BG ((v17,(),(),0,()),((v1,v2,v3,v4,v5,v6,v7,v8,v9,v10,v11,v12,v13,v14,v15,v16,()),(0,0,0,0,0,0,0,0,0,0,0,false,0,(),(),(),()),()),[],[],[],[],()))).bind fun r=>match r with
 | .inl y18=>
   some ((((y18.2.1.1.1,y18.2.1.1.2.1),(y18.2.1.1.2.2.1,y18.2.1.1.2.2.2.1),y18.2.1.1.2.2.2.2.1,y18.2.1.1.2.2.2.2.2.1,y18.2.1.1.2.2.2.2.2.2.1,y18.2.1.1.2.2.2.2.2.2.2.1),(y18.2.1.1.2.2.2.2.2.2.2.2.1,y18.2.1.1.2.2.2.2.2.2.2.2.2.1,y18.2.1.1.2.2.2.2.2.2.2.2.2.2.1,y18.2.1.1.2.2.2.2.2.2.2.2.2.2.2.1),y18.2.1.1.2.2.2.2.2.2.2.2.2.2.2.2.1,y18.2.1.1.2.2.2.2.2.2.2.2.2.2.2.2.2.1,y18.2.1.1.2.2.2.2.2.2.2.2.2.2.2.2.2.2.1,y18.2.1.1.2.2.2.2.2.2.2.2.2.2.2.2.2.2.2.1),y18.2.2.1,())
 | .inr z19=>
   none
end Go.Proofs.Zz
