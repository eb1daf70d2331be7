/- Pure17a, Pure17b, Pure17c, Pure17d, Pure17e, Pure17f. -/
import Derived.Test.YtjkplgcpgpicnaaGreatFG
namespace Go.Proofs.Zz
open Go Go.Sy
set_option linter.unusedVariables false
set_option maxRecDepth 100000
abbrev aP:Type:=List (Int×Int×Int)
abbrev bT:Type:=List (Int×Int×Int×Int×Int)
abbrev aT:Type:=List Int
abbrev cZ:Type:=List (Int×aT×Int)
abbrev Pe:Type:=Int×Int×Int×Int×Int×Int×Int×Int×Int×Int×Int×Bool×Int×Unit×Unit×Unit×Unit
abbrev sZ:Type:=aT×Unit
abbrev bx:Type:=Int×Unit
abbrev DT4:Type:=Pe×(aT×aT×aT×aT×aT×Unit)×Pe×sZ×bx×(Unit×Unit×Unit×Unit×Unit×Unit×Unit×Unit×Unit×Unit×Unit×Unit×Unit×Unit×Unit×Unit×Unit×Unit×Unit×Unit×Unit×Unit×Unit×Unit×Unit×Unit×Unit×Unit×Unit×Unit×Unit×Unit×Unit×Unit×Unit×Unit×Unit×Unit×Unit×Unit×Unit×Unit×Unit×Unit×Unit×Unit×Unit×Unit×Unit×Unit×Unit×Unit×Unit×Unit×Unit×Unit×Unit×Unit×Unit×Unit×Unit×Unit×Unit×Unit×Unit×Unit×Unit×Unit×Unit×Unit×Unit×Unit×Unit×Unit×Unit×Unit×Unit×Unit×Unit×Unit×Unit×Unit×Unit×Unit×Unit×Unit×Unit×Unit×Unit×Unit×Unit×Unit×Unit×Unit×Unit×Unit×Unit×Unit×Unit×Unit×Unit×Unit×Unit×Unit×Unit×Unit×Unit×Unit×Unit×Unit×Unit×Unit×Unit×Unit×Unit×Unit×Unit×Unit×Unit×Unit×Unit×Unit×Unit×Unit×Unit×Unit×Unit×Unit×Unit×Unit×Unit×Unit×Unit×Unit×Unit×Unit×Unit×Unit×Unit×Unit×Unit×Unit×Unit×Unit×Unit×Unit×Unit×Unit×Unit×Unit×Unit×Unit×Unit×Unit×Unit×Unit×Unit×Unit×Unit×Unit×Unit×Unit×Unit×Unit×Unit×Unit×Unit×Unit×Unit×Unit×Unit×Unit×Unit×Unit×Unit×Unit×Unit×Unit×Unit×Unit×Unit×Unit×Unit×Unit×Unit×Unit×Unit×Unit×Unit×Unit×Unit×Unit×Unit×Unit×Unit×Unit×Unit×Unit×Unit×Unit×Unit×Unit×Unit×Unit×Unit×Unit×Unit×Unit×Unit×Unit×Unit×Unit×Unit×Unit×Unit×Unit×Unit×Unit×Unit×Unit×Unit×Unit×Unit×Unit×Unit×Unit×Unit×Unit×Unit×Unit×Unit×Unit×Unit×Unit×Unit×Unit×Unit×Unit)×Unit
abbrev Tz:Type:=Int×Int×Int×Int×Int×Int×Int×Int×Int×Int×Int×Bool×Int×aP×bT×aP×Unit
abbrev vX:Type:=List (Int×Int×Int×Int×Int×Int×Int×Int×Bool)
abbrev DT8:Type:=Unit×Unit×Unit×Unit×Unit×Unit×Unit×Unit×Unit×Unit×Unit×Unit×Unit×Unit×Unit×Unit×Unit×Unit×Unit×Unit×Unit×Unit×Unit×Unit×Unit×Unit×Unit×Unit×Unit×Unit×Unit×Unit×Unit×Unit×Unit×Unit×Unit×Unit×Unit×Unit×Unit×Unit×Unit×Unit×Unit×Unit×Unit×Unit×Unit×Unit×Unit×Unit×Unit×Unit×Unit×Unit×Unit×Unit×Unit×Unit×Unit×Unit×Unit×Unit×Unit×Unit×Unit×Unit×Unit×Unit×Unit×Unit×Unit×Unit
abbrev Ov:Type:=((Int×Int)×(Int×Int)×Int×Int×Int×Int)×(Int×Int×Int×Bool)×Int×aP×bT×aP
abbrev CS:Type:=Int×Int×Int×Int×Int×Int×Int×Int×Int×Int×Int×Bool×Int×aP×bT×aP×Int×Int×Unit
abbrev bq:Type:=Bool×Unit
abbrev rM:Type:=Unit×Unit
abbrev U8:Type:=rM×bq×sZ×(Unit×Unit×Unit×Unit×Unit×Unit×Unit×Unit×Unit×Unit×Unit×Unit×Unit×Unit×Unit×Unit×Unit×Unit×Unit×Unit×Unit×Unit×Unit×Unit×Unit×Unit×Unit)×Unit
abbrev Wt:Type:=Int×Int×Int×Int×Int×Int×Int×Int×Int×Int×Int×Bool×Int×Unit×Unit×Unit×Int×Int×Unit
abbrev DU:Type:=Int×Int×Int×Unit
abbrev yj:Type:=(Int×Int×Unit)×rM×Unit
abbrev YP:Type:=Unit×Unit×Unit×Unit×Unit×Unit×Unit×Unit×Unit×Unit×Unit×Unit×Unit×Unit×Unit×Unit×Unit×Unit×Unit×Unit×Unit×Unit×Unit×Unit×Unit×Unit×Unit×Unit×Unit×Unit×Unit×Unit×Unit×Unit×Unit×Unit×Unit×Unit
abbrev nh:Type:=Int×cZ×Unit
abbrev Xw:Type:=Int×Int×Int×Int×Int×Int×aT×Unit
abbrev Jh:Type:=Int×Unit×Int×Int×Unit
abbrev Iy:Type:=Unit×Unit×Int×Int×Unit
abbrev wo:Type:=aT×Bool×Unit
abbrev wg:Type:=Int×Unit×Unit
abbrev ow:Type:=bx×Unit
abbrev Jw:Type:=(Int×cZ)×Int×Unit
abbrev Pd:Type:=aT×Unit×Int×Int×Unit
abbrev E8:Type:=Unit×Unit×Unit
abbrev LJ:Type:=(Int×cZ)×Int×Int
abbrev WJ:Type:=Unit×Int×Int×aT×Int×Int×Unit
abbrev Vq:Type:=aT×Int×Int×Int×Int×Int×Unit
abbrev TV:Type:=Xw×(aP×Unit)×DU×DU×Unit
abbrev JS:Type:=Pe×Pe×Unit
abbrev Jb:Type:=aP×Int×Unit
abbrev Ap:Type:=Tz×Unit
abbrev Ya:Type:=nh×Jh×Pe×Wt×rM×bx×(cZ×Unit)×DT8×Unit
abbrev TW:Type:=Xw×(aP×Unit)×DU×Unit
abbrev Kx:Type:=bx×aP×Unit
abbrev J9:Type:=DU×aP×Unit
abbrev aW:Ty:=.int .i64
abbrev ff:Ty:=.pair aW (.pair aW (.pair aW (.pair aW (.pair aW (.pair aW (.pair aW (.pair aW .bool)))))))
abbrev wM:Ty:=.int .u8
abbrev bw:Ty:=.pair aW (.pair (.row wM) aW)
abbrev ck:Ty:=.pair aW (.pair aW aW)
abbrev cQ:Ty:=.pair aW (.pair aW ck)
abbrev Oe:Type:=(Int×cZ×Int×Int×Unit)×(Unit)×(Unit)
abbrev Sc:Type:=bx×(Unit)×(Unit)
abbrev R5:Type:=Unit×Unit×Unit
noncomputable def K7 (v1:Int)(v2:cZ)(v3 v4:Int):Option (R3 Oe Sc R5):=
 cond (decide (v4<v3)) (
  cond ((decide (0≤v4))&&(decide (v4<(v2.length:Int)))) (
   some (R3.next (((IntKind.wrap .i64 (v1+(((rd bw v2 (Int.toNat v4)).2.1.length:Nat):Int))),v2,v3,(IntKind.wrap .i64 (v4+1)),()),(),()))) (
   none)) (
  some (R3.out ((v1,()),(),())))
noncomputable def wI (z:Oe):Option (R3 Oe Sc R5):=K7 z.1.1 z.1.2.1 z.1.2.2.1 z.1.2.2.2.1
noncomputable def f53 (v1:cZ):Option bx:=
 ((iter aA wI ((0,v1,(v1.length:Int),0,()),(),()))).bind fun r=>match r with
 | .inl y2=>
   some (y2.1.1,())
 | .inr z3=>
   none
abbrev MN:Type:=(Unit×Int×cZ×Int×Int×Unit)×(nh×Unit)×(Unit)
abbrev Ti:Type:=rM×(nh×Unit)×(Unit)
abbrev Tw:Type:=bq×(Unit)×(Unit)
noncomputable def NI (v1:Int)(v2:cZ)(v3 v4 v5:Int)(v6:cZ):Option (R3 MN Ti Tw):=
 cond (decide (v4<v3)) (
  cond ((decide (0≤v4))&&(decide (v4<(v2.length:Int)))) (
   cond (decide ((rd bw v2 (Int.toNat v4)).1≤v1)) (
    some (R3.ret ((false,()),(),()))) (
    cond (decide (1073741824<(rd bw v2 (Int.toNat v4)).1)) (
     some (R3.ret ((false,()),(),()))) (
     cond (decide ((rd bw v2 (Int.toNat v4)).2.2<0)) (
      some (R3.ret ((false,()),(),()))) (
      cond (decide ((((rd bw v2 (Int.toNat v4)).2.1.length:Nat):Int)<(rd bw v2 (Int.toNat v4)).2.2)) (
       some (R3.ret ((false,()),(),()))) (
       some (R3.next (((),(rd bw v2 (Int.toNat v4)).1,v2,v3,(IntKind.wrap .i64 (v4+1)),()),((v5,v6,()),()),()))))))) (
   none)) (
  some (R3.out (((),()),((v5,v6,()),()),())))
noncomputable def uK (z:MN):Option (R3 MN Ti Tw):=NI z.1.2.1 z.1.2.2.1 z.1.2.2.2.1 z.1.2.2.2.2.1 z.2.1.1.1 z.2.1.1.2.1
noncomputable def f23 (v1:Int)(v2:cZ):Option bq:=
 ((iter aA uK (((),0,v2,(v2.length:Int),0,()),((v1,v2,()),()),()))).bind fun r=>match r with
 | .inl y3=>
   cond (decide (0≤y3.2.1.1.1)) (
    cond (decide (y3.2.1.1.1≤65536)) (
     cond (decide ((y3.2.1.1.2.1.length:Int)≤12)) (
      ((f53 y3.2.1.1.2.1)).bind fun y5=>
      some ((decide (y5.1≤y3.2.1.1.1)),())) (
      some (false,()))) (
     some (false,()))) (
    some (false,()))
 | .inr z4=>
   some (z4.1.1,())
noncomputable def f125 (v1:Int):Option bq:=
 some ((decide (v1<128)),())
abbrev lg:Type:=Pd×(Unit)×(Unit)
abbrev sJ:Type:=(Unit)×(Unit)×(Unit)
abbrev rY:Type:=bx×(Unit)×(Unit)
noncomputable def mD (v1:aT)(v2 v3:Int):Option (R3 lg sJ rY):=
 cond (decide (v3<v2)) (
  cond ((decide (0≤v3))&&(decide (v3<(v1.length:Int)))) (
   ((f125 (rd wM v1 (Int.toNat v3)))).bind fun y4=>
   cond y4.1 (
    some (R3.ret ((v3,()),(),()))) (
    some (R3.next ((v1,(),v2,(IntKind.wrap .i64 (v3+1)),()),(),())))) (
   none)) (
  some (R3.out ((),(),())))
noncomputable def dW (z:lg):Option (R3 lg sJ rY):=mD z.1.1 z.1.2.2.1 z.1.2.2.2.1
noncomputable def f87 (v1:aT):Option bq:=
 cond (decide ((v1.length:Int)<6)) (
  ((iter aA dW ((v1,(),(v1.length:Int),0,()),(),()))).bind fun r=>match r with
  | .inl y2=>
    some (true,())
  | .inr z3=>
    some ((!(decide (0≤z3.1.1))),())) (
  some (false,()))
noncomputable def f126 (v1:Int):Option bq:=
 cond (decide (0≤v1)) (
  some ((decide (v1≤1099511627776)),())) (
  some (false,()))
abbrev HY:Type:=(Int×Int×aT×Int×Int×Unit)×(Unit)×(Unit)
abbrev N0:Type:=(Unit)×(Unit)×(Unit)
abbrev OH:Type:=(Int×Int×Unit)×(Unit)×(Unit)
noncomputable def Om (v1 v2:Int)(v3:aT)(v4 v5:Int):Option (R3 HY N0 OH):=
 cond (decide (v5<v4)) (
  cond ((decide (0≤v5))&&(decide (v5<(v3.length:Int)))) (
   cond (!(decide ((IntKind.wrap .i64 (7 * v5))<0))) (
    cond (decide (128≤(rd wM v3 (Int.toNat v5)))) (
     some (R3.next ((v1,(aG .or .i64 v2 (IntKind.wrap .i64 ((IntKind.wrap .i64 (aG .andNot .u8 (rd wM v3 (Int.toNat v5)) 128)) * ((2:Int) ^ ((min (Int.toNat (IntKind.wrap .i64 (7 * v5))) 64):Nat))))),v3,v4,(IntKind.wrap .i64 (v5+1)),()),(),()))) (
     cond (decide ((rd wM v3 (Int.toNat v5))=0)) (
      cond (decide (0<v5)) (
       some (R3.out ((),(),()))) (
       ((f126 (aG .or .i64 v2 (IntKind.wrap .i64 ((IntKind.wrap .i64 (aG .andNot .u8 (rd wM v3 (Int.toNat v5)) 128)) * ((2:Int) ^ ((min (Int.toNat (IntKind.wrap .i64 (7 * v5))) 64):Nat))))))).bind fun y6=>
       cond (!y6.1) (
        some (R3.out ((),(),()))) (
        some (R3.ret (((aG .or .i64 v2 (IntKind.wrap .i64 ((IntKind.wrap .i64 (aG .andNot .u8 (rd wM v3 (Int.toNat v5)) 128)) * ((2:Int) ^ ((min (Int.toNat (IntKind.wrap .i64 (7 * v5))) 64):Nat))))),(IntKind.wrap .i64 ((IntKind.wrap .i64 (v1+v5))+1)),()),(),()))))) (
      ((f126 (aG .or .i64 v2 (IntKind.wrap .i64 ((IntKind.wrap .i64 (aG .andNot .u8 (rd wM v3 (Int.toNat v5)) 128)) * ((2:Int) ^ ((min (Int.toNat (IntKind.wrap .i64 (7 * v5))) 64):Nat))))))).bind fun y7=>
      cond (!y7.1) (
       some (R3.out ((),(),()))) (
       some (R3.ret (((aG .or .i64 v2 (IntKind.wrap .i64 ((IntKind.wrap .i64 (aG .andNot .u8 (rd wM v3 (Int.toNat v5)) 128)) * ((2:Int) ^ ((min (Int.toNat (IntKind.wrap .i64 (7 * v5))) 64):Nat))))),(IntKind.wrap .i64 ((IntKind.wrap .i64 (v1+v5))+1)),()),(),())))))) (
    none)) (
   none)) (
  some (R3.out ((),(),())))
noncomputable def uT (z:HY):Option (R3 HY N0 OH):=Om z.1.1 z.1.2.1 z.1.2.2.1 z.1.2.2.2.1 z.1.2.2.2.2.1
noncomputable def f88 (v1:aT)(v2:Int):Option (Int×Int×Unit):=
 cond (decide (v2<0)) (
  some (0,(-1),())) (
  cond (decide ((v1.length:Int)<v2)) (
   some (0,(-1),())) (
   cond (((decide (0≤v2))&&(decide (v2≤(sS (v1.length:Int) (IntKind.wrap .i64 (v2+(sS 6 (IntKind.wrap .i64 ((v1.length:Int)-v2)))))))))&&(decide ((sS (v1.length:Int) (IntKind.wrap .i64 (v2+(sS 6 (IntKind.wrap .i64 ((v1.length:Int)-v2))))))≤(v1.length:Int)))) (
    ((iter aA uT ((v2,0,(List.drop (Int.toNat v2) (List.take (Int.toNat (sS (v1.length:Int) (IntKind.wrap .i64 (v2+(sS 6 (IntKind.wrap .i64 ((v1.length:Int)-v2))))))) v1)),(((List.drop (Int.toNat v2) (List.take (Int.toNat (sS (v1.length:Int) (IntKind.wrap .i64 (v2+(sS 6 (IntKind.wrap .i64 ((v1.length:Int)-v2))))))) v1)).length:Nat):Int),0,()),(),()))).bind fun r=>match r with
    | .inl y3=>
      some (0,(-1),())
    | .inr z4=>
      some (z4.1.1,z4.1.2.1,())) (
    none)))
abbrev K5:Type:=(aT×aT×Int×Int×Unit)×(Unit)×(Unit)
abbrev TJ:Type:=(Unit)×(Unit)×(Unit)
abbrev SS:Type:=bq×(Unit)×(Unit)
noncomputable def MU (v1 v2:aT)(v3 v4:Int):Option (R3 K5 TJ SS):=
 cond (decide (v4<v3)) (
  cond ((decide (0≤v4))&&(decide (v4<(v1.length:Int)))) (
   cond ((decide (0≤v4))&&(decide (v4<(v2.length:Int)))) (
    cond (!(decide ((rd wM v1 (Int.toNat v4))=(rd wM v2 (Int.toNat v4))))) (
     some (R3.ret ((false,()),(),()))) (
     some (R3.next ((v1,v2,v3,(IntKind.wrap .i64 (v4+1)),()),(),())))) (
    none)) (
   none)) (
  some (R3.out ((),(),())))
noncomputable def vn (z:K5):Option (R3 K5 TJ SS):=MU z.1.1 z.1.2.1 z.1.2.2.1 z.1.2.2.2.1
noncomputable def f82 (v1 v2:aT):Option bq:=
 cond (!(decide ((v1.length:Int)=(v2.length:Int)))) (
  some (false,())) (
  ((iter aA vn ((v1,v2,(v1.length:Int),0,()),(),()))).bind fun r=>match r with
  | .inl y3=>
    some (true,())
  | .inr z4=>
    some (z4.1.1,()))
noncomputable def f127 (v1:Int):Option sZ:=
 some ([(IntKind.wrap .u8 (Int.fdiv v1 16777216)),(IntKind.wrap .u8 (Int.fdiv v1 65536)),(IntKind.wrap .u8 (Int.fdiv v1 256)),(IntKind.wrap .u8 v1)],())
abbrev jF:Type:=(Unit×aT×Int×Int×Unit)×ow×(Unit)
abbrev kD:Type:=(Unit×Int×aT×Int×Int×Int×Unit)×ow×(Unit)
abbrev qg:Type:=(Unit×aT×Int×Int×Unit)×ow×(Unit)
abbrev pQ:Type:=Unit×rM×Unit
noncomputable def kz (v1:Int)(v2:aT)(v3 v4 v5 v6:Int):Option (R3 kD qg pQ):=
 cond (decide (v5<8)) (
  cond (!(decide ((IntKind.wrap .i64 (7-v5))<0))) (
   cond (!((decide ((Int.fdiv v6 2147483648)=1)) == (decide ((aG .and .u8 (Int.fdiv v1 ((2:Int) ^ ((min (Int.toNat (IntKind.wrap .i64 (7-v5))) 8):Nat))) 1)=1)))) (
    some (R3.next (((),v1,v2,v3,v4,(IntKind.wrap .i64 (v5+1)),()),(((aG .xor .u32 (IntKind.wrap .u32 (v6 * 2)) 79764919),()),()),()))) (
    some (R3.next (((),v1,v2,v3,v4,(IntKind.wrap .i64 (v5+1)),()),(((IntKind.wrap .u32 (v6 * 2)),()),()),())))) (
   none)) (
  some (R3.out (((),v2,v3,v4,()),((v6,()),()),())))
noncomputable def dm (z:kD):Option (R3 kD qg pQ):=kz z.1.2.1 z.1.2.2.1 z.1.2.2.2.1 z.1.2.2.2.2.1 z.1.2.2.2.2.2.1 z.2.1.1.1
abbrev pp:Type:=(Unit)×ow×(Unit)
abbrev pN:Type:=Unit×rM×Unit
noncomputable def kf (v1:aT)(v2 v3 v4:Int):Option (R3 jF pp pN):=
 cond (decide (v3<v2)) (
  cond ((decide (0≤v3))&&(decide (v3<(v1.length:Int)))) (
   ((iter aA dm (((),(rd wM v1 (Int.toNat v3)),v1,v2,v3,0,()),((v4,()),()),()))).bind fun r=>match r with
   | .inl y5=>
     some (R3.next (((),y5.1.2.1,y5.1.2.2.1,(IntKind.wrap .i64 (y5.1.2.2.2.1+1)),()),((y5.2.1.1.1,()),()),()))
   | .inr z6=>
     some (R3.ret ((),((),()),()))) (
   none)) (
  some (R3.out ((),((v4,()),()),())))
noncomputable def eV (z:jF):Option (R3 jF pp pN):=kf z.1.2.1 z.1.2.2.1 z.1.2.2.2.1 z.2.1.1.1
noncomputable def f162 (v1:Int)(v2:aT):Option bx:=
 ((iter aA eV (((),v2,(v2.length:Int),0,()),(((aG .xor .u32 v1 4294967295),()),()),()))).bind fun r=>match r with
 | .inl y3=>
   some ((aG .xor .u32 y3.2.1.1.1 4294967295),())
 | .inr z4=>
   none
noncomputable def f128 (v1:aT):Option bx:=
 ((f162 0 v1)).bind fun y2=>
 some (y2.1,())
noncomputable def f89 (v1:aT):Option wo:=
 cond (decide ((IntKind.wrap .i64 ((v1.length:Int)-4))<0)) (
  some ([],false,())) (
  cond (((decide (0≤(IntKind.wrap .i64 ((v1.length:Int)-4))))&&(decide ((IntKind.wrap .i64 ((v1.length:Int)-4))≤(v1.length:Int))))&&(decide ((v1.length:Int)≤(v1.length:Int)))) (
   cond ((decide (0≤(IntKind.wrap .i64 ((v1.length:Int)-4))))&&(decide ((IntKind.wrap .i64 ((v1.length:Int)-4))≤(v1.length:Int)))) (
    ((f128 (List.drop 0 (List.take (Int.toNat (IntKind.wrap .i64 ((v1.length:Int)-4))) v1)))).bind fun y2=>
    ((f127 y2.1)).bind fun y3=>
    ((f82 (List.drop (Int.toNat (IntKind.wrap .i64 ((v1.length:Int)-4))) (List.take (Int.toNat (v1.length:Int)) v1)) y3.1)).bind fun y4=>
    cond (!y4.1) (
     some ([],false,())) (
     cond ((decide (0≤(IntKind.wrap .i64 ((v1.length:Int)-4))))&&(decide ((IntKind.wrap .i64 ((v1.length:Int)-4))≤(v1.length:Int)))) (
      ((dO (List.drop 0 (List.take (Int.toNat (IntKind.wrap .i64 ((v1.length:Int)-4))) v1)))).bind fun y5=>
      some (y5.1,true,())) (
      none))) (
    none)) (
   none))
noncomputable def f40 (v1:aT)(v2:Int):Option ((Int×aT)×Int×Int×Unit):=
 cond (decide (v2<0)) (
  some ((0,[]),0,2,())) (
  cond (decide ((v1.length:Int)<v2)) (
   some ((0,[]),0,2,())) (
   cond (decide (v2=(v1.length:Int))) (
    some ((0,[]),0,4,())) (
    cond (((decide (0≤(IntKind.wrap .i64 (v2+1))))&&(decide ((IntKind.wrap .i64 (v2+1))≤(v1.length:Int))))&&(decide ((v1.length:Int)≤(v1.length:Int)))) (
     ((f87 (List.drop (Int.toNat (IntKind.wrap .i64 (v2+1))) (List.take (Int.toNat (v1.length:Int)) v1)))).bind fun y3=>
     cond y3.1 (
      some ((0,[]),0,4,())) (
      ((f88 v1 (IntKind.wrap .i64 (v2+1)))).bind fun y4=>
      cond (decide (y4.2.1=(-1))) (
       some ((0,[]),0,2,())) (
       cond (decide (1000<y4.1)) (
        some ((0,[]),0,2,())) (
        cond (decide ((v1.length:Int)<(IntKind.wrap .i64 ((IntKind.wrap .i64 (y4.2.1+y4.1))+4)))) (
         some ((0,[]),0,4,())) (
         cond ((((decide (0≤v2))&&(decide (v2≤(IntKind.wrap .i64 ((IntKind.wrap .i64 (y4.2.1+y4.1))+4)))))&&(decide ((IntKind.wrap .i64 ((IntKind.wrap .i64 (y4.2.1+y4.1))+4))≤(IntKind.wrap .i64 ((IntKind.wrap .i64 (y4.2.1+y4.1))+4)))))&&(decide ((IntKind.wrap .i64 ((IntKind.wrap .i64 (y4.2.1+y4.1))+4))≤(v1.length:Int)))) (
          ((f89 (List.drop (Int.toNat v2) (List.take (Int.toNat (IntKind.wrap .i64 ((IntKind.wrap .i64 (y4.2.1+y4.1))+4))) v1)))).bind fun y5=>
          cond (!y5.2.1) (
           some ((0,[]),0,3,())) (
           cond (decide (0<(y5.1.length:Int))) (
            cond (((decide (0≤(IntKind.wrap .i64 (y4.2.1-v2))))&&(decide ((IntKind.wrap .i64 (y4.2.1-v2))≤(y5.1.length:Int))))&&(decide ((y5.1.length:Int)≤(y5.1.length:Int)))) (
             some (((IntKind.wrap .i64 (rd wM y5.1 0)),(List.drop (Int.toNat (IntKind.wrap .i64 (y4.2.1-v2))) (List.take (Int.toNat (y5.1.length:Int)) y5.1))),(IntKind.wrap .i64 ((IntKind.wrap .i64 (y4.2.1+y4.1))+4)),0,())) (
             none)) (
            none))) (
          none)))))) (
     none))))
noncomputable def f60 (v1 v2 v3:Int):Option bq:=
 cond (decide (v2≤v1)) (
  some ((decide (v1≤v3)),())) (
  some (false,()))
noncomputable def f114 (v1 v2:Int):Option bq:=
 cond (decide (0≤v2)) (
  cond (decide (v2≤32)) (
   cond (decide (0≤v1)) (
    cond (decide (v1<4294967296)) (
     cond (!(decide ((IntKind.wrap .i64 (32-v2))<0))) (
      some ((decide ((aG .and .i64 v1 (IntKind.wrap .i64 ((IntKind.wrap .i64 (1 * ((2:Int) ^ ((min (Int.toNat (IntKind.wrap .i64 (32-v2))) 64):Nat))))-1)))=0)),())) (
      none)) (
     some (false,()))) (
    some (false,()))) (
   some (false,()))) (
  some (false,()))
noncomputable def f62 (v1 v2:Int):Option bx:=
 ((f114 v1 v2)).bind fun y3=>
 cond (!y3.1) (
  some (0,())) (
  cond (!(decide ((IntKind.wrap .i64 (32-v2))<0))) (
   some ((IntKind.wrap .i64 (1 * ((2:Int) ^ ((min (Int.toNat (IntKind.wrap .i64 (32-v2))) 64):Nat)))),())) (
   none))
noncomputable def f115 (v1 v2 v3:Int):Option bx:=
 ((f114 v1 v2)).bind fun y4=>
 cond (!y4.1) (
  some ((-1),())) (
  cond (decide (v3<0)) (
   some ((-1),())) (
   cond (decide (4294967296≤v3)) (
    some ((-1),())) (
    cond (!(decide ((IntKind.wrap .i64 (32-v2))<0))) (
     cond (!(decide ((Int.fdiv (aG .xor .i64 v3 v1) ((2:Int) ^ ((min (Int.toNat (IntKind.wrap .i64 (32-v2))) 64):Nat)))=0))) (
      some ((-1),())) (
      some ((IntKind.wrap .i64 (v3-v1)),()))) (
     none))))
noncomputable def f64 (v1 v2 v3 v4:Int):Option bq:=
 ((f114 v1 v2)).bind fun y5=>
 cond y5.1 (
  ((f114 v3 v4)).bind fun y6=>
  cond y6.1 (
   ((f115 v1 v2 v3)).bind fun y7=>
   cond (!(decide (y7.1=(-1)))) (
    some (true,())) (
    ((f115 v3 v4 v1)).bind fun y8=>
    some ((!(decide (y8.1=(-1)))),()))) (
   some (false,()))) (
  some (false,()))
noncomputable def f68 (v1 v2 v3 v4 v5 v6 v7 v8:Int):Option bx:=
 some ((IntKind.wrap .i64 ((IntKind.wrap .i64 ((IntKind.wrap .i64 (v6-v5))+1))-v7)),())
noncomputable def f69 (v1 v2 v3 v4 v5 v6 v7 v8:Int):Option bx:=
 ((f62 v1 v2)).bind fun y9=>
 ((f62 v3 v4)).bind fun y10=>
 cond (decide ((sS y9.1 y10.1)=0)) (
  some (0,())) (
  cond (!(decide (y10.1=0))) (
   some ((IntKind.wrap .i64 ((IntKind.wrap .i64 (Int.tdiv (IntKind.wrap .i64 (y9.1-1)) y10.1))+1)),())) (
   none))
noncomputable def f29 (v1 v2 v3 v4 v5 v6 v7 v8:Int):Option bq:=
 ((f62 v1 v2)).bind fun y9=>
 ((f60 y9.1 1 32)).bind fun y10=>
 cond y10.1 (
  ((f62 v3 v4)).bind fun y11=>
  ((f60 y11.1 1 4)).bind fun y12=>
  cond (!y12.1) (
   some (false,())) (
   ((f64 v1 v2 v3 v4)).bind fun y13=>
   cond (!(!y13.1)) (
    some (false,())) (
    ((f60 v5 1 v6)).bind fun y14=>
    cond y14.1 (
     cond (!(decide (v6≤65535))) (
      some (false,())) (
      ((f60 v7 0 (IntKind.wrap .i64 (v6-v5)))).bind fun y15=>
      cond y15.1 (
       ((f60 v8 1 65535)).bind fun y16=>
       cond y16.1 (
        cond (!(decide (v8=0))) (
         cond (!(decide ((IntKind.wrap .i64 (Int.tdiv v7 v8))≤8))) (
          some (false,())) (
          ((f68 v1 v2 v3 v4 v5 v6 v7 v8)).bind fun y17=>
          ((f69 v1 v2 v3 v4 v5 v6 v7 v8)).bind fun y18=>
          cond (!(decide (y18.1≤y17.1))) (
           some (false,())) (
           some (true,())))) (
         none)) (
        some (false,()))) (
       some (false,())))) (
     some (false,()))))) (
  some (false,()))
noncomputable def f31 (v1 v2 v3:Int):Option bq:=
 cond (decide (v2≤v1)) (
  some ((decide (v1≤v3)),())) (
  some (false,()))
noncomputable def f30 (v1 v2 v3:Int)(v4:Bool):Option bq:=
 ((f31 v1 1 8)).bind fun y5=>
 cond y5.1 (
  ((f31 v2 1 1048576)).bind fun y6=>
  cond y6.1 (
   ((f31 v3 0 1048576)).bind fun y7=>
   some (y7.1,())) (
   some (false,()))) (
  some (false,()))
noncomputable def f73 (v1 v2 v3 v4 v5 v6:Int):Option bq:=
 cond (decide (v1<(IntKind.wrap .i64 (v4+v5)))) (
  some ((decide (v4<(IntKind.wrap .i64 (v1+v2)))),())) (
  some (false,()))
noncomputable def f74 (v1 v2 v3 v4:Int):Option bq:=
 cond (decide (0≤v1)) (
  cond (decide (1≤v2)) (
   cond (decide (v1<v4)) (
    cond (decide (v2≤(IntKind.wrap .i64 (v4-v1)))) (
     cond (decide (0≤v3)) (
      some ((decide (v3<2)),())) (
      some (false,()))) (
     some (false,()))) (
    some (false,()))) (
   some (false,()))) (
  some (false,()))
abbrev Hl:Type:=(aP×Int×aP×Int×Int×Unit)×(Unit)×(Unit)
abbrev l5:Type:=(aP×Unit×Int×Int×Unit)×(DU×Unit)×(Unit)
abbrev sn:Type:=(Unit)×(DU×Unit)×(Unit)
abbrev sG:Type:=bx×(DU×Unit)×(Unit)
noncomputable def mN (v1:aP)(v2 v3 v4 v5 v6:Int):Option (R3 l5 sn sG):=
 cond (decide (v3<v2)) (
  cond ((decide (0≤v3))&&(decide (v3<(v1.length:Int)))) (
   ((f73 v4 v5 v6 (rd ck v1 (Int.toNat v3)).1 (rd ck v1 (Int.toNat v3)).2.1 (rd ck v1 (Int.toNat v3)).2.2)).bind fun y7=>
   cond y7.1 (
    some (R3.ret ((v3,()),((v4,v5,v6,()),()),()))) (
    some (R3.next ((v1,(),v2,(IntKind.wrap .i64 (v3+1)),()),((v4,v5,v6,()),()),())))) (
   none)) (
  some (R3.out ((),((v4,v5,v6,()),()),())))
noncomputable def fL (z:l5):Option (R3 l5 sn sG):=mN z.1.1 z.1.2.2.1 z.1.2.2.2.1 z.2.1.1.1 z.2.1.1.2.1 z.2.1.1.2.2.1
abbrev SR:Type:=(Unit)×(Unit)×(Unit)
abbrev SW:Type:=bq×(Unit)×(Unit)
noncomputable def DA (v1:aP)(v2:Int)(v3:aP)(v4 v5:Int):Option (R3 Hl SR SW):=
 cond (decide (v5<v4)) (
  cond ((decide (0≤v5))&&(decide (v5<(v3.length:Int)))) (
   ((f74 (rd ck v3 (Int.toNat v5)).1 (rd ck v3 (Int.toNat v5)).2.1 (rd ck v3 (Int.toNat v5)).2.2 v2)).bind fun y6=>
   cond (!y6.1) (
    some (R3.ret ((false,()),(),()))) (
    cond ((decide (0≤v5))&&(decide (v5≤(v1.length:Int)))) (
     ((iter aA fL (((List.drop 0 (List.take (Int.toNat v5) v1)),(),(((List.drop 0 (List.take (Int.toNat v5) v1)).length:Nat):Int),0,()),(((rd ck v3 (Int.toNat v5)).1,(rd ck v3 (Int.toNat v5)).2.1,(rd ck v3 (Int.toNat v5)).2.2,()),()),()))).bind fun r=>match r with
     | .inl y7=>
       some (R3.next ((v1,v2,v3,v4,(IntKind.wrap .i64 (v5+1)),()),(),()))
     | .inr z8=>
       cond (decide (0≤z8.1.1)) (
        some (R3.ret ((false,()),(),()))) (
        some (R3.next ((v1,v2,v3,v4,(IntKind.wrap .i64 (v5+1)),()),(),())))) (
     none))) (
   none)) (
  some (R3.out ((),(),())))
noncomputable def sU (z:Hl):Option (R3 Hl SR SW):=DA z.1.1 z.1.2.1 z.1.2.2.1 z.1.2.2.2.1 z.1.2.2.2.2.1
noncomputable def f32 (v1:aP)(v2:Int):Option bq:=
 cond (decide (v2<0)) (
  some (false,())) (
  cond (decide (4<v2)) (
   some (false,())) (
   cond (decide (3<(v1.length:Int))) (
    some (false,())) (
    ((iter aA sU ((v1,v2,v1,(v1.length:Int),0,()),(),()))).bind fun r=>match r with
    | .inl y3=>
      some (true,())
    | .inr z4=>
      some (z4.1.1,()))))
noncomputable def f33 (v1 v2 v3 v4 v5 v6 v7 v8 v9 v10 v11:Int)(v12:Bool)(v13:Int)(v14:aP)(v15:bT)(v16:aP):Option bx:=
 ((f62 v3 v4)).bind fun y17=>
 some (y17.1,())
noncomputable def f118 (v1 v2 v3 v4 v5 v6 v7 v8:Int):Option bx:=
 ((f29 v1 v2 v3 v4 v5 v6 v7 v8)).bind fun y9=>
 cond (!y9.1) (
  some (0,())) (
  ((f68 v1 v2 v3 v4 v5 v6 v7 v8)).bind fun y10=>
  ((f69 v1 v2 v3 v4 v5 v6 v7 v8)).bind fun y11=>
  cond (!(decide (y11.1=0))) (
   some ((IntKind.wrap .i64 (Int.tdiv y10.1 y11.1)),())) (
   none))
noncomputable def f76 (v1 v2 v3 v4 v5 v6 v7 v8 v9:Int):Option ((Int×Int×Int)×Bool×Unit):=
 ((f29 v1 v2 v3 v4 v5 v6 v7 v8)).bind fun y10=>
 cond (!y10.1) (
  some ((0,0,0),false,())) (
  cond (decide (v9<0)) (
   some ((0,0,0),false,())) (
   ((f62 v1 v2)).bind fun y11=>
   cond (decide (y11.1≤v9)) (
    some ((0,0,0),false,())) (
    ((f69 v1 v2 v3 v4 v5 v6 v7 v8)).bind fun y12=>
    ((f118 v1 v2 v3 v4 v5 v6 v7 v8)).bind fun y13=>
    cond (!(decide (y12.1=0))) (
     cond (!(decide (y12.1=0))) (
      some (((IntKind.wrap .i64 (Int.tdiv v9 y12.1)),(IntKind.wrap .i64 (v5+(IntKind.wrap .i64 ((Int.tmod v9 y12.1) * y13.1)))),(IntKind.wrap .i64 ((IntKind.wrap .i64 ((IntKind.wrap .i64 (v5+(IntKind.wrap .i64 ((Int.tmod v9 y12.1) * y13.1))))+y13.1))-1))),true,())) (
      none)) (
     none))))
noncomputable def f119 (v1 v2 v3 v4 v5 v6 v7 v8:Int):Option bx:=
 ((f29 v1 v2 v3 v4 v5 v6 v7 v8)).bind fun y9=>
 cond (!y9.1) (
  some (0,())) (
  cond (!(decide (v8=0))) (
   some ((IntKind.wrap .i64 (Int.tdiv v7 v8)),())) (
   none))
noncomputable def f77 (v1 v2 v3 v4 v5 v6 v7 v8 v9 v10:Int):Option ((Int×Int×Int)×Bool×Unit):=
 cond (decide (v9<0)) (
  some ((0,0,0),false,())) (
  ((f62 v3 v4)).bind fun y11=>
  cond (decide (y11.1≤v9)) (
   some ((0,0,0),false,())) (
   cond (decide (v10<0)) (
    some ((0,0,0),false,())) (
    ((f119 v1 v2 v3 v4 v5 v6 v7 v8)).bind fun y12=>
    cond (decide (y12.1≤v10)) (
     some ((0,0,0),false,())) (
     some ((v9,(IntKind.wrap .i64 ((IntKind.wrap .i64 ((IntKind.wrap .i64 (v6-v7))+1))+(IntKind.wrap .i64 (v10 * v8)))),(IntKind.wrap .i64 ((IntKind.wrap .i64 ((IntKind.wrap .i64 ((IntKind.wrap .i64 ((IntKind.wrap .i64 (v6-v7))+1))+(IntKind.wrap .i64 (v10 * v8))))+v8))-1))),true,())))))
noncomputable def f121 (v1 v2 v3 v4:Int):Option bq:=
 cond (decide (0≤v1)) (
  cond (decide (v1≤4)) (
   cond (decide (1≤v2)) (
    cond (decide (v2≤4)) (
     cond (decide (v1≤v4)) (
      some ((decide (v4<(IntKind.wrap .i64 (v1+v2)))),())) (
      some (false,()))) (
     some (false,()))) (
    some (false,()))) (
   some (false,()))) (
  some (false,()))
abbrev mJ:Type:=(aP×Unit×Int×Int×Unit)×ow×(Unit)
abbrev sx:Type:=(Unit)×ow×(Unit)
abbrev sI:Type:=bx×ow×(Unit)
noncomputable def lF (v1:aP)(v2 v3 v4:Int):Option (R3 mJ sx sI):=
 cond (decide (v3<v2)) (
  cond ((decide (0≤v3))&&(decide (v3<(v1.length:Int)))) (
   ((f121 (rd ck v1 (Int.toNat v3)).1 (rd ck v1 (Int.toNat v3)).2.1 (rd ck v1 (Int.toNat v3)).2.2 v4)).bind fun y5=>
   cond y5.1 (
    some (R3.ret ((v3,()),((v4,()),()),()))) (
    some (R3.next ((v1,(),v2,(IntKind.wrap .i64 (v3+1)),()),((v4,()),()),())))) (
   none)) (
  some (R3.out ((),((v4,()),()),())))
noncomputable def fO (z:mJ):Option (R3 mJ sx sI):=lF z.1.1 z.1.2.2.1 z.1.2.2.2.1 z.2.1.1.1
noncomputable def f78 (v1:aP)(v2:Int):Option bx:=
 ((iter aA fO ((v1,(),(v1.length:Int),0,()),((v2,()),()),()))).bind fun r=>match r with
 | .inl y3=>
   some ((-1),())
 | .inr z4=>
   some (z4.1.1,())
noncomputable def f79 (v1 v2 v3 v4:Int):Option bq:=
 cond (decide (v3<v1)) (
  some (true,())) (
  cond (decide (v1=v3)) (
   some ((decide (v4<v2)),())) (
   some (false,())))
abbrev w9:Type:=(Unit×Unit×bT×Int×Int×Unit)×(Tz×(List (Int×Int))×Unit)×(Unit)
abbrev HX:Type:=rM×Ap×(Unit)
abbrev Gy:Type:=bq×(Unit)×(Unit)
noncomputable def Kt (v1:bT)(v2 v3 v4 v5 v6 v7 v8 v9 v10 v11 v12 v13 v14:Int)(v15:Bool)(v16:Int)(v17:aP)(v18:bT)(v19:aP)(v20:(List (Int×Int))):Option (R3 w9 HX Gy):=
 cond (decide (v3<v2)) (
  cond ((decide (0≤v3))&&(decide (v3<(v1.length:Int)))) (
   ((f76 v4 v5 v6 v7 v8 v9 v10 v11 (rd cQ v1 (Int.toNat v3)).1)).bind fun y21=>
   ((f77 v4 v5 v6 v7 v8 v9 v10 v11 (rd cQ v1 (Int.toNat v3)).2.1 (rd cQ v1 (Int.toNat v3)).2.2.1)).bind fun y22=>
   cond (!y21.2.1) (
    some (R3.ret ((false,()),(),()))) (
    cond (!y22.2.1) (
     some (R3.ret ((false,()),(),()))) (
     ((f78 v17 (rd cQ v1 (Int.toNat v3)).2.1)).bind fun y23=>
     cond (decide (y23.1=(-1))) (
      some (R3.ret ((false,()),(),()))) (
      cond v15 (
       cond (!(decide (y21.1.1=(rd cQ v1 (Int.toNat v3)).2.1))) (
        some (R3.ret ((false,()),(),()))) (
        cond (decide (v12<(cT (kW v20 (rd cQ v1 (Int.toNat v3)).1 (IntKind.wrap .i64 ((cT v20 (rd cQ v1 (Int.toNat v3)).1)+1))) (rd cQ v1 (Int.toNat v3)).1))) (
         some (R3.ret ((false,()),(),()))) (
         cond (decide ((rd cQ v1 (Int.toNat v3)).2.2.2.1<0)) (
          some (R3.ret ((false,()),(),()))) (
          cond (decide ((rd cQ v1 (Int.toNat v3)).2.2.2.2<(rd cQ v1 (Int.toNat v3)).2.2.2.1)) (
           some (R3.ret ((false,()),(),()))) (
           cond (decide (v16<(rd cQ v1 (Int.toNat v3)).2.2.2.2)) (
            some (R3.ret ((false,()),(),()))) (
            cond (decide ((rd cQ v1 (Int.toNat v3)).2.2.2.2≤(IntKind.wrap .i64 (v16-v13)))) (
             some (R3.ret ((false,()),(),()))) (
             cond (decide (0<v3)) (
              cond ((decide (0≤(IntKind.wrap .i64 (v3-1))))&&(decide ((IntKind.wrap .i64 (v3-1))<(v18.length:Int)))) (
               cond ((decide (0≤(IntKind.wrap .i64 (v3-1))))&&(decide ((IntKind.wrap .i64 (v3-1))<(v18.length:Int)))) (
                ((f79 (rd cQ v1 (Int.toNat v3)).2.1 (rd cQ v1 (Int.toNat v3)).2.2.1 (rd cQ v18 (Int.toNat (IntKind.wrap .i64 (v3-1)))).2.1 (rd cQ v18 (Int.toNat (IntKind.wrap .i64 (v3-1)))).2.2.1)).bind fun y24=>
                cond (!y24.1) (
                 some (R3.ret ((false,()),(),()))) (
                 some (R3.next (((),(),v1,v2,(IntKind.wrap .i64 (v3+1)),()),((v4,v5,v6,v7,v8,v9,v10,v11,v12,v13,v14,v15,v16,v17,v18,v19,()),(kW v20 (rd cQ v1 (Int.toNat v3)).1 (IntKind.wrap .i64 ((cT v20 (rd cQ v1 (Int.toNat v3)).1)+1))),()),())))) (
                none)) (
               none)) (
              some (R3.next (((),(),v1,v2,(IntKind.wrap .i64 (v3+1)),()),((v4,v5,v6,v7,v8,v9,v10,v11,v12,v13,v14,v15,v16,v17,v18,v19,()),(kW v20 (rd cQ v1 (Int.toNat v3)).1 (IntKind.wrap .i64 ((cT v20 (rd cQ v1 (Int.toNat v3)).1)+1))),()),())))))))))) (
       cond (decide (v12<(cT (kW v20 (rd cQ v1 (Int.toNat v3)).1 (IntKind.wrap .i64 ((cT v20 (rd cQ v1 (Int.toNat v3)).1)+1))) (rd cQ v1 (Int.toNat v3)).1))) (
        some (R3.ret ((false,()),(),()))) (
        cond (decide ((rd cQ v1 (Int.toNat v3)).2.2.2.1<0)) (
         some (R3.ret ((false,()),(),()))) (
         cond (decide ((rd cQ v1 (Int.toNat v3)).2.2.2.2<(rd cQ v1 (Int.toNat v3)).2.2.2.1)) (
          some (R3.ret ((false,()),(),()))) (
          cond (decide (v16<(rd cQ v1 (Int.toNat v3)).2.2.2.2)) (
           some (R3.ret ((false,()),(),()))) (
           cond (decide ((rd cQ v1 (Int.toNat v3)).2.2.2.2≤(IntKind.wrap .i64 (v16-v13)))) (
            some (R3.ret ((false,()),(),()))) (
            cond (decide (0<v3)) (
             cond ((decide (0≤(IntKind.wrap .i64 (v3-1))))&&(decide ((IntKind.wrap .i64 (v3-1))<(v18.length:Int)))) (
              cond ((decide (0≤(IntKind.wrap .i64 (v3-1))))&&(decide ((IntKind.wrap .i64 (v3-1))<(v18.length:Int)))) (
               ((f79 (rd cQ v1 (Int.toNat v3)).2.1 (rd cQ v1 (Int.toNat v3)).2.2.1 (rd cQ v18 (Int.toNat (IntKind.wrap .i64 (v3-1)))).2.1 (rd cQ v18 (Int.toNat (IntKind.wrap .i64 (v3-1)))).2.2.1)).bind fun y25=>
               cond (!y25.1) (
                some (R3.ret ((false,()),(),()))) (
                some (R3.next (((),(),v1,v2,(IntKind.wrap .i64 (v3+1)),()),((v4,v5,v6,v7,v8,v9,v10,v11,v12,v13,v14,v15,v16,v17,v18,v19,()),(kW v20 (rd cQ v1 (Int.toNat v3)).1 (IntKind.wrap .i64 ((cT v20 (rd cQ v1 (Int.toNat v3)).1)+1))),()),())))) (
               none)) (
              none)) (
             some (R3.next (((),(),v1,v2,(IntKind.wrap .i64 (v3+1)),()),((v4,v5,v6,v7,v8,v9,v10,v11,v12,v13,v14,v15,v16,v17,v18,v19,()),(kW v20 (rd cQ v1 (Int.toNat v3)).1 (IntKind.wrap .i64 ((cT v20 (rd cQ v1 (Int.toNat v3)).1)+1))),()),()))))))))))))) (
   none)) (
  some (R3.out (((),()),((v4,v5,v6,v7,v8,v9,v10,v11,v12,v13,v14,v15,v16,v17,v18,v19,()),()),())))
noncomputable def sA (z:w9):Option (R3 w9 HX Gy):=Kt z.1.2.2.1 z.1.2.2.2.1 z.1.2.2.2.2.1 z.2.1.1.1 z.2.1.1.2.1 z.2.1.1.2.2.1 z.2.1.1.2.2.2.1 z.2.1.1.2.2.2.2.1 z.2.1.1.2.2.2.2.2.1 z.2.1.1.2.2.2.2.2.2.1 z.2.1.1.2.2.2.2.2.2.2.1 z.2.1.1.2.2.2.2.2.2.2.2.1 z.2.1.1.2.2.2.2.2.2.2.2.2.1 z.2.1.1.2.2.2.2.2.2.2.2.2.2.1 z.2.1.1.2.2.2.2.2.2.2.2.2.2.2.1 z.2.1.1.2.2.2.2.2.2.2.2.2.2.2.2.1 z.2.1.1.2.2.2.2.2.2.2.2.2.2.2.2.2.1 z.2.1.1.2.2.2.2.2.2.2.2.2.2.2.2.2.2.1 z.2.1.1.2.2.2.2.2.2.2.2.2.2.2.2.2.2.2.1 z.2.1.2.1
noncomputable def f34 (v1 v2 v3 v4 v5 v6 v7 v8 v9 v10 v11:Int)(v12:Bool)(v13:Int)(v14:aP)(v15:bT)(v16:aP):Option bq:=
 ((iter aA sA (((),(),v15,(v15.length:Int),0,()),((v1,v2,v3,v4,v5,v6,v7,v8,v9,v10,v11,v12,v13,v14,v15,v16,()),[],()),()))).bind fun r=>match r with
 | .inl y17=>
   some ((decide ((y17.2.1.1.2.2.2.2.2.2.2.2.2.2.2.2.2.2.1.length:Int)≤32)),())
 | .inr z18=>
   some (z18.1.1,())
noncomputable def f160 (v1 v2 v3 v4 v5:Int):Option (((Int×Int)×Int×Int×Int×Int×Int)×Unit):=
 some (((v2,v3),v1,v2,v3,v4,v5),())
noncomputable def f123 (v1 v2 v3 v4 v5:Int):Option ((Int×Int)×Unit):=
 ((f160 v1 v2 v3 v4 v5)).bind fun y6=>
 some ((y6.1.1.1,y6.1.1.2),())
abbrev lG:Type:=(bT×Unit×Int×Int×Unit)×yj×(Unit)
abbrev sP:Type:=(Unit)×yj×(Unit)
abbrev r8:Type:=bx×yj×(Unit)
noncomputable def l7 (v1:bT)(v2 v3 v4 v5:Int):Option (R3 lG sP r8):=
 cond (decide (v3<v2)) (
  cond ((decide (0≤v3))&&(decide (v3<(v1.length:Int)))) (
   ((f123 (rd cQ v1 (Int.toNat v3)).1 (rd cQ v1 (Int.toNat v3)).2.1 (rd cQ v1 (Int.toNat v3)).2.2.1 (rd cQ v1 (Int.toNat v3)).2.2.2.1 (rd cQ v1 (Int.toNat v3)).2.2.2.2)).bind fun y6=>
   cond ((decide (y6.1.1=v4))&&((decide (y6.1.2=v5))&&true)) (
    some (R3.ret ((v3,()),((v4,v5,()),((),()),()),()))) (
    some (R3.next ((v1,(),v2,(IntKind.wrap .i64 (v3+1)),()),((v4,v5,()),((),()),()),())))) (
   none)) (
  some (R3.out ((),((v4,v5,()),((),()),()),())))
noncomputable def fM (z:lG):Option (R3 lG sP r8):=l7 z.1.1 z.1.2.2.1 z.1.2.2.2.1 z.2.1.1.1 z.2.1.1.2.1
noncomputable def f80 (v1:bT)(v2 v3:Int):Option bx:=
 ((iter aA fM ((v1,(),(v1.length:Int),0,()),((v2,v3,()),((),()),()),()))).bind fun r=>match r with
 | .inl y4=>
   some ((-1),())
 | .inr z5=>
   some (z5.1.1,())
abbrev Hg:Type:=(Unit×aP×Int×Int×Unit)×Ap×(Unit)
abbrev SF:Type:=(Unit)×(Unit)×(Unit)
abbrev TE:Type:=bq×(Unit)×(Unit)
noncomputable def Ni (v1:aP)(v2 v3 v4 v5 v6 v7 v8 v9 v10 v11 v12 v13 v14:Int)(v15:Bool)(v16:Int)(v17:aP)(v18:bT)(v19:aP):Option (R3 Hg SF TE):=
 cond (decide (v3<v2)) (
  cond ((decide (0≤v3))&&(decide (v3<(v1.length:Int)))) (
   ((f77 v4 v5 v6 v7 v8 v9 v10 v11 (rd ck v1 (Int.toNat v3)).1 (rd ck v1 (Int.toNat v3)).2.1)).bind fun y20=>
   cond (!y20.2.1) (
    some (R3.ret ((false,()),(),()))) (
    ((f31 (rd ck v1 (Int.toNat v3)).2.2 (IntKind.wrap .i64 (v16+1)) (IntKind.wrap .i64 (v16+1048576)))).bind fun y21=>
    cond (!y21.1) (
     some (R3.ret ((false,()),(),()))) (
     ((f80 v18 (rd ck v1 (Int.toNat v3)).1 (rd ck v1 (Int.toNat v3)).2.1)).bind fun y22=>
     cond (!(decide (y22.1=(-1)))) (
      some (R3.ret ((false,()),(),()))) (
      cond (decide (0<v3)) (
       cond ((decide (0≤(IntKind.wrap .i64 (v3-1))))&&(decide ((IntKind.wrap .i64 (v3-1))<(v19.length:Int)))) (
        cond ((decide (0≤(IntKind.wrap .i64 (v3-1))))&&(decide ((IntKind.wrap .i64 (v3-1))<(v19.length:Int)))) (
         ((f79 (rd ck v1 (Int.toNat v3)).1 (rd ck v1 (Int.toNat v3)).2.1 (rd ck v19 (Int.toNat (IntKind.wrap .i64 (v3-1)))).1 (rd ck v19 (Int.toNat (IntKind.wrap .i64 (v3-1)))).2.1)).bind fun y23=>
         cond (!y23.1) (
          some (R3.ret ((false,()),(),()))) (
          some (R3.next (((),v1,v2,(IntKind.wrap .i64 (v3+1)),()),((v4,v5,v6,v7,v8,v9,v10,v11,v12,v13,v14,v15,v16,v17,v18,v19,()),()),())))) (
         none)) (
        none)) (
       some (R3.next (((),v1,v2,(IntKind.wrap .i64 (v3+1)),()),((v4,v5,v6,v7,v8,v9,v10,v11,v12,v13,v14,v15,v16,v17,v18,v19,()),()),()))))))) (
   none)) (
  some (R3.out ((),(),())))
noncomputable def sV (z:Hg):Option (R3 Hg SF TE):=Ni z.1.2.1 z.1.2.2.1 z.1.2.2.2.1 z.2.1.1.1 z.2.1.1.2.1 z.2.1.1.2.2.1 z.2.1.1.2.2.2.1 z.2.1.1.2.2.2.2.1 z.2.1.1.2.2.2.2.2.1 z.2.1.1.2.2.2.2.2.2.1 z.2.1.1.2.2.2.2.2.2.2.1 z.2.1.1.2.2.2.2.2.2.2.2.1 z.2.1.1.2.2.2.2.2.2.2.2.2.1 z.2.1.1.2.2.2.2.2.2.2.2.2.2.1 z.2.1.1.2.2.2.2.2.2.2.2.2.2.2.1 z.2.1.1.2.2.2.2.2.2.2.2.2.2.2.2.1 z.2.1.1.2.2.2.2.2.2.2.2.2.2.2.2.2.1 z.2.1.1.2.2.2.2.2.2.2.2.2.2.2.2.2.2.1 z.2.1.1.2.2.2.2.2.2.2.2.2.2.2.2.2.2.2.1
noncomputable def f35 (v1 v2 v3 v4 v5 v6 v7 v8 v9 v10 v11:Int)(v12:Bool)(v13:Int)(v14:aP)(v15:bT)(v16:aP):Option bq:=
 ((iter aA sV (((),v16,(v16.length:Int),0,()),((v1,v2,v3,v4,v5,v6,v7,v8,v9,v10,v11,v12,v13,v14,v15,v16,()),()),()))).bind fun r=>match r with
 | .inl y17=>
   some (true,())
 | .inr z18=>
   some (z18.1.1,())
noncomputable def f11 (v1 v2 v3 v4 v5 v6 v7 v8 v9 v10 v11:Int)(v12:Bool)(v13:Int)(v14:aP)(v15:bT)(v16:aP):Option bq:=
 ((f29 v1 v2 v3 v4 v5 v6 v7 v8)).bind fun y17=>
 cond y17.1 (
  ((f30 v9 v10 v11 v12)).bind fun y18=>
  cond y18.1 (
   ((f31 v13 0 1073741824)).bind fun y19=>
   cond y19.1 (
    ((f33 v1 v2 v3 v4 v5 v6 v7 v8 v9 v10 v11 v12 v13 v14 v15 v16)).bind fun y20=>
    ((f32 v14 y20.1)).bind fun y21=>
    cond y21.1 (
     ((f34 v1 v2 v3 v4 v5 v6 v7 v8 v9 v10 v11 v12 v13 v14 v15 v16)).bind fun y22=>
     cond y22.1 (
      ((f35 v1 v2 v3 v4 v5 v6 v7 v8 v9 v10 v11 v12 v13 v14 v15 v16)).bind fun y23=>
      some (y23.1,())) (
      some (false,()))) (
     some (false,()))) (
    some (false,()))) (
   some (false,()))) (
  some (false,()))
noncomputable def f90 (v1:aT):Option ((aT×aT×aT×aT×aT)×Bool×Unit):=
 ((f88 v1 0)).bind fun y2=>
 cond (decide (y2.2.1=(-1))) (
  some (([],[],[],[],[]),false,())) (
  cond (decide ((IntKind.wrap .i64 ((v1.length:Int)-y2.2.1))<y2.1)) (
   some (([],[],[],[],[]),false,())) (
   cond ((((decide (0≤y2.2.1))&&(decide (y2.2.1≤(IntKind.wrap .i64 (y2.2.1+y2.1)))))&&(decide ((IntKind.wrap .i64 (y2.2.1+y2.1))≤(IntKind.wrap .i64 (y2.2.1+y2.1)))))&&(decide ((IntKind.wrap .i64 (y2.2.1+y2.1))≤(v1.length:Int)))) (
    cond (((decide (0≤(IntKind.wrap .i64 (y2.2.1+y2.1))))&&(decide ((IntKind.wrap .i64 (y2.2.1+y2.1))≤(v1.length:Int))))&&(decide ((v1.length:Int)≤(v1.length:Int)))) (
     ((f88 (List.drop (Int.toNat (IntKind.wrap .i64 (y2.2.1+y2.1))) (List.take (Int.toNat (v1.length:Int)) v1)) 0)).bind fun y3=>
     cond (decide (y3.2.1=(-1))) (
      some (((List.drop (Int.toNat y2.2.1) (List.take (Int.toNat (IntKind.wrap .i64 (y2.2.1+y2.1))) v1)),[],[],[],[]),false,())) (
      cond (decide ((IntKind.wrap .i64 ((((List.drop (Int.toNat (IntKind.wrap .i64 (y2.2.1+y2.1))) (List.take (Int.toNat (v1.length:Int)) v1)).length:Nat):Int)-y3.2.1))<y3.1)) (
       some (((List.drop (Int.toNat y2.2.1) (List.take (Int.toNat (IntKind.wrap .i64 (y2.2.1+y2.1))) v1)),[],[],[],[]),false,())) (
       cond ((((decide (0≤y3.2.1))&&(decide (y3.2.1≤(IntKind.wrap .i64 (y3.2.1+y3.1)))))&&(decide ((IntKind.wrap .i64 (y3.2.1+y3.1))≤(IntKind.wrap .i64 (y3.2.1+y3.1)))))&&(decide ((IntKind.wrap .i64 (y3.2.1+y3.1))≤(((List.drop (Int.toNat (IntKind.wrap .i64 (y2.2.1+y2.1))) (List.take (Int.toNat (v1.length:Int)) v1)).length:Nat):Int)))) (
        cond (((decide (0≤(IntKind.wrap .i64 (y3.2.1+y3.1))))&&(decide ((IntKind.wrap .i64 (y3.2.1+y3.1))≤(((List.drop (Int.toNat (IntKind.wrap .i64 (y2.2.1+y2.1))) (List.take (Int.toNat (v1.length:Int)) v1)).length:Nat):Int))))&&(decide ((((List.drop (Int.toNat (IntKind.wrap .i64 (y2.2.1+y2.1))) (List.take (Int.toNat (v1.length:Int)) v1)).length:Nat):Int)≤(((List.drop (Int.toNat (IntKind.wrap .i64 (y2.2.1+y2.1))) (List.take (Int.toNat (v1.length:Int)) v1)).length:Nat):Int)))) (
         ((f88 (List.drop (Int.toNat (IntKind.wrap .i64 (y3.2.1+y3.1))) (List.take (Int.toNat (((List.drop (Int.toNat (IntKind.wrap .i64 (y2.2.1+y2.1))) (List.take (Int.toNat (v1.length:Int)) v1)).length:Nat):Int)) (List.drop (Int.toNat (IntKind.wrap .i64 (y2.2.1+y2.1))) (List.take (Int.toNat (v1.length:Int)) v1)))) 0)).bind fun y4=>
         cond (decide (y4.2.1=(-1))) (
          some (((List.drop (Int.toNat y2.2.1) (List.take (Int.toNat (IntKind.wrap .i64 (y2.2.1+y2.1))) v1)),(List.drop (Int.toNat y3.2.1) (List.take (Int.toNat (IntKind.wrap .i64 (y3.2.1+y3.1))) (List.drop (Int.toNat (IntKind.wrap .i64 (y2.2.1+y2.1))) (List.take (Int.toNat (v1.length:Int)) v1)))),[],[],[]),false,())) (
          cond (decide ((IntKind.wrap .i64 ((((List.drop (Int.toNat (IntKind.wrap .i64 (y3.2.1+y3.1))) (List.take (Int.toNat (((List.drop (Int.toNat (IntKind.wrap .i64 (y2.2.1+y2.1))) (List.take (Int.toNat (v1.length:Int)) v1)).length:Nat):Int)) (List.drop (Int.toNat (IntKind.wrap .i64 (y2.2.1+y2.1))) (List.take (Int.toNat (v1.length:Int)) v1)))).length:Nat):Int)-y4.2.1))<y4.1)) (
           some (((List.drop (Int.toNat y2.2.1) (List.take (Int.toNat (IntKind.wrap .i64 (y2.2.1+y2.1))) v1)),(List.drop (Int.toNat y3.2.1) (List.take (Int.toNat (IntKind.wrap .i64 (y3.2.1+y3.1))) (List.drop (Int.toNat (IntKind.wrap .i64 (y2.2.1+y2.1))) (List.take (Int.toNat (v1.length:Int)) v1)))),[],[],[]),false,())) (
           cond ((((decide (0≤y4.2.1))&&(decide (y4.2.1≤(IntKind.wrap .i64 (y4.2.1+y4.1)))))&&(decide ((IntKind.wrap .i64 (y4.2.1+y4.1))≤(IntKind.wrap .i64 (y4.2.1+y4.1)))))&&(decide ((IntKind.wrap .i64 (y4.2.1+y4.1))≤(((List.drop (Int.toNat (IntKind.wrap .i64 (y3.2.1+y3.1))) (List.take (Int.toNat (((List.drop (Int.toNat (IntKind.wrap .i64 (y2.2.1+y2.1))) (List.take (Int.toNat (v1.length:Int)) v1)).length:Nat):Int)) (List.drop (Int.toNat (IntKind.wrap .i64 (y2.2.1+y2.1))) (List.take (Int.toNat (v1.length:Int)) v1)))).length:Nat):Int)))) (
            cond (((decide (0≤(IntKind.wrap .i64 (y4.2.1+y4.1))))&&(decide ((IntKind.wrap .i64 (y4.2.1+y4.1))≤(((List.drop (Int.toNat (IntKind.wrap .i64 (y3.2.1+y3.1))) (List.take (Int.toNat (((List.drop (Int.toNat (IntKind.wrap .i64 (y2.2.1+y2.1))) (List.take (Int.toNat (v1.length:Int)) v1)).length:Nat):Int)) (List.drop (Int.toNat (IntKind.wrap .i64 (y2.2.1+y2.1))) (List.take (Int.toNat (v1.length:Int)) v1)))).length:Nat):Int))))&&(decide ((((List.drop (Int.toNat (IntKind.wrap .i64 (y3.2.1+y3.1))) (List.take (Int.toNat (((List.drop (Int.toNat (IntKind.wrap .i64 (y2.2.1+y2.1))) (List.take (Int.toNat (v1.length:Int)) v1)).length:Nat):Int)) (List.drop (Int.toNat (IntKind.wrap .i64 (y2.2.1+y2.1))) (List.take (Int.toNat (v1.length:Int)) v1)))).length:Nat):Int)≤(((List.drop (Int.toNat (IntKind.wrap .i64 (y3.2.1+y3.1))) (List.take (Int.toNat (((List.drop (Int.toNat (IntKind.wrap .i64 (y2.2.1+y2.1))) (List.take (Int.toNat (v1.length:Int)) v1)).length:Nat):Int)) (List.drop (Int.toNat (IntKind.wrap .i64 (y2.2.1+y2.1))) (List.take (Int.toNat (v1.length:Int)) v1)))).length:Nat):Int)))) (
             ((f88 (List.drop (Int.toNat (IntKind.wrap .i64 (y4.2.1+y4.1))) (List.take (Int.toNat (((List.drop (Int.toNat (IntKind.wrap .i64 (y3.2.1+y3.1))) (List.take (Int.toNat (((List.drop (Int.toNat (IntKind.wrap .i64 (y2.2.1+y2.1))) (List.take (Int.toNat (v1.length:Int)) v1)).length:Nat):Int)) (List.drop (Int.toNat (IntKind.wrap .i64 (y2.2.1+y2.1))) (List.take (Int.toNat (v1.length:Int)) v1)))).length:Nat):Int)) (List.drop (Int.toNat (IntKind.wrap .i64 (y3.2.1+y3.1))) (List.take (Int.toNat (((List.drop (Int.toNat (IntKind.wrap .i64 (y2.2.1+y2.1))) (List.take (Int.toNat (v1.length:Int)) v1)).length:Nat):Int)) (List.drop (Int.toNat (IntKind.wrap .i64 (y2.2.1+y2.1))) (List.take (Int.toNat (v1.length:Int)) v1)))))) 0)).bind fun y5=>
             cond (decide (y5.2.1=(-1))) (
              some (((List.drop (Int.toNat y2.2.1) (List.take (Int.toNat (IntKind.wrap .i64 (y2.2.1+y2.1))) v1)),(List.drop (Int.toNat y3.2.1) (List.take (Int.toNat (IntKind.wrap .i64 (y3.2.1+y3.1))) (List.drop (Int.toNat (IntKind.wrap .i64 (y2.2.1+y2.1))) (List.take (Int.toNat (v1.length:Int)) v1)))),(List.drop (Int.toNat y4.2.1) (List.take (Int.toNat (IntKind.wrap .i64 (y4.2.1+y4.1))) (List.drop (Int.toNat (IntKind.wrap .i64 (y3.2.1+y3.1))) (List.take (Int.toNat (((List.drop (Int.toNat (IntKind.wrap .i64 (y2.2.1+y2.1))) (List.take (Int.toNat (v1.length:Int)) v1)).length:Nat):Int)) (List.drop (Int.toNat (IntKind.wrap .i64 (y2.2.1+y2.1))) (List.take (Int.toNat (v1.length:Int)) v1)))))),[],[]),false,())) (
              cond (decide ((IntKind.wrap .i64 ((((List.drop (Int.toNat (IntKind.wrap .i64 (y4.2.1+y4.1))) (List.take (Int.toNat (((List.drop (Int.toNat (IntKind.wrap .i64 (y3.2.1+y3.1))) (List.take (Int.toNat (((List.drop (Int.toNat (IntKind.wrap .i64 (y2.2.1+y2.1))) (List.take (Int.toNat (v1.length:Int)) v1)).length:Nat):Int)) (List.drop (Int.toNat (IntKind.wrap .i64 (y2.2.1+y2.1))) (List.take (Int.toNat (v1.length:Int)) v1)))).length:Nat):Int)) (List.drop (Int.toNat (IntKind.wrap .i64 (y3.2.1+y3.1))) (List.take (Int.toNat (((List.drop (Int.toNat (IntKind.wrap .i64 (y2.2.1+y2.1))) (List.take (Int.toNat (v1.length:Int)) v1)).length:Nat):Int)) (List.drop (Int.toNat (IntKind.wrap .i64 (y2.2.1+y2.1))) (List.take (Int.toNat (v1.length:Int)) v1)))))).length:Nat):Int)-y5.2.1))<y5.1)) (
               some (((List.drop (Int.toNat y2.2.1) (List.take (Int.toNat (IntKind.wrap .i64 (y2.2.1+y2.1))) v1)),(List.drop (Int.toNat y3.2.1) (List.take (Int.toNat (IntKind.wrap .i64 (y3.2.1+y3.1))) (List.drop (Int.toNat (IntKind.wrap .i64 (y2.2.1+y2.1))) (List.take (Int.toNat (v1.length:Int)) v1)))),(List.drop (Int.toNat y4.2.1) (List.take (Int.toNat (IntKind.wrap .i64 (y4.2.1+y4.1))) (List.drop (Int.toNat (IntKind.wrap .i64 (y3.2.1+y3.1))) (List.take (Int.toNat (((List.drop (Int.toNat (IntKind.wrap .i64 (y2.2.1+y2.1))) (List.take (Int.toNat (v1.length:Int)) v1)).length:Nat):Int)) (List.drop (Int.toNat (IntKind.wrap .i64 (y2.2.1+y2.1))) (List.take (Int.toNat (v1.length:Int)) v1)))))),[],[]),false,())) (
               cond ((((decide (0≤y5.2.1))&&(decide (y5.2.1≤(IntKind.wrap .i64 (y5.2.1+y5.1)))))&&(decide ((IntKind.wrap .i64 (y5.2.1+y5.1))≤(IntKind.wrap .i64 (y5.2.1+y5.1)))))&&(decide ((IntKind.wrap .i64 (y5.2.1+y5.1))≤(((List.drop (Int.toNat (IntKind.wrap .i64 (y4.2.1+y4.1))) (List.take (Int.toNat (((List.drop (Int.toNat (IntKind.wrap .i64 (y3.2.1+y3.1))) (List.take (Int.toNat (((List.drop (Int.toNat (IntKind.wrap .i64 (y2.2.1+y2.1))) (List.take (Int.toNat (v1.length:Int)) v1)).length:Nat):Int)) (List.drop (Int.toNat (IntKind.wrap .i64 (y2.2.1+y2.1))) (List.take (Int.toNat (v1.length:Int)) v1)))).length:Nat):Int)) (List.drop (Int.toNat (IntKind.wrap .i64 (y3.2.1+y3.1))) (List.take (Int.toNat (((List.drop (Int.toNat (IntKind.wrap .i64 (y2.2.1+y2.1))) (List.take (Int.toNat (v1.length:Int)) v1)).length:Nat):Int)) (List.drop (Int.toNat (IntKind.wrap .i64 (y2.2.1+y2.1))) (List.take (Int.toNat (v1.length:Int)) v1)))))).length:Nat):Int)))) (
                cond (((decide (0≤(IntKind.wrap .i64 (y5.2.1+y5.1))))&&(decide ((IntKind.wrap .i64 (y5.2.1+y5.1))≤(((List.drop (Int.toNat (IntKind.wrap .i64 (y4.2.1+y4.1))) (List.take (Int.toNat (((List.drop (Int.toNat (IntKind.wrap .i64 (y3.2.1+y3.1))) (List.take (Int.toNat (((List.drop (Int.toNat (IntKind.wrap .i64 (y2.2.1+y2.1))) (List.take (Int.toNat (v1.length:Int)) v1)).length:Nat):Int)) (List.drop (Int.toNat (IntKind.wrap .i64 (y2.2.1+y2.1))) (List.take (Int.toNat (v1.length:Int)) v1)))).length:Nat):Int)) (List.drop (Int.toNat (IntKind.wrap .i64 (y3.2.1+y3.1))) (List.take (Int.toNat (((List.drop (Int.toNat (IntKind.wrap .i64 (y2.2.1+y2.1))) (List.take (Int.toNat (v1.length:Int)) v1)).length:Nat):Int)) (List.drop (Int.toNat (IntKind.wrap .i64 (y2.2.1+y2.1))) (List.take (Int.toNat (v1.length:Int)) v1)))))).length:Nat):Int))))&&(decide ((((List.drop (Int.toNat (IntKind.wrap .i64 (y4.2.1+y4.1))) (List.take (Int.toNat (((List.drop (Int.toNat (IntKind.wrap .i64 (y3.2.1+y3.1))) (List.take (Int.toNat (((List.drop (Int.toNat (IntKind.wrap .i64 (y2.2.1+y2.1))) (List.take (Int.toNat (v1.length:Int)) v1)).length:Nat):Int)) (List.drop (Int.toNat (IntKind.wrap .i64 (y2.2.1+y2.1))) (List.take (Int.toNat (v1.length:Int)) v1)))).length:Nat):Int)) (List.drop (Int.toNat (IntKind.wrap .i64 (y3.2.1+y3.1))) (List.take (Int.toNat (((List.drop (Int.toNat (IntKind.wrap .i64 (y2.2.1+y2.1))) (List.take (Int.toNat (v1.length:Int)) v1)).length:Nat):Int)) (List.drop (Int.toNat (IntKind.wrap .i64 (y2.2.1+y2.1))) (List.take (Int.toNat (v1.length:Int)) v1)))))).length:Nat):Int)≤(((List.drop (Int.toNat (IntKind.wrap .i64 (y4.2.1+y4.1))) (List.take (Int.toNat (((List.drop (Int.toNat (IntKind.wrap .i64 (y3.2.1+y3.1))) (List.take (Int.toNat (((List.drop (Int.toNat (IntKind.wrap .i64 (y2.2.1+y2.1))) (List.take (Int.toNat (v1.length:Int)) v1)).length:Nat):Int)) (List.drop (Int.toNat (IntKind.wrap .i64 (y2.2.1+y2.1))) (List.take (Int.toNat (v1.length:Int)) v1)))).length:Nat):Int)) (List.drop (Int.toNat (IntKind.wrap .i64 (y3.2.1+y3.1))) (List.take (Int.toNat (((List.drop (Int.toNat (IntKind.wrap .i64 (y2.2.1+y2.1))) (List.take (Int.toNat (v1.length:Int)) v1)).length:Nat):Int)) (List.drop (Int.toNat (IntKind.wrap .i64 (y2.2.1+y2.1))) (List.take (Int.toNat (v1.length:Int)) v1)))))).length:Nat):Int)))) (
                 ((f88 (List.drop (Int.toNat (IntKind.wrap .i64 (y5.2.1+y5.1))) (List.take (Int.toNat (((List.drop (Int.toNat (IntKind.wrap .i64 (y4.2.1+y4.1))) (List.take (Int.toNat (((List.drop (Int.toNat (IntKind.wrap .i64 (y3.2.1+y3.1))) (List.take (Int.toNat (((List.drop (Int.toNat (IntKind.wrap .i64 (y2.2.1+y2.1))) (List.take (Int.toNat (v1.length:Int)) v1)).length:Nat):Int)) (List.drop (Int.toNat (IntKind.wrap .i64 (y2.2.1+y2.1))) (List.take (Int.toNat (v1.length:Int)) v1)))).length:Nat):Int)) (List.drop (Int.toNat (IntKind.wrap .i64 (y3.2.1+y3.1))) (List.take (Int.toNat (((List.drop (Int.toNat (IntKind.wrap .i64 (y2.2.1+y2.1))) (List.take (Int.toNat (v1.length:Int)) v1)).length:Nat):Int)) (List.drop (Int.toNat (IntKind.wrap .i64 (y2.2.1+y2.1))) (List.take (Int.toNat (v1.length:Int)) v1)))))).length:Nat):Int)) (List.drop (Int.toNat (IntKind.wrap .i64 (y4.2.1+y4.1))) (List.take (Int.toNat (((List.drop (Int.toNat (IntKind.wrap .i64 (y3.2.1+y3.1))) (List.take (Int.toNat (((List.drop (Int.toNat (IntKind.wrap .i64 (y2.2.1+y2.1))) (List.take (Int.toNat (v1.length:Int)) v1)).length:Nat):Int)) (List.drop (Int.toNat (IntKind.wrap .i64 (y2.2.1+y2.1))) (List.take (Int.toNat (v1.length:Int)) v1)))).length:Nat):Int)) (List.drop (Int.toNat (IntKind.wrap .i64 (y3.2.1+y3.1))) (List.take (Int.toNat (((List.drop (Int.toNat (IntKind.wrap .i64 (y2.2.1+y2.1))) (List.take (Int.toNat (v1.length:Int)) v1)).length:Nat):Int)) (List.drop (Int.toNat (IntKind.wrap .i64 (y2.2.1+y2.1))) (List.take (Int.toNat (v1.length:Int)) v1)))))))) 0)).bind fun y6=>
                 cond (decide (y6.2.1=(-1))) (
                  some (((List.drop (Int.toNat y2.2.1) (List.take (Int.toNat (IntKind.wrap .i64 (y2.2.1+y2.1))) v1)),(List.drop (Int.toNat y3.2.1) (List.take (Int.toNat (IntKind.wrap .i64 (y3.2.1+y3.1))) (List.drop (Int.toNat (IntKind.wrap .i64 (y2.2.1+y2.1))) (List.take (Int.toNat (v1.length:Int)) v1)))),(List.drop (Int.toNat y4.2.1) (List.take (Int.toNat (IntKind.wrap .i64 (y4.2.1+y4.1))) (List.drop (Int.toNat (IntKind.wrap .i64 (y3.2.1+y3.1))) (List.take (Int.toNat (((List.drop (Int.toNat (IntKind.wrap .i64 (y2.2.1+y2.1))) (List.take (Int.toNat (v1.length:Int)) v1)).length:Nat):Int)) (List.drop (Int.toNat (IntKind.wrap .i64 (y2.2.1+y2.1))) (List.take (Int.toNat (v1.length:Int)) v1)))))),(List.drop (Int.toNat y5.2.1) (List.take (Int.toNat (IntKind.wrap .i64 (y5.2.1+y5.1))) (List.drop (Int.toNat (IntKind.wrap .i64 (y4.2.1+y4.1))) (List.take (Int.toNat (((List.drop (Int.toNat (IntKind.wrap .i64 (y3.2.1+y3.1))) (List.take (Int.toNat (((List.drop (Int.toNat (IntKind.wrap .i64 (y2.2.1+y2.1))) (List.take (Int.toNat (v1.length:Int)) v1)).length:Nat):Int)) (List.drop (Int.toNat (IntKind.wrap .i64 (y2.2.1+y2.1))) (List.take (Int.toNat (v1.length:Int)) v1)))).length:Nat):Int)) (List.drop (Int.toNat (IntKind.wrap .i64 (y3.2.1+y3.1))) (List.take (Int.toNat (((List.drop (Int.toNat (IntKind.wrap .i64 (y2.2.1+y2.1))) (List.take (Int.toNat (v1.length:Int)) v1)).length:Nat):Int)) (List.drop (Int.toNat (IntKind.wrap .i64 (y2.2.1+y2.1))) (List.take (Int.toNat (v1.length:Int)) v1)))))))),[]),false,())) (
                  cond (decide ((IntKind.wrap .i64 ((((List.drop (Int.toNat (IntKind.wrap .i64 (y5.2.1+y5.1))) (List.take (Int.toNat (((List.drop (Int.toNat (IntKind.wrap .i64 (y4.2.1+y4.1))) (List.take (Int.toNat (((List.drop (Int.toNat (IntKind.wrap .i64 (y3.2.1+y3.1))) (List.take (Int.toNat (((List.drop (Int.toNat (IntKind.wrap .i64 (y2.2.1+y2.1))) (List.take (Int.toNat (v1.length:Int)) v1)).length:Nat):Int)) (List.drop (Int.toNat (IntKind.wrap .i64 (y2.2.1+y2.1))) (List.take (Int.toNat (v1.length:Int)) v1)))).length:Nat):Int)) (List.drop (Int.toNat (IntKind.wrap .i64 (y3.2.1+y3.1))) (List.take (Int.toNat (((List.drop (Int.toNat (IntKind.wrap .i64 (y2.2.1+y2.1))) (List.take (Int.toNat (v1.length:Int)) v1)).length:Nat):Int)) (List.drop (Int.toNat (IntKind.wrap .i64 (y2.2.1+y2.1))) (List.take (Int.toNat (v1.length:Int)) v1)))))).length:Nat):Int)) (List.drop (Int.toNat (IntKind.wrap .i64 (y4.2.1+y4.1))) (List.take (Int.toNat (((List.drop (Int.toNat (IntKind.wrap .i64 (y3.2.1+y3.1))) (List.take (Int.toNat (((List.drop (Int.toNat (IntKind.wrap .i64 (y2.2.1+y2.1))) (List.take (Int.toNat (v1.length:Int)) v1)).length:Nat):Int)) (List.drop (Int.toNat (IntKind.wrap .i64 (y2.2.1+y2.1))) (List.take (Int.toNat (v1.length:Int)) v1)))).length:Nat):Int)) (List.drop (Int.toNat (IntKind.wrap .i64 (y3.2.1+y3.1))) (List.take (Int.toNat (((List.drop (Int.toNat (IntKind.wrap .i64 (y2.2.1+y2.1))) (List.take (Int.toNat (v1.length:Int)) v1)).length:Nat):Int)) (List.drop (Int.toNat (IntKind.wrap .i64 (y2.2.1+y2.1))) (List.take (Int.toNat (v1.length:Int)) v1)))))))).length:Nat):Int)-y6.2.1))<y6.1)) (
                   some (((List.drop (Int.toNat y2.2.1) (List.take (Int.toNat (IntKind.wrap .i64 (y2.2.1+y2.1))) v1)),(List.drop (Int.toNat y3.2.1) (List.take (Int.toNat (IntKind.wrap .i64 (y3.2.1+y3.1))) (List.drop (Int.toNat (IntKind.wrap .i64 (y2.2.1+y2.1))) (List.take (Int.toNat (v1.length:Int)) v1)))),(List.drop (Int.toNat y4.2.1) (List.take (Int.toNat (IntKind.wrap .i64 (y4.2.1+y4.1))) (List.drop (Int.toNat (IntKind.wrap .i64 (y3.2.1+y3.1))) (List.take (Int.toNat (((List.drop (Int.toNat (IntKind.wrap .i64 (y2.2.1+y2.1))) (List.take (Int.toNat (v1.length:Int)) v1)).length:Nat):Int)) (List.drop (Int.toNat (IntKind.wrap .i64 (y2.2.1+y2.1))) (List.take (Int.toNat (v1.length:Int)) v1)))))),(List.drop (Int.toNat y5.2.1) (List.take (Int.toNat (IntKind.wrap .i64 (y5.2.1+y5.1))) (List.drop (Int.toNat (IntKind.wrap .i64 (y4.2.1+y4.1))) (List.take (Int.toNat (((List.drop (Int.toNat (IntKind.wrap .i64 (y3.2.1+y3.1))) (List.take (Int.toNat (((List.drop (Int.toNat (IntKind.wrap .i64 (y2.2.1+y2.1))) (List.take (Int.toNat (v1.length:Int)) v1)).length:Nat):Int)) (List.drop (Int.toNat (IntKind.wrap .i64 (y2.2.1+y2.1))) (List.take (Int.toNat (v1.length:Int)) v1)))).length:Nat):Int)) (List.drop (Int.toNat (IntKind.wrap .i64 (y3.2.1+y3.1))) (List.take (Int.toNat (((List.drop (Int.toNat (IntKind.wrap .i64 (y2.2.1+y2.1))) (List.take (Int.toNat (v1.length:Int)) v1)).length:Nat):Int)) (List.drop (Int.toNat (IntKind.wrap .i64 (y2.2.1+y2.1))) (List.take (Int.toNat (v1.length:Int)) v1)))))))),[]),false,())) (
                   cond ((((decide (0≤y6.2.1))&&(decide (y6.2.1≤(IntKind.wrap .i64 (y6.2.1+y6.1)))))&&(decide ((IntKind.wrap .i64 (y6.2.1+y6.1))≤(IntKind.wrap .i64 (y6.2.1+y6.1)))))&&(decide ((IntKind.wrap .i64 (y6.2.1+y6.1))≤(((List.drop (Int.toNat (IntKind.wrap .i64 (y5.2.1+y5.1))) (List.take (Int.toNat (((List.drop (Int.toNat (IntKind.wrap .i64 (y4.2.1+y4.1))) (List.take (Int.toNat (((List.drop (Int.toNat (IntKind.wrap .i64 (y3.2.1+y3.1))) (List.take (Int.toNat (((List.drop (Int.toNat (IntKind.wrap .i64 (y2.2.1+y2.1))) (List.take (Int.toNat (v1.length:Int)) v1)).length:Nat):Int)) (List.drop (Int.toNat (IntKind.wrap .i64 (y2.2.1+y2.1))) (List.take (Int.toNat (v1.length:Int)) v1)))).length:Nat):Int)) (List.drop (Int.toNat (IntKind.wrap .i64 (y3.2.1+y3.1))) (List.take (Int.toNat (((List.drop (Int.toNat (IntKind.wrap .i64 (y2.2.1+y2.1))) (List.take (Int.toNat (v1.length:Int)) v1)).length:Nat):Int)) (List.drop (Int.toNat (IntKind.wrap .i64 (y2.2.1+y2.1))) (List.take (Int.toNat (v1.length:Int)) v1)))))).length:Nat):Int)) (List.drop (Int.toNat (IntKind.wrap .i64 (y4.2.1+y4.1))) (List.take (Int.toNat (((List.drop (Int.toNat (IntKind.wrap .i64 (y3.2.1+y3.1))) (List.take (Int.toNat (((List.drop (Int.toNat (IntKind.wrap .i64 (y2.2.1+y2.1))) (List.take (Int.toNat (v1.length:Int)) v1)).length:Nat):Int)) (List.drop (Int.toNat (IntKind.wrap .i64 (y2.2.1+y2.1))) (List.take (Int.toNat (v1.length:Int)) v1)))).length:Nat):Int)) (List.drop (Int.toNat (IntKind.wrap .i64 (y3.2.1+y3.1))) (List.take (Int.toNat (((List.drop (Int.toNat (IntKind.wrap .i64 (y2.2.1+y2.1))) (List.take (Int.toNat (v1.length:Int)) v1)).length:Nat):Int)) (List.drop (Int.toNat (IntKind.wrap .i64 (y2.2.1+y2.1))) (List.take (Int.toNat (v1.length:Int)) v1)))))))).length:Nat):Int)))) (
                    cond (((decide (0≤(IntKind.wrap .i64 (y6.2.1+y6.1))))&&(decide ((IntKind.wrap .i64 (y6.2.1+y6.1))≤(((List.drop (Int.toNat (IntKind.wrap .i64 (y5.2.1+y5.1))) (List.take (Int.toNat (((List.drop (Int.toNat (IntKind.wrap .i64 (y4.2.1+y4.1))) (List.take (Int.toNat (((List.drop (Int.toNat (IntKind.wrap .i64 (y3.2.1+y3.1))) (List.take (Int.toNat (((List.drop (Int.toNat (IntKind.wrap .i64 (y2.2.1+y2.1))) (List.take (Int.toNat (v1.length:Int)) v1)).length:Nat):Int)) (List.drop (Int.toNat (IntKind.wrap .i64 (y2.2.1+y2.1))) (List.take (Int.toNat (v1.length:Int)) v1)))).length:Nat):Int)) (List.drop (Int.toNat (IntKind.wrap .i64 (y3.2.1+y3.1))) (List.take (Int.toNat (((List.drop (Int.toNat (IntKind.wrap .i64 (y2.2.1+y2.1))) (List.take (Int.toNat (v1.length:Int)) v1)).length:Nat):Int)) (List.drop (Int.toNat (IntKind.wrap .i64 (y2.2.1+y2.1))) (List.take (Int.toNat (v1.length:Int)) v1)))))).length:Nat):Int)) (List.drop (Int.toNat (IntKind.wrap .i64 (y4.2.1+y4.1))) (List.take (Int.toNat (((List.drop (Int.toNat (IntKind.wrap .i64 (y3.2.1+y3.1))) (List.take (Int.toNat (((List.drop (Int.toNat (IntKind.wrap .i64 (y2.2.1+y2.1))) (List.take (Int.toNat (v1.length:Int)) v1)).length:Nat):Int)) (List.drop (Int.toNat (IntKind.wrap .i64 (y2.2.1+y2.1))) (List.take (Int.toNat (v1.length:Int)) v1)))).length:Nat):Int)) (List.drop (Int.toNat (IntKind.wrap .i64 (y3.2.1+y3.1))) (List.take (Int.toNat (((List.drop (Int.toNat (IntKind.wrap .i64 (y2.2.1+y2.1))) (List.take (Int.toNat (v1.length:Int)) v1)).length:Nat):Int)) (List.drop (Int.toNat (IntKind.wrap .i64 (y2.2.1+y2.1))) (List.take (Int.toNat (v1.length:Int)) v1)))))))).length:Nat):Int))))&&(decide ((((List.drop (Int.toNat (IntKind.wrap .i64 (y5.2.1+y5.1))) (List.take (Int.toNat (((List.drop (Int.toNat (IntKind.wrap .i64 (y4.2.1+y4.1))) (List.take (Int.toNat (((List.drop (Int.toNat (IntKind.wrap .i64 (y3.2.1+y3.1))) (List.take (Int.toNat (((List.drop (Int.toNat (IntKind.wrap .i64 (y2.2.1+y2.1))) (List.take (Int.toNat (v1.length:Int)) v1)).length:Nat):Int)) (List.drop (Int.toNat (IntKind.wrap .i64 (y2.2.1+y2.1))) (List.take (Int.toNat (v1.length:Int)) v1)))).length:Nat):Int)) (List.drop (Int.toNat (IntKind.wrap .i64 (y3.2.1+y3.1))) (List.take (Int.toNat (((List.drop (Int.toNat (IntKind.wrap .i64 (y2.2.1+y2.1))) (List.take (Int.toNat (v1.length:Int)) v1)).length:Nat):Int)) (List.drop (Int.toNat (IntKind.wrap .i64 (y2.2.1+y2.1))) (List.take (Int.toNat (v1.length:Int)) v1)))))).length:Nat):Int)) (List.drop (Int.toNat (IntKind.wrap .i64 (y4.2.1+y4.1))) (List.take (Int.toNat (((List.drop (Int.toNat (IntKind.wrap .i64 (y3.2.1+y3.1))) (List.take (Int.toNat (((List.drop (Int.toNat (IntKind.wrap .i64 (y2.2.1+y2.1))) (List.take (Int.toNat (v1.length:Int)) v1)).length:Nat):Int)) (List.drop (Int.toNat (IntKind.wrap .i64 (y2.2.1+y2.1))) (List.take (Int.toNat (v1.length:Int)) v1)))).length:Nat):Int)) (List.drop (Int.toNat (IntKind.wrap .i64 (y3.2.1+y3.1))) (List.take (Int.toNat (((List.drop (Int.toNat (IntKind.wrap .i64 (y2.2.1+y2.1))) (List.take (Int.toNat (v1.length:Int)) v1)).length:Nat):Int)) (List.drop (Int.toNat (IntKind.wrap .i64 (y2.2.1+y2.1))) (List.take (Int.toNat (v1.length:Int)) v1)))))))).length:Nat):Int)≤(((List.drop (Int.toNat (IntKind.wrap .i64 (y5.2.1+y5.1))) (List.take (Int.toNat (((List.drop (Int.toNat (IntKind.wrap .i64 (y4.2.1+y4.1))) (List.take (Int.toNat (((List.drop (Int.toNat (IntKind.wrap .i64 (y3.2.1+y3.1))) (List.take (Int.toNat (((List.drop (Int.toNat (IntKind.wrap .i64 (y2.2.1+y2.1))) (List.take (Int.toNat (v1.length:Int)) v1)).length:Nat):Int)) (List.drop (Int.toNat (IntKind.wrap .i64 (y2.2.1+y2.1))) (List.take (Int.toNat (v1.length:Int)) v1)))).length:Nat):Int)) (List.drop (Int.toNat (IntKind.wrap .i64 (y3.2.1+y3.1))) (List.take (Int.toNat (((List.drop (Int.toNat (IntKind.wrap .i64 (y2.2.1+y2.1))) (List.take (Int.toNat (v1.length:Int)) v1)).length:Nat):Int)) (List.drop (Int.toNat (IntKind.wrap .i64 (y2.2.1+y2.1))) (List.take (Int.toNat (v1.length:Int)) v1)))))).length:Nat):Int)) (List.drop (Int.toNat (IntKind.wrap .i64 (y4.2.1+y4.1))) (List.take (Int.toNat (((List.drop (Int.toNat (IntKind.wrap .i64 (y3.2.1+y3.1))) (List.take (Int.toNat (((List.drop (Int.toNat (IntKind.wrap .i64 (y2.2.1+y2.1))) (List.take (Int.toNat (v1.length:Int)) v1)).length:Nat):Int)) (List.drop (Int.toNat (IntKind.wrap .i64 (y2.2.1+y2.1))) (List.take (Int.toNat (v1.length:Int)) v1)))).length:Nat):Int)) (List.drop (Int.toNat (IntKind.wrap .i64 (y3.2.1+y3.1))) (List.take (Int.toNat (((List.drop (Int.toNat (IntKind.wrap .i64 (y2.2.1+y2.1))) (List.take (Int.toNat (v1.length:Int)) v1)).length:Nat):Int)) (List.drop (Int.toNat (IntKind.wrap .i64 (y2.2.1+y2.1))) (List.take (Int.toNat (v1.length:Int)) v1)))))))).length:Nat):Int)))) (
                     some (((List.drop (Int.toNat y2.2.1) (List.take (Int.toNat (IntKind.wrap .i64 (y2.2.1+y2.1))) v1)),(List.drop (Int.toNat y3.2.1) (List.take (Int.toNat (IntKind.wrap .i64 (y3.2.1+y3.1))) (List.drop (Int.toNat (IntKind.wrap .i64 (y2.2.1+y2.1))) (List.take (Int.toNat (v1.length:Int)) v1)))),(List.drop (Int.toNat y4.2.1) (List.take (Int.toNat (IntKind.wrap .i64 (y4.2.1+y4.1))) (List.drop (Int.toNat (IntKind.wrap .i64 (y3.2.1+y3.1))) (List.take (Int.toNat (((List.drop (Int.toNat (IntKind.wrap .i64 (y2.2.1+y2.1))) (List.take (Int.toNat (v1.length:Int)) v1)).length:Nat):Int)) (List.drop (Int.toNat (IntKind.wrap .i64 (y2.2.1+y2.1))) (List.take (Int.toNat (v1.length:Int)) v1)))))),(List.drop (Int.toNat y5.2.1) (List.take (Int.toNat (IntKind.wrap .i64 (y5.2.1+y5.1))) (List.drop (Int.toNat (IntKind.wrap .i64 (y4.2.1+y4.1))) (List.take (Int.toNat (((List.drop (Int.toNat (IntKind.wrap .i64 (y3.2.1+y3.1))) (List.take (Int.toNat (((List.drop (Int.toNat (IntKind.wrap .i64 (y2.2.1+y2.1))) (List.take (Int.toNat (v1.length:Int)) v1)).length:Nat):Int)) (List.drop (Int.toNat (IntKind.wrap .i64 (y2.2.1+y2.1))) (List.take (Int.toNat (v1.length:Int)) v1)))).length:Nat):Int)) (List.drop (Int.toNat (IntKind.wrap .i64 (y3.2.1+y3.1))) (List.take (Int.toNat (((List.drop (Int.toNat (IntKind.wrap .i64 (y2.2.1+y2.1))) (List.take (Int.toNat (v1.length:Int)) v1)).length:Nat):Int)) (List.drop (Int.toNat (IntKind.wrap .i64 (y2.2.1+y2.1))) (List.take (Int.toNat (v1.length:Int)) v1)))))))),(List.drop (Int.toNat y6.2.1) (List.take (Int.toNat (IntKind.wrap .i64 (y6.2.1+y6.1))) (List.drop (Int.toNat (IntKind.wrap .i64 (y5.2.1+y5.1))) (List.take (Int.toNat (((List.drop (Int.toNat (IntKind.wrap .i64 (y4.2.1+y4.1))) (List.take (Int.toNat (((List.drop (Int.toNat (IntKind.wrap .i64 (y3.2.1+y3.1))) (List.take (Int.toNat (((List.drop (Int.toNat (IntKind.wrap .i64 (y2.2.1+y2.1))) (List.take (Int.toNat (v1.length:Int)) v1)).length:Nat):Int)) (List.drop (Int.toNat (IntKind.wrap .i64 (y2.2.1+y2.1))) (List.take (Int.toNat (v1.length:Int)) v1)))).length:Nat):Int)) (List.drop (Int.toNat (IntKind.wrap .i64 (y3.2.1+y3.1))) (List.take (Int.toNat (((List.drop (Int.toNat (IntKind.wrap .i64 (y2.2.1+y2.1))) (List.take (Int.toNat (v1.length:Int)) v1)).length:Nat):Int)) (List.drop (Int.toNat (IntKind.wrap .i64 (y2.2.1+y2.1))) (List.take (Int.toNat (v1.length:Int)) v1)))))).length:Nat):Int)) (List.drop (Int.toNat (IntKind.wrap .i64 (y4.2.1+y4.1))) (List.take (Int.toNat (((List.drop (Int.toNat (IntKind.wrap .i64 (y3.2.1+y3.1))) (List.take (Int.toNat (((List.drop (Int.toNat (IntKind.wrap .i64 (y2.2.1+y2.1))) (List.take (Int.toNat (v1.length:Int)) v1)).length:Nat):Int)) (List.drop (Int.toNat (IntKind.wrap .i64 (y2.2.1+y2.1))) (List.take (Int.toNat (v1.length:Int)) v1)))).length:Nat):Int)) (List.drop (Int.toNat (IntKind.wrap .i64 (y3.2.1+y3.1))) (List.take (Int.toNat (((List.drop (Int.toNat (IntKind.wrap .i64 (y2.2.1+y2.1))) (List.take (Int.toNat (v1.length:Int)) v1)).length:Nat):Int)) (List.drop (Int.toNat (IntKind.wrap .i64 (y2.2.1+y2.1))) (List.take (Int.toNat (v1.length:Int)) v1))))))))))),(decide ((((List.drop (Int.toNat (IntKind.wrap .i64 (y6.2.1+y6.1))) (List.take (Int.toNat (((List.drop (Int.toNat (IntKind.wrap .i64 (y5.2.1+y5.1))) (List.take (Int.toNat (((List.drop (Int.toNat (IntKind.wrap .i64 (y4.2.1+y4.1))) (List.take (Int.toNat (((List.drop (Int.toNat (IntKind.wrap .i64 (y3.2.1+y3.1))) (List.take (Int.toNat (((List.drop (Int.toNat (IntKind.wrap .i64 (y2.2.1+y2.1))) (List.take (Int.toNat (v1.length:Int)) v1)).length:Nat):Int)) (List.drop (Int.toNat (IntKind.wrap .i64 (y2.2.1+y2.1))) (List.take (Int.toNat (v1.length:Int)) v1)))).length:Nat):Int)) (List.drop (Int.toNat (IntKind.wrap .i64 (y3.2.1+y3.1))) (List.take (Int.toNat (((List.drop (Int.toNat (IntKind.wrap .i64 (y2.2.1+y2.1))) (List.take (Int.toNat (v1.length:Int)) v1)).length:Nat):Int)) (List.drop (Int.toNat (IntKind.wrap .i64 (y2.2.1+y2.1))) (List.take (Int.toNat (v1.length:Int)) v1)))))).length:Nat):Int)) (List.drop (Int.toNat (IntKind.wrap .i64 (y4.2.1+y4.1))) (List.take (Int.toNat (((List.drop (Int.toNat (IntKind.wrap .i64 (y3.2.1+y3.1))) (List.take (Int.toNat (((List.drop (Int.toNat (IntKind.wrap .i64 (y2.2.1+y2.1))) (List.take (Int.toNat (v1.length:Int)) v1)).length:Nat):Int)) (List.drop (Int.toNat (IntKind.wrap .i64 (y2.2.1+y2.1))) (List.take (Int.toNat (v1.length:Int)) v1)))).length:Nat):Int)) (List.drop (Int.toNat (IntKind.wrap .i64 (y3.2.1+y3.1))) (List.take (Int.toNat (((List.drop (Int.toNat (IntKind.wrap .i64 (y2.2.1+y2.1))) (List.take (Int.toNat (v1.length:Int)) v1)).length:Nat):Int)) (List.drop (Int.toNat (IntKind.wrap .i64 (y2.2.1+y2.1))) (List.take (Int.toNat (v1.length:Int)) v1)))))))).length:Nat):Int)) (List.drop (Int.toNat (IntKind.wrap .i64 (y5.2.1+y5.1))) (List.take (Int.toNat (((List.drop (Int.toNat (IntKind.wrap .i64 (y4.2.1+y4.1))) (List.take (Int.toNat (((List.drop (Int.toNat (IntKind.wrap .i64 (y3.2.1+y3.1))) (List.take (Int.toNat (((List.drop (Int.toNat (IntKind.wrap .i64 (y2.2.1+y2.1))) (List.take (Int.toNat (v1.length:Int)) v1)).length:Nat):Int)) (List.drop (Int.toNat (IntKind.wrap .i64 (y2.2.1+y2.1))) (List.take (Int.toNat (v1.length:Int)) v1)))).length:Nat):Int)) (List.drop (Int.toNat (IntKind.wrap .i64 (y3.2.1+y3.1))) (List.take (Int.toNat (((List.drop (Int.toNat (IntKind.wrap .i64 (y2.2.1+y2.1))) (List.take (Int.toNat (v1.length:Int)) v1)).length:Nat):Int)) (List.drop (Int.toNat (IntKind.wrap .i64 (y2.2.1+y2.1))) (List.take (Int.toNat (v1.length:Int)) v1)))))).length:Nat):Int)) (List.drop (Int.toNat (IntKind.wrap .i64 (y4.2.1+y4.1))) (List.take (Int.toNat (((List.drop (Int.toNat (IntKind.wrap .i64 (y3.2.1+y3.1))) (List.take (Int.toNat (((List.drop (Int.toNat (IntKind.wrap .i64 (y2.2.1+y2.1))) (List.take (Int.toNat (v1.length:Int)) v1)).length:Nat):Int)) (List.drop (Int.toNat (IntKind.wrap .i64 (y2.2.1+y2.1))) (List.take (Int.toNat (v1.length:Int)) v1)))).length:Nat):Int)) (List.drop (Int.toNat (IntKind.wrap .i64 (y3.2.1+y3.1))) (List.take (Int.toNat (((List.drop (Int.toNat (IntKind.wrap .i64 (y2.2.1+y2.1))) (List.take (Int.toNat (v1.length:Int)) v1)).length:Nat):Int)) (List.drop (Int.toNat (IntKind.wrap .i64 (y2.2.1+y2.1))) (List.take (Int.toNat (v1.length:Int)) v1)))))))))).length:Nat):Int)=0)),())) (
                     none)) (
                    none)))) (
                 none)) (
                none)))) (
             none)) (
            none)))) (
         none)) (
        none)))) (
     none)) (
    none)))
abbrev iG:Type:=(Unit×Unit×Int×Unit)×U8×aT×Unit
abbrev mL:Type:=(Unit)×U8×aT×Unit
abbrev mE:Type:=(Unit)×U8×aT×Unit
noncomputable def dX (v1:Int)(v2:Bool)(v3 v4:aT):Option (R3 iG mL mE):=
 cond (decide (v1<(v3.length:Int))) (
  ((f88 v3 v1)).bind fun y5=>
  cond (decide (y5.2.1=(-1))) (
   some (R3.ret ((),(((),()),(false,()),(v3,()),((),(),(),(),(),(),(),(),(),(),(),(),(),(),(),(),(),(),(),(),(),(),(),(),(),(),()),()),v4,()))) (
   cond (decide ((v4.length:Int)=400)) (
    some (R3.ret ((),(((),()),(false,()),(v3,()),((),(),(),(),(),(),(),(),(),(),(),(),(),(),(),(),(),(),(),(),(),(),(),(),(),(),()),()),v4,()))) (
    cond ((decide (((v4.length+1) * 8)≤140737488355328))&&(decide ((v4.length+1)≤9223372036854775807))) (
     cond (decide (y5.2.1=(-1))) (
      none) (
      some (R3.next (((),(),y5.2.1,()),(((),()),(v2,()),(v3,()),((),(),(),(),(),(),(),(),(),(),(),(),(),(),(),(),(),(),(),(),(),(),(),(),(),(),()),()),(v4++[y5.1]),())))) (
     none)))) (
  some (R3.out ((),(((),()),(v2,()),(v3,()),((),(),(),(),(),(),(),(),(),(),(),(),(),(),(),(),(),(),(),(),(),(),(),(),(),(),()),()),v4,())))
noncomputable def bL (z:iG):Option (R3 iG mL mE):=dX z.1.2.2.1 z.2.1.2.1.1 z.2.1.2.2.1.1 z.2.2.1
noncomputable def f91 (v1:aT):Option wo:=
 ((iter aA bL (((),(),0,()),(((),()),(true,()),(v1,()),((),(),(),(),(),(),(),(),(),(),(),(),(),(),(),(),(),(),(),(),(),(),(),(),(),(),()),()),[],()))).bind fun r=>match r with
 | .inl y2=>
   cond (!y2.2.1.2.1.1) (
    some ([],false,())) (
    some (y2.2.2.1,true,()))
 | .inr z3=>
   cond (!z3.2.1.2.1.1) (
    some ([],false,())) (
    some (z3.2.2.1,true,()))
noncomputable def f133 (v1 v2:Int):Option bx:=
 cond (decide (v1<0)) (
  some ((-1),())) (
  cond (decide (400<v1)) (
   some ((-1),())) (
   cond (decide (v2<0)) (
    some ((-1),())) (
    cond (decide (32<v2)) (
     some ((-1),())) (
     some ((IntKind.wrap .i64 (Int.tdiv (IntKind.wrap .i64 ((IntKind.wrap .i64 ((IntKind.wrap .i64 (v1 * v2))+8))-1)) 8)),())))))
abbrev Oq:Type:=Vq×(Unit)×aT×Unit
abbrev MH:Type:=Vq×(Unit)×aT×Unit
abbrev Sd:Type:=Vq×(Unit)×aT×Unit
abbrev Si:Type:=Unit×Unit×Unit
noncomputable def NT (v1:aT)(v2 v3 v4 v5 v6:Int)(v7:aT):Option (R3 MH Sd Si):=
 cond (decide (v4<v2)) (
  cond (decide (0<(v1.length:Int))) (
   cond (!(decide (v4<0))) (
    cond ((decide (1≤(v1.length:Int)))&&(decide ((v1.length:Int)≤(v1.length:Int)))) (
     some (R3.next (((List.drop 1 (List.take (Int.toNat (v1.length:Int)) v1)),v2,(aG .or .u64 v3 (IntKind.wrap .u64 ((IntKind.wrap .u64 (rd wM v1 0)) * ((2:Int) ^ ((min (Int.toNat v4) 64):Nat))))),(IntKind.wrap .i64 (v4+8)),v5,v6,()),(),v7,()))) (
     none)) (
    none)) (
   none)) (
  cond (!(decide (v2<0))) (
   cond ((decide (((v7.length+1) * 8)≤140737488355328))&&(decide ((v7.length+1)≤9223372036854775807))) (
    cond (!(decide (v2<0))) (
     some (R3.out ((v1,v2,(Int.fdiv v3 ((2:Int) ^ ((min (Int.toNat v2) 64):Nat))),(IntKind.wrap .i64 (v4-v2)),v5,v6,()),(),(v7++[(IntKind.wrap .i64 (aG .and .u64 v3 (IntKind.wrap .u64 ((IntKind.wrap .u64 (1 * ((2:Int) ^ ((min (Int.toNat v2) 64):Nat))))-1))))]),()))) (
     none)) (
    none)) (
   none))
noncomputable def DD (z:MH):Option (R3 MH Sd Si):=NT z.1.1 z.1.2.1 z.1.2.2.1 z.1.2.2.2.1 z.1.2.2.2.2.1 z.1.2.2.2.2.2.1 z.2.2.1
abbrev R9:Type:=bx×(Unit)×aT×Unit
abbrev SC:Type:=Unit×Unit×Unit
noncomputable def LA (v1:aT)(v2 v3 v4 v5 v6:Int)(v7:aT):Option (R3 Oq R9 SC):=
 cond (decide (v6<v5)) (
  ((iter aA DD ((v1,v2,v3,v4,v5,v6,()),(),v7,()))).bind fun r=>match r with
  | .inl y8=>
    some (R3.next ((y8.1.1,y8.1.2.1,y8.1.2.2.1,y8.1.2.2.2.1,y8.1.2.2.2.2.1,(IntKind.wrap .i64 (y8.1.2.2.2.2.2.1+1)),()),(),y8.2.2.1,()))
  | .inr z9=>
    some (R3.ret ((),(),()))) (
  some (R3.out ((v3,()),(),v7,())))
noncomputable def xN (z:Oq):Option (R3 Oq R9 SC):=LA z.1.1 z.1.2.1 z.1.2.2.1 z.1.2.2.2.1 z.1.2.2.2.2.1 z.1.2.2.2.2.2.1 z.2.2.1
noncomputable def f93 (v1:aT)(v2 v3:Int):Option wo:=
 ((f133 v2 v3)).bind fun y4=>
 cond (!(decide (y4.1=(v1.length:Int)))) (
  some ([],false,())) (
  ((iter aA xN ((v1,v3,0,0,v2,0,()),(),[],()))).bind fun r=>match r with
  | .inl y5=>
    cond (!(decide (y5.1.1=0))) (
     some ([],false,())) (
     some (y5.2.2.1,true,()))
  | .inr z6=>
    none)
noncomputable def f135 (v1:Int):Option bx:=
 cond (decide (v1<0)) (
  some (0,())) (
  cond (decide (549755813888<v1)) (
   some (0,())) (
   some ((aG .xor .i64 (Int.fdiv v1 2) (IntKind.wrap .i64 (0-(aG .and .i64 v1 1)))),())))
noncomputable def f136 (v1:Int):Option bq:=
 cond (decide (0≤v1)) (
  some ((decide (v1<274877906944)),())) (
  some (false,()))
abbrev Nh:Type:=(aT×Unit×Unit×Int×Int×Unit)×ow×aT×Unit
abbrev TN:Type:=(Unit)×(Unit)×aT×Unit
abbrev SV:Type:=bq×(Unit)×aT×Unit
noncomputable def G1 (v1:aT)(v2 v3 v4:Int)(v5:aT):Option (R3 Nh TN SV):=
 cond (decide (v3<v2)) (
  cond ((decide (0≤v3))&&(decide (v3<(v1.length:Int)))) (
   ((f135 (rd aW v1 (Int.toNat v3)))).bind fun y6=>
   cond (decide ((rd aW v1 (Int.toNat v3))≤549755813888)) (
    ((f136 (IntKind.wrap .i64 (v4+y6.1)))).bind fun y7=>
    cond (!y7.1) (
     some (R3.ret ((false,()),(),[],()))) (
     cond ((decide (((v5.length+1) * 8)≤140737488355328))&&(decide ((v5.length+1)≤9223372036854775807))) (
      some (R3.next ((v1,(),(),v2,(IntKind.wrap .i64 (v3+1)),()),(((IntKind.wrap .i64 (v4+y6.1)),()),()),(v5++[(IntKind.wrap .i64 (v4+y6.1))]),()))) (
      none))) (
    some (R3.ret ((false,()),(),[],())))) (
   none)) (
  some (R3.out ((),(),v5,())))
noncomputable def qz (z:Nh):Option (R3 Nh TN SV):=G1 z.1.1 z.1.2.2.2.1 z.1.2.2.2.2.1 z.2.1.1.1 z.2.2.1
noncomputable def f94 (v1:aT):Option wo:=
 ((f91 v1)).bind fun y2=>
 cond (!y2.2.1) (
  some ([],false,())) (
  ((iter aA qz ((y2.1,(),(),(y2.1.length:Int),0,()),((0,()),()),[],()))).bind fun r=>match r with
  | .inl y3=>
    some (y3.2.2.1,true,())
  | .inr z4=>
    some (z4.2.2.1,z4.1.1,()))
abbrev mC:Type:=(Unit×Unit×Unit×Int×Unit)×DT4×aP×bT×aP×aP×bT×aP×Unit
abbrev sF:Type:=(Unit)×DT4×aP×bT×aP×aP×bT×aP×Unit
abbrev sj:Type:=Unit×(Unit×Unit×Unit×Unit×Unit×Unit×Unit)×Unit
noncomputable def lY (v1 v2 v3 v4 v5 v6 v7 v8 v9 v10 v11 v12:Int)(v13:Bool)(v14:Int)(v15 v16 v17 v18 v19:aT)(v20 v21 v22 v23 v24 v25 v26 v27 v28 v29 v30:Int)(v31:Bool)(v32:Int)(v33:aT)(v34:Int)(v35:aP)(v36:bT)(v37 v38:aP)(v39:bT)(v40:aP):Option (R3 mC sF sj):=
 cond (decide (v1<(v33.length:Int))) (
  cond (((decide (0≤v1))&&(decide (v1≤(v33.length:Int))))&&(decide ((v33.length:Int)≤(v33.length:Int)))) (
   cond ((((decide (0≤v1))&&(decide (v1≤(IntKind.wrap .i64 (v1+(sS v34 (((List.drop (Int.toNat v1) (List.take (Int.toNat (v33.length:Int)) v33)).length:Nat):Int)))))))&&(decide ((IntKind.wrap .i64 (v1+(sS v34 (((List.drop (Int.toNat v1) (List.take (Int.toNat (v33.length:Int)) v33)).length:Nat):Int))))≤(IntKind.wrap .i64 (v1+(sS v34 (((List.drop (Int.toNat v1) (List.take (Int.toNat (v33.length:Int)) v33)).length:Nat):Int)))))))&&(decide ((IntKind.wrap .i64 (v1+(sS v34 (((List.drop (Int.toNat v1) (List.take (Int.toNat (v33.length:Int)) v33)).length:Nat):Int))))≤(v33.length:Int)))) (
    cond (decide (0<(((List.drop (Int.toNat v1) (List.take (Int.toNat (IntKind.wrap .i64 (v1+(sS v34 (((List.drop (Int.toNat v1) (List.take (Int.toNat (v33.length:Int)) v33)).length:Nat):Int))))) v33)).length:Nat):Int))) (
     cond (decide (1<(((List.drop (Int.toNat v1) (List.take (Int.toNat (IntKind.wrap .i64 (v1+(sS v34 (((List.drop (Int.toNat v1) (List.take (Int.toNat (v33.length:Int)) v33)).length:Nat):Int))))) v33)).length:Nat):Int))) (
      cond (decide (2<(((List.drop (Int.toNat v1) (List.take (Int.toNat (IntKind.wrap .i64 (v1+(sS v34 (((List.drop (Int.toNat v1) (List.take (Int.toNat (v33.length:Int)) v33)).length:Nat):Int))))) v33)).length:Nat):Int))) (
       cond ((decide (((v38.length+1) * 24)≤140737488355328))&&(decide ((v38.length+1)≤9223372036854775807))) (
        some (R3.next (((),(),(),(IntKind.wrap .i64 (v1+v34)),()),((v2,v3,v4,v5,v6,v7,v8,v9,v10,v11,v12,v13,v14,(),(),(),()),(v15,v16,v17,v18,v19,()),(v20,v21,v22,v23,v24,v25,v26,v27,v28,v29,v30,v31,v32,(),(),(),()),(v33,()),(v34,()),((),(),(),(),(),(),(),(),(),(),(),(),(),(),(),(),(),(),(),(),(),(),(),(),(),(),(),(),(),(),(),(),(),(),(),(),(),(),(),(),(),(),(),(),(),(),(),(),(),(),(),(),(),(),(),(),(),(),(),(),(),(),(),(),(),(),(),(),(),(),(),(),(),(),(),(),(),(),(),(),(),(),(),(),(),(),(),(),(),(),(),(),(),(),(),(),(),(),(),(),(),(),(),(),(),(),(),(),(),(),(),(),(),(),(),(),(),(),(),(),(),(),(),(),(),(),(),(),(),(),(),(),(),(),(),(),(),(),(),(),(),(),(),(),(),(),(),(),(),(),(),(),(),(),(),(),(),(),(),(),(),(),(),(),(),(),(),(),(),(),(),(),(),(),(),(),(),(),(),(),(),(),(),(),(),(),(),(),(),(),(),(),(),(),(),(),(),(),(),(),(),(),(),(),(),(),(),(),(),(),(),(),(),(),(),(),(),(),(),(),(),(),(),(),(),(),(),(),(),(),(),(),(),(),(),(),(),()),()),v35,v36,v37,(v38++[((rd aW (List.drop (Int.toNat v1) (List.take (Int.toNat (IntKind.wrap .i64 (v1+(sS v34 (((List.drop (Int.toNat v1) (List.take (Int.toNat (v33.length:Int)) v33)).length:Nat):Int))))) v33)) 0),(rd aW (List.drop (Int.toNat v1) (List.take (Int.toNat (IntKind.wrap .i64 (v1+(sS v34 (((List.drop (Int.toNat v1) (List.take (Int.toNat (v33.length:Int)) v33)).length:Nat):Int))))) v33)) 1),(rd aW (List.drop (Int.toNat v1) (List.take (Int.toNat (IntKind.wrap .i64 (v1+(sS v34 (((List.drop (Int.toNat v1) (List.take (Int.toNat (v33.length:Int)) v33)).length:Nat):Int))))) v33)) 2))]),v39,v40,()))) (
        none)) (
       none)) (
      none)) (
     none)) (
    none)) (
   none)) (
  some (R3.out ((),((v2,v3,v4,v5,v6,v7,v8,v9,v10,v11,v12,v13,v14,(),(),(),()),(v15,v16,v17,v18,v19,()),(v20,v21,v22,v23,v24,v25,v26,v27,v28,v29,v30,v31,v32,(),(),(),()),(v33,()),(v34,()),((),(),(),(),(),(),(),(),(),(),(),(),(),(),(),(),(),(),(),(),(),(),(),(),(),(),(),(),(),(),(),(),(),(),(),(),(),(),(),(),(),(),(),(),(),(),(),(),(),(),(),(),(),(),(),(),(),(),(),(),(),(),(),(),(),(),(),(),(),(),(),(),(),(),(),(),(),(),(),(),(),(),(),(),(),(),(),(),(),(),(),(),(),(),(),(),(),(),(),(),(),(),(),(),(),(),(),(),(),(),(),(),(),(),(),(),(),(),(),(),(),(),(),(),(),(),(),(),(),(),(),(),(),(),(),(),(),(),(),(),(),(),(),(),(),(),(),(),(),(),(),(),(),(),(),(),(),(),(),(),(),(),(),(),(),(),(),(),(),(),(),(),(),(),(),(),(),(),(),(),(),(),(),(),(),(),(),(),(),(),(),(),(),(),(),(),(),(),(),(),(),(),(),(),(),(),(),(),(),(),(),(),(),(),(),(),(),(),(),(),(),(),(),(),(),(),(),(),(),(),(),(),(),(),(),(),(),()),()),v35,v36,v37,v38,v39,v40,())))
noncomputable def de (z:mC):Option (R3 mC sF sj):=lY z.1.2.2.2.1 z.2.1.1.1 z.2.1.1.2.1 z.2.1.1.2.2.1 z.2.1.1.2.2.2.1 z.2.1.1.2.2.2.2.1 z.2.1.1.2.2.2.2.2.1 z.2.1.1.2.2.2.2.2.2.1 z.2.1.1.2.2.2.2.2.2.2.1 z.2.1.1.2.2.2.2.2.2.2.2.1 z.2.1.1.2.2.2.2.2.2.2.2.2.1 z.2.1.1.2.2.2.2.2.2.2.2.2.2.1 z.2.1.1.2.2.2.2.2.2.2.2.2.2.2.1 z.2.1.1.2.2.2.2.2.2.2.2.2.2.2.2.1 z.2.1.2.1.1 z.2.1.2.1.2.1 z.2.1.2.1.2.2.1 z.2.1.2.1.2.2.2.1 z.2.1.2.1.2.2.2.2.1 z.2.1.2.2.1.1 z.2.1.2.2.1.2.1 z.2.1.2.2.1.2.2.1 z.2.1.2.2.1.2.2.2.1 z.2.1.2.2.1.2.2.2.2.1 z.2.1.2.2.1.2.2.2.2.2.1 z.2.1.2.2.1.2.2.2.2.2.2.1 z.2.1.2.2.1.2.2.2.2.2.2.2.1 z.2.1.2.2.1.2.2.2.2.2.2.2.2.1 z.2.1.2.2.1.2.2.2.2.2.2.2.2.2.1 z.2.1.2.2.1.2.2.2.2.2.2.2.2.2.2.1 z.2.1.2.2.1.2.2.2.2.2.2.2.2.2.2.2.1 z.2.1.2.2.1.2.2.2.2.2.2.2.2.2.2.2.2.1 z.2.1.2.2.2.1.1 z.2.1.2.2.2.2.1.1 z.2.2.1 z.2.2.2.1 z.2.2.2.2.1 z.2.2.2.2.2.1 z.2.2.2.2.2.2.1 z.2.2.2.2.2.2.2.1
abbrev Eu:Type:=(Unit×Unit×aT×aT×aT×aT×Int×Int×Unit)×JS×aP×bT×aP×aP×bT×aP×Unit
abbrev Mg:Type:=(Unit×Unit×aT×aT×Unit)×JS×aP×bT×aP×aP×bT×aP×Unit
abbrev Ob:Type:=Unit×Unit×Unit
noncomputable def E3 (v1 v2 v3 v4:aT)(v5 v6 v7 v8 v9 v10 v11 v12 v13 v14 v15 v16 v17:Int)(v18:Bool)(v19 v20 v21 v22 v23 v24 v25 v26 v27 v28 v29 v30:Int)(v31:Bool)(v32:Int)(v33:aP)(v34:bT)(v35 v36:aP)(v37:bT)(v38:aP):Option (R3 Eu Mg Ob):=
 cond (decide (v6<v5)) (
  cond ((decide (0≤v6))&&(decide (v6<(v4.length:Int)))) (
   cond ((decide (0≤v6))&&(decide (v6<(v1.length:Int)))) (
    cond ((decide (((v37.length+1) * 40)≤140737488355328))&&(decide ((v37.length+1)≤9223372036854775807))) (
     some (R3.next (((),(),v1,v2,v3,v4,v5,(IntKind.wrap .i64 (v6+1)),()),((v7,v8,v9,v10,v11,v12,v13,v14,v15,v16,v17,v18,v19,(),(),(),()),(v20,v21,v22,v23,v24,v25,v26,v27,v28,v29,v30,v31,v32,(),(),(),()),()),v33,v34,v35,v36,(v37++[((Int.fdiv (rd aW v4 (Int.toNat v6)) 32),(IntKind.wrap .i64 (Int.tdiv (aG .and .i64 (rd aW v4 (Int.toNat v6)) 31) 8)),(Int.tmod (aG .and .i64 (rd aW v4 (Int.toNat v6)) 31) 8),(rd aW v1 (Int.toNat v6)),v32)]),v38,()))) (
     none)) (
    none)) (
   none)) (
  some (R3.out (((),(),v2,v3,()),((v7,v8,v9,v10,v11,v12,v13,v14,v15,v16,v17,v18,v19,(),(),(),()),(v20,v21,v22,v23,v24,v25,v26,v27,v28,v29,v30,v31,v32,(),(),(),()),()),v33,v34,v35,v36,v37,v38,())))
noncomputable def qG (z:Eu):Option (R3 Eu Mg Ob):=E3 z.1.2.2.1 z.1.2.2.2.1 z.1.2.2.2.2.1 z.1.2.2.2.2.2.1 z.1.2.2.2.2.2.2.1 z.1.2.2.2.2.2.2.2.1 z.2.1.1.1 z.2.1.1.2.1 z.2.1.1.2.2.1 z.2.1.1.2.2.2.1 z.2.1.1.2.2.2.2.1 z.2.1.1.2.2.2.2.2.1 z.2.1.1.2.2.2.2.2.2.1 z.2.1.1.2.2.2.2.2.2.2.1 z.2.1.1.2.2.2.2.2.2.2.2.1 z.2.1.1.2.2.2.2.2.2.2.2.2.1 z.2.1.1.2.2.2.2.2.2.2.2.2.2.1 z.2.1.1.2.2.2.2.2.2.2.2.2.2.2.1 z.2.1.1.2.2.2.2.2.2.2.2.2.2.2.2.1 z.2.1.2.1.1 z.2.1.2.1.2.1 z.2.1.2.1.2.2.1 z.2.1.2.1.2.2.2.1 z.2.1.2.1.2.2.2.2.1 z.2.1.2.1.2.2.2.2.2.1 z.2.1.2.1.2.2.2.2.2.2.1 z.2.1.2.1.2.2.2.2.2.2.2.1 z.2.1.2.1.2.2.2.2.2.2.2.2.1 z.2.1.2.1.2.2.2.2.2.2.2.2.2.1 z.2.1.2.1.2.2.2.2.2.2.2.2.2.2.1 z.2.1.2.1.2.2.2.2.2.2.2.2.2.2.2.1 z.2.1.2.1.2.2.2.2.2.2.2.2.2.2.2.2.1 z.2.2.1 z.2.2.2.1 z.2.2.2.2.1 z.2.2.2.2.2.1 z.2.2.2.2.2.2.1 z.2.2.2.2.2.2.2.1
abbrev Gn:Type:=(Unit×Unit×aT×aT×Int×Int×Unit)×JS×aP×bT×aP×aP×bT×aP×Unit
abbrev Na:Type:=E8×JS×aP×bT×aP×aP×bT×aP×Unit
abbrev Mi:Type:=Unit×Unit×Unit
noncomputable def FQ (v1 v2:aT)(v3 v4 v5 v6 v7 v8 v9 v10 v11 v12 v13 v14 v15:Int)(v16:Bool)(v17 v18 v19 v20 v21 v22 v23 v24 v25 v26 v27 v28:Int)(v29:Bool)(v30:Int)(v31:aP)(v32:bT)(v33 v34:aP)(v35:bT)(v36:aP):Option (R3 Gn Na Mi):=
 cond (decide (v4<v3)) (
  cond ((decide (0≤v4))&&(decide (v4<(v2.length:Int)))) (
   cond ((decide (0≤v4))&&(decide (v4<(v1.length:Int)))) (
    cond ((decide (((v36.length+1) * 24)≤140737488355328))&&(decide ((v36.length+1)≤9223372036854775807))) (
     some (R3.next (((),(),v1,v2,v3,(IntKind.wrap .i64 (v4+1)),()),((v5,v6,v7,v8,v9,v10,v11,v12,v13,v14,v15,v16,v17,(),(),(),()),(v18,v19,v20,v21,v22,v23,v24,v25,v26,v27,v28,v29,v30,(),(),(),()),()),v31,v32,v33,v34,v35,(v36++[((IntKind.wrap .i64 (Int.tdiv (rd aW v2 (Int.toNat v4)) 8)),(Int.tmod (rd aW v2 (Int.toNat v4)) 8),(rd aW v1 (Int.toNat v4)))]),()))) (
     none)) (
    none)) (
   none)) (
  some (R3.out (((),(),()),((v5,v6,v7,v8,v9,v10,v11,v12,v13,v14,v15,v16,v17,(),(),(),()),(v18,v19,v20,v21,v22,v23,v24,v25,v26,v27,v28,v29,v30,(),(),(),()),()),v31,v32,v33,v34,v35,v36,())))
noncomputable def rL (z:Gn):Option (R3 Gn Na Mi):=FQ z.1.2.2.1 z.1.2.2.2.1 z.1.2.2.2.2.1 z.1.2.2.2.2.2.1 z.2.1.1.1 z.2.1.1.2.1 z.2.1.1.2.2.1 z.2.1.1.2.2.2.1 z.2.1.1.2.2.2.2.1 z.2.1.1.2.2.2.2.2.1 z.2.1.1.2.2.2.2.2.2.1 z.2.1.1.2.2.2.2.2.2.2.1 z.2.1.1.2.2.2.2.2.2.2.2.1 z.2.1.1.2.2.2.2.2.2.2.2.2.1 z.2.1.1.2.2.2.2.2.2.2.2.2.2.1 z.2.1.1.2.2.2.2.2.2.2.2.2.2.2.1 z.2.1.1.2.2.2.2.2.2.2.2.2.2.2.2.1 z.2.1.2.1.1 z.2.1.2.1.2.1 z.2.1.2.1.2.2.1 z.2.1.2.1.2.2.2.1 z.2.1.2.1.2.2.2.2.1 z.2.1.2.1.2.2.2.2.2.1 z.2.1.2.1.2.2.2.2.2.2.1 z.2.1.2.1.2.2.2.2.2.2.2.1 z.2.1.2.1.2.2.2.2.2.2.2.2.1 z.2.1.2.1.2.2.2.2.2.2.2.2.2.1 z.2.1.2.1.2.2.2.2.2.2.2.2.2.2.1 z.2.1.2.1.2.2.2.2.2.2.2.2.2.2.2.1 z.2.1.2.1.2.2.2.2.2.2.2.2.2.2.2.2.1 z.2.2.1 z.2.2.2.1 z.2.2.2.2.1 z.2.2.2.2.2.1 z.2.2.2.2.2.2.1 z.2.2.2.2.2.2.2.1
noncomputable def f41 (v1:aT):Option (Ov×Bool×Unit):=
 ((f90 v1)).bind fun y2=>
 ((f91 y2.1.1)).bind fun y3=>
 cond (!y2.2.1) (
  some ((((0,0),(0,0),0,0,0,0),(0,0,0,false),0,[],[],[]),false,())) (
  cond (!y3.2.1) (
   some ((((0,0),(0,0),0,0,0,0),(0,0,0,false),0,[],[],[]),false,())) (
   cond (decide ((y3.1.length:Int)<15)) (
    some ((((0,0),(0,0),0,0,0,0),(0,0,0,false),0,[],[],[]),false,())) (
    cond (!(decide ((Int.tmod (IntKind.wrap .i64 ((y3.1.length:Int)-15)) 3)=0))) (
     some ((((0,0),(0,0),0,0,0,0),(0,0,0,false),0,[],[],[]),false,())) (
     cond (decide (11<(y3.1.length:Int))) (
      cond (decide (1<(rd aW y3.1 11))) (
       some ((((0,0),(0,0),0,0,0,0),(0,0,0,false),0,[],[],[]),false,())) (
       cond (decide (0<(y3.1.length:Int))) (
        cond (decide (1<(y3.1.length:Int))) (
         cond (decide (2<(y3.1.length:Int))) (
          cond (decide (3<(y3.1.length:Int))) (
           cond (decide (4<(y3.1.length:Int))) (
            cond (decide (5<(y3.1.length:Int))) (
             cond (decide (6<(y3.1.length:Int))) (
              cond (decide (7<(y3.1.length:Int))) (
               cond (decide (8<(y3.1.length:Int))) (
                cond (decide (9<(y3.1.length:Int))) (
                 cond (decide (10<(y3.1.length:Int))) (
                  cond (decide (11<(y3.1.length:Int))) (
                   cond (decide (12<(y3.1.length:Int))) (
                    cond ((decide (15≤(y3.1.length:Int)))&&(decide ((y3.1.length:Int)≤(y3.1.length:Int)))) (
                     ((iter aA de (((),(),(),0,()),((0,0,0,0,0,0,0,0,0,0,0,false,0,(),(),(),()),(y2.1.1,y2.1.2.1,y2.1.2.2.1,y2.1.2.2.2.1,y2.1.2.2.2.2,()),((rd aW y3.1 0),(rd aW y3.1 1),(rd aW y3.1 2),(rd aW y3.1 3),(rd aW y3.1 4),(rd aW y3.1 5),(rd aW y3.1 6),(rd aW y3.1 7),(rd aW y3.1 8),(rd aW y3.1 9),(rd aW y3.1 10),(decide ((rd aW y3.1 11)=1)),(rd aW y3.1 12),(),(),(),()),((List.drop 15 (List.take (Int.toNat (y3.1.length:Int)) y3.1)),()),(3,()),((),(),(),(),(),(),(),(),(),(),(),(),(),(),(),(),(),(),(),(),(),(),(),(),(),(),(),(),(),(),(),(),(),(),(),(),(),(),(),(),(),(),(),(),(),(),(),(),(),(),(),(),(),(),(),(),(),(),(),(),(),(),(),(),(),(),(),(),(),(),(),(),(),(),(),(),(),(),(),(),(),(),(),(),(),(),(),(),(),(),(),(),(),(),(),(),(),(),(),(),(),(),(),(),(),(),(),(),(),(),(),(),(),(),(),(),(),(),(),(),(),(),(),(),(),(),(),(),(),(),(),(),(),(),(),(),(),(),(),(),(),(),(),(),(),(),(),(),(),(),(),(),(),(),(),(),(),(),(),(),(),(),(),(),(),(),(),(),(),(),(),(),(),(),(),(),(),(),(),(),(),(),(),(),(),(),(),(),(),(),(),(),(),(),(),(),(),(),(),(),(),(),(),(),(),(),(),(),(),(),(),(),(),(),(),(),(),(),(),(),(),(),(),(),(),(),(),(),(),(),(),(),(),(),(),(),(),()),()),[],[],[],[],[],[],()))).bind fun r=>match r with
                     | .inl y4=>
                       cond (decide (13<(y3.1.length:Int))) (
                        ((f93 y4.2.1.2.1.2.1 (rd aW y3.1 13) 10)).bind fun y6=>
                        ((f94 y4.2.1.2.1.2.2.1)).bind fun y7=>
                        cond (decide (14<(y3.1.length:Int))) (
                         ((f93 y4.2.1.2.1.2.2.2.1 (rd aW y3.1 14) 5)).bind fun y8=>
                         ((f94 y4.2.1.2.1.2.2.2.2.1)).bind fun y9=>
                         cond (!y6.2.1) (
                          some ((((0,0),(0,0),0,0,0,0),(0,0,0,false),0,[],[],[]),false,())) (
                          cond (!y7.2.1) (
                           some ((((0,0),(0,0),0,0,0,0),(0,0,0,false),0,[],[],[]),false,())) (
                           cond (!y8.2.1) (
                            some ((((0,0),(0,0),0,0,0,0),(0,0,0,false),0,[],[],[]),false,())) (
                            cond (!y9.2.1) (
                             some ((((0,0),(0,0),0,0,0,0),(0,0,0,false),0,[],[],[]),false,())) (
                             cond (!(decide ((y7.1.length:Int)=(y6.1.length:Int)))) (
                              some ((((0,0),(0,0),0,0,0,0),(0,0,0,false),0,[],[],[]),false,())) (
                              cond (!(decide ((y9.1.length:Int)=(y8.1.length:Int)))) (
                               some ((((0,0),(0,0),0,0,0,0),(0,0,0,false),0,[],[],[]),false,())) (
                               ((iter aA qG (((),(),y7.1,y8.1,y9.1,y6.1,(y6.1.length:Int),0,()),((y4.2.1.1.1,y4.2.1.1.2.1,y4.2.1.1.2.2.1,y4.2.1.1.2.2.2.1,y4.2.1.1.2.2.2.2.1,y4.2.1.1.2.2.2.2.2.1,y4.2.1.1.2.2.2.2.2.2.1,y4.2.1.1.2.2.2.2.2.2.2.1,y4.2.1.1.2.2.2.2.2.2.2.2.1,y4.2.1.1.2.2.2.2.2.2.2.2.2.1,y4.2.1.1.2.2.2.2.2.2.2.2.2.2.1,y4.2.1.1.2.2.2.2.2.2.2.2.2.2.2.1,y4.2.1.1.2.2.2.2.2.2.2.2.2.2.2.2.1,(),(),(),()),(y4.2.1.2.2.1.1,y4.2.1.2.2.1.2.1,y4.2.1.2.2.1.2.2.1,y4.2.1.2.2.1.2.2.2.1,y4.2.1.2.2.1.2.2.2.2.1,y4.2.1.2.2.1.2.2.2.2.2.1,y4.2.1.2.2.1.2.2.2.2.2.2.1,y4.2.1.2.2.1.2.2.2.2.2.2.2.1,y4.2.1.2.2.1.2.2.2.2.2.2.2.2.1,y4.2.1.2.2.1.2.2.2.2.2.2.2.2.2.1,y4.2.1.2.2.1.2.2.2.2.2.2.2.2.2.2.1,y4.2.1.2.2.1.2.2.2.2.2.2.2.2.2.2.2.1,y4.2.1.2.2.1.2.2.2.2.2.2.2.2.2.2.2.2.1,(),(),(),()),()),y4.2.2.1,y4.2.2.2.1,y4.2.2.2.2.1,y4.2.2.2.2.2.1,y4.2.2.2.2.2.2.1,y4.2.2.2.2.2.2.2.1,()))).bind fun r=>match r with
                               | .inl y10=>
                                 ((iter aA rL (((),(),y10.1.2.2.2.1,y10.1.2.2.1,(y10.1.2.2.1.length:Int),0,()),((y10.2.1.1.1,y10.2.1.1.2.1,y10.2.1.1.2.2.1,y10.2.1.1.2.2.2.1,y10.2.1.1.2.2.2.2.1,y10.2.1.1.2.2.2.2.2.1,y10.2.1.1.2.2.2.2.2.2.1,y10.2.1.1.2.2.2.2.2.2.2.1,y10.2.1.1.2.2.2.2.2.2.2.2.1,y10.2.1.1.2.2.2.2.2.2.2.2.2.1,y10.2.1.1.2.2.2.2.2.2.2.2.2.2.1,y10.2.1.1.2.2.2.2.2.2.2.2.2.2.2.1,y10.2.1.1.2.2.2.2.2.2.2.2.2.2.2.2.1,(),(),(),()),(y10.2.1.2.1.1,y10.2.1.2.1.2.1,y10.2.1.2.1.2.2.1,y10.2.1.2.1.2.2.2.1,y10.2.1.2.1.2.2.2.2.1,y10.2.1.2.1.2.2.2.2.2.1,y10.2.1.2.1.2.2.2.2.2.2.1,y10.2.1.2.1.2.2.2.2.2.2.2.1,y10.2.1.2.1.2.2.2.2.2.2.2.2.1,y10.2.1.2.1.2.2.2.2.2.2.2.2.2.1,y10.2.1.2.1.2.2.2.2.2.2.2.2.2.2.1,y10.2.1.2.1.2.2.2.2.2.2.2.2.2.2.2.1,y10.2.1.2.1.2.2.2.2.2.2.2.2.2.2.2.2.1,(),(),(),()),()),y10.2.2.1,y10.2.2.2.1,y10.2.2.2.2.1,y10.2.2.2.2.2.1,y10.2.2.2.2.2.2.1,y10.2.2.2.2.2.2.2.1,()))).bind fun r=>match r with
                                 | .inl y12=>
                                   ((f11 y12.2.1.2.1.1 y12.2.1.2.1.2.1 y12.2.1.2.1.2.2.1 y12.2.1.2.1.2.2.2.1 y12.2.1.2.1.2.2.2.2.1 y12.2.1.2.1.2.2.2.2.2.1 y12.2.1.2.1.2.2.2.2.2.2.1 y12.2.1.2.1.2.2.2.2.2.2.2.1 y12.2.1.2.1.2.2.2.2.2.2.2.2.1 y12.2.1.2.1.2.2.2.2.2.2.2.2.2.1 y12.2.1.2.1.2.2.2.2.2.2.2.2.2.2.1 y12.2.1.2.1.2.2.2.2.2.2.2.2.2.2.2.1 y12.2.1.2.1.2.2.2.2.2.2.2.2.2.2.2.2.1 y12.2.2.2.2.2.1 y12.2.2.2.2.2.2.1 y12.2.2.2.2.2.2.2.1)).bind fun y14=>
                                   cond (!y14.1) (
                                    some ((((0,0),(0,0),0,0,0,0),(0,0,0,false),0,[],[],[]),false,())) (
                                    some ((((y12.2.1.2.1.1,y12.2.1.2.1.2.1),(y12.2.1.2.1.2.2.1,y12.2.1.2.1.2.2.2.1),y12.2.1.2.1.2.2.2.2.1,y12.2.1.2.1.2.2.2.2.2.1,y12.2.1.2.1.2.2.2.2.2.2.1,y12.2.1.2.1.2.2.2.2.2.2.2.1),(y12.2.1.2.1.2.2.2.2.2.2.2.2.1,y12.2.1.2.1.2.2.2.2.2.2.2.2.2.1,y12.2.1.2.1.2.2.2.2.2.2.2.2.2.2.1,y12.2.1.2.1.2.2.2.2.2.2.2.2.2.2.2.1),y12.2.1.2.1.2.2.2.2.2.2.2.2.2.2.2.2.1,y12.2.2.2.2.2.1,y12.2.2.2.2.2.2.1,y12.2.2.2.2.2.2.2.1),true,()))
                                 | .inr z13=>
                                   none
                               | .inr z11=>
                                 none))))))) (
                         none)) (
                        none)
                     | .inr z5=>
                       none) (
                     none)) (
                    none)) (
                   none)) (
                  none)) (
                 none)) (
                none)) (
               none)) (
              none)) (
             none)) (
            none)) (
           none)) (
          none)) (
         none)) (
        none))) (
      none)))))
noncomputable def f14 (v1:aT):Option (Ov×Int×Bool×Unit):=
 ((f40 v1 0)).bind fun y2=>
 cond (!(decide (y2.2.2.1=0))) (
  some ((((0,0),(0,0),0,0,0,0),(0,0,0,false),0,[],[],[]),0,false,())) (
  cond (!(decide (y2.1.1=1))) (
   some ((((0,0),(0,0),0,0,0,0),(0,0,0,false),0,[],[],[]),0,false,())) (
   ((f41 y2.1.2)).bind fun y3=>
   cond (!y3.2.1) (
    some ((((0,0),(0,0),0,0,0,0),(0,0,0,false),0,[],[],[]),0,false,())) (
    some ((((y3.1.1.1.1,y3.1.1.1.2),(y3.1.1.2.1.1,y3.1.1.2.1.2),y3.1.1.2.2.1,y3.1.1.2.2.2.1,y3.1.1.2.2.2.2.1,y3.1.1.2.2.2.2.2),(y3.1.2.1.1,y3.1.2.1.2.1,y3.1.2.1.2.2.1,y3.1.2.1.2.2.2),y3.1.2.2.1,y3.1.2.2.2.1,y3.1.2.2.2.2.1,y3.1.2.2.2.2.2),y2.2.1,true,()))))
noncomputable def f42 (v1 v2 v3 v4 v5 v6 v7 v8 v9 v10 v11:Int)(v12:Bool)(v13:Int)(v14:aP)(v15:bT)(v16:aP):Option (Ov×Unit):=
 ((fC v14)).bind fun y17=>
 ((cY v15)).bind fun y18=>
 ((dR v16)).bind fun y19=>
 some ((((v1,v2),(v3,v4),v5,v6,v7,v8),(v9,v10,v11,v12),v13,y17.1,y18.1,y19.1),())
noncomputable def f104 (v1 v2 v3:Int):Option bq:=
 cond (decide (v2≤v1)) (
  some ((decide (v1≤v3)),())) (
  some (false,()))
noncomputable def f98 (v1 v2 v3 v4 v5 v6 v7 v8:Int)(v9:Bool):Option bq:=
 ((f104 v2 0 1073741824)).bind fun y10=>
 cond (!y10.1) (
  some (false,())) (
  cond (!(decide (v1=6))) (
   cond (!((decide (v6=0))&&((decide (v7=0))&&((decide (v8=0))&&((v9 == false)&&true))))) (
    some (false,())) (
    cond (decide (v1=0)) (
     ((f104 v3 0 31)).bind fun y11=>
     cond y11.1 (
      ((f104 v4 0 3)).bind fun y12=>
      cond y12.1 (
       ((f104 v5 0 7)).bind fun y13=>
       some (y13.1,())) (
       some (false,()))) (
      some (false,()))) (
     cond (decide (v1=1)) (
      ((f104 v3 0 31)).bind fun y14=>
      cond y14.1 (
       ((f104 v4 0 3)).bind fun y15=>
       cond y15.1 (
        ((f104 v5 0 7)).bind fun y16=>
        some (y16.1,())) (
        some (false,()))) (
       some (false,()))) (
      cond (decide (v1=2)) (
       ((f104 v3 0 3)).bind fun y17=>
       cond y17.1 (
        ((f104 v4 1 4)).bind fun y18=>
        cond y18.1 (
         ((f104 v5 0 0)).bind fun y19=>
         some (y19.1,())) (
         some (false,()))) (
        some (false,()))) (
       cond (decide (v1=4)) (
        ((f104 v3 0 2)).bind fun y20=>
        cond y20.1 (
         ((f104 v4 1 4)).bind fun y21=>
         cond y21.1 (
          ((f104 v5 0 0)).bind fun y22=>
          some (y22.1,())) (
          some (false,()))) (
         some (false,()))) (
        cond (decide (v1=3)) (
         ((f104 v3 0 2)).bind fun y23=>
         cond y23.1 (
          ((f104 v4 0 0)).bind fun y24=>
          cond y24.1 (
           ((f104 v5 0 0)).bind fun y25=>
           some (y25.1,())) (
           some (false,()))) (
          some (false,()))) (
         cond (decide (v1=5)) (
          ((f104 v3 0 2)).bind fun y26=>
          cond y26.1 (
           ((f104 v4 0 0)).bind fun y27=>
           cond y27.1 (
            ((f104 v5 0 0)).bind fun y28=>
            some (y28.1,())) (
            some (false,()))) (
           some (false,()))) (
          cond (decide (v1=6)) (
           ((f30 v6 v7 v8 v9)).bind fun y29=>
           cond (!y29.1) (
            some (false,())) (
            ((f104 v3 0 0)).bind fun y30=>
            cond y30.1 (
             ((f104 v4 0 0)).bind fun y31=>
             cond y31.1 (
              ((f104 v5 0 0)).bind fun y32=>
              some (y32.1,())) (
              some (false,()))) (
             some (false,())))) (
           some (false,())))))))))) (
   cond (decide (v1=0)) (
    ((f104 v3 0 31)).bind fun y33=>
    cond y33.1 (
     ((f104 v4 0 3)).bind fun y34=>
     cond y34.1 (
      ((f104 v5 0 7)).bind fun y35=>
      some (y35.1,())) (
      some (false,()))) (
     some (false,()))) (
    cond (decide (v1=1)) (
     ((f104 v3 0 31)).bind fun y36=>
     cond y36.1 (
      ((f104 v4 0 3)).bind fun y37=>
      cond y37.1 (
       ((f104 v5 0 7)).bind fun y38=>
       some (y38.1,())) (
       some (false,()))) (
      some (false,()))) (
     cond (decide (v1=2)) (
      ((f104 v3 0 3)).bind fun y39=>
      cond y39.1 (
       ((f104 v4 1 4)).bind fun y40=>
       cond y40.1 (
        ((f104 v5 0 0)).bind fun y41=>
        some (y41.1,())) (
        some (false,()))) (
       some (false,()))) (
      cond (decide (v1=4)) (
       ((f104 v3 0 2)).bind fun y42=>
       cond y42.1 (
        ((f104 v4 1 4)).bind fun y43=>
        cond y43.1 (
         ((f104 v5 0 0)).bind fun y44=>
         some (y44.1,())) (
         some (false,()))) (
        some (false,()))) (
       cond (decide (v1=3)) (
        ((f104 v3 0 2)).bind fun y45=>
        cond y45.1 (
         ((f104 v4 0 0)).bind fun y46=>
         cond y46.1 (
          ((f104 v5 0 0)).bind fun y47=>
          some (y47.1,())) (
          some (false,()))) (
         some (false,()))) (
        cond (decide (v1=5)) (
         ((f104 v3 0 2)).bind fun y48=>
         cond y48.1 (
          ((f104 v4 0 0)).bind fun y49=>
          cond y49.1 (
           ((f104 v5 0 0)).bind fun y50=>
           some (y50.1,())) (
           some (false,()))) (
          some (false,()))) (
         cond (decide (v1=6)) (
          ((f30 v6 v7 v8 v9)).bind fun y51=>
          cond (!y51.1) (
           some (false,())) (
           ((f104 v3 0 0)).bind fun y52=>
           cond y52.1 (
            ((f104 v4 0 0)).bind fun y53=>
            cond y53.1 (
             ((f104 v5 0 0)).bind fun y54=>
             some (y54.1,())) (
             some (false,()))) (
            some (false,())))) (
          some (false,()))))))))))
abbrev jO:Type:=Iy×Kx×(Unit)
abbrev px:Type:=(Unit)×Kx×(Unit)
abbrev oE:Type:=bx×Kx×(Unit)
noncomputable def ke (v1 v2 v3:Int)(v4:aP):Option (R3 jO px oE):=
 cond (decide (v2<v1)) (
  cond ((decide (0≤v2))&&(decide (v2<(v4.length:Int)))) (
   cond (decide ((Int.toNat v2)<v4.length)) (
    cond (decide ((rd ck v4 (Int.toNat v2)).2.2≤v3)) (
     some (R3.ret ((v2,()),((v3,()),v4,()),()))) (
     some (R3.next (((),(),v1,(IntKind.wrap .i64 (v2+1)),()),((v3,()),v4,()),())))) (
    none)) (
   none)) (
  some (R3.out ((),((v3,()),v4,()),())))
noncomputable def eN (z:jO):Option (R3 jO px oE):=ke z.1.2.2.1 z.1.2.2.2.1 z.2.1.1.1 z.2.1.2.1
abbrev jM:Type:=Iy×Kx×(Unit)
abbrev qs:Type:=(Unit×Int×Unit)×Kx×(Unit)
abbrev qt:Type:=Unit×E8×Unit
noncomputable def jP (v1 v2 v3:Int)(v4:aP):Option (R3 jM qs qt):=
 cond (decide (v2<(v4.length:Int))) (
  cond ((decide (0≤v2))&&(decide (v2<(v4.length:Int)))) (
   cond (decide ((Int.toNat v2)<v4.length)) (
    cond (!(decide ((rd ck v4 (Int.toNat v2)).2.2≤v3))) (
     cond ((decide (0≤v1))&&(decide (v1<(v4.length:Int)))) (
      cond (decide ((Int.toNat v1)<v4.length)) (
       some (R3.next (((),(),(IntKind.wrap .i64 (v1+1)),(IntKind.wrap .i64 (v2+1)),()),((v3,()),(v4.set (Int.toNat v1) ((rd ck v4 (Int.toNat v2)).1,(rd ck v4 (Int.toNat v2)).2.1,(rd ck v4 (Int.toNat v2)).2.2)),()),()))) (
       none)) (
      none)) (
     some (R3.next (((),(),v1,(IntKind.wrap .i64 (v2+1)),()),((v3,()),v4,()),())))) (
    none)) (
   none)) (
  some (R3.out (((),v1,()),((v3,()),v4,()),())))
noncomputable def eo (z:jM):Option (R3 jM qs qt):=jP z.1.2.2.1 z.1.2.2.2.1 z.2.1.1.1 z.2.1.2.1
noncomputable def f137 (v1:aP)(v2:Int):Option (aP×Unit):=
 ((dR v1)).bind fun y3=>
 ((iter aA eN (((),(),(y3.1.length:Int),0,()),((v2,()),y3.1,()),()))).bind fun r=>match r with
 | .inl y4=>
   some (y4.2.1.2.1,())
 | .inr z5=>
   cond (decide (z5.1.1=(-1))) (
    some (z5.2.1.2.1,())) (
    ((iter aA eo (((),(),z5.1.1,(IntKind.wrap .i64 (z5.1.1+1)),()),((z5.2.1.1.1,()),z5.2.1.2.1,()),()))).bind fun r=>match r with
    | .inl y6=>
      cond (((decide (0≤y6.1.2.1))&&(decide (y6.1.2.1≤(((y6.2.1.2.1.length-0):Nat):Int))))&&(decide ((0+(((y6.2.1.2.1.length-0):Nat):Int))≤(y6.2.1.2.1.length:Int)))) (
       cond ((decide (0≤y6.1.2.1))&&(decide ((0+y6.1.2.1)≤(((((List.take (0+(Int.toNat y6.1.2.1)) y6.2.1.2.1)++(List.replicate ((0+(Int.toNat (((y6.2.1.2.1.length-0):Nat):Int)))-(0+(Int.toNat y6.1.2.1))) (0,0,0)))++(List.drop ((0+(Int.toNat y6.1.2.1))+((0+(Int.toNat (((y6.2.1.2.1.length-0):Nat):Int)))-(0+(Int.toNat y6.1.2.1)))) y6.2.1.2.1)).length:Nat):Int)))) (
        some ((List.take (0+(Int.toNat y6.1.2.1)) (((List.take (0+(Int.toNat y6.1.2.1)) y6.2.1.2.1)++(List.replicate ((0+(Int.toNat (((y6.2.1.2.1.length-0):Nat):Int)))-(0+(Int.toNat y6.1.2.1))) (0,0,0)))++(List.drop ((0+(Int.toNat y6.1.2.1))+((0+(Int.toNat (((y6.2.1.2.1.length-0):Nat):Int)))-(0+(Int.toNat y6.1.2.1)))) y6.2.1.2.1))),())) (
        none)) (
       none)
    | .inr z7=>
      none)
abbrev KL:Type:=(Int×Unit×Unit×Int×Int×Unit)×JS×aP×bT×aP×aP×bT×aP×Unit
abbrev SN:Type:=(Int×Unit×Unit×Unit)×JS×aP×bT×aP×aP×bT×aP×Unit
abbrev Sj:Type:=Unit×Unit×Unit
noncomputable def M8 (v1 v2 v3 v4 v5 v6 v7 v8 v9 v10 v11 v12 v13 v14:Int)(v15:Bool)(v16 v17 v18 v19 v20 v21 v22 v23 v24 v25 v26 v27:Int)(v28:Bool)(v29:Int)(v30:aP)(v31:bT)(v32 v33:aP)(v34:bT)(v35:aP):Option (R3 KL SN Sj):=
 cond (decide (v3<v2)) (
  cond ((decide (0≤v3))&&(decide (v3<(v34.length:Int)))) (
   cond (decide ((Int.toNat v3)<v34.length)) (
    some (R3.next ((v1,(),(),v2,(IntKind.wrap .i64 (v3+1)),()),((v4,v5,v6,v7,v8,v9,v10,v11,v12,v13,v14,v15,v16,(),(),(),()),(v17,v18,v19,v20,v21,v22,v23,v24,v25,v26,v27,v28,v29,(),(),(),()),()),v30,v31,v32,v33,(v34.set (Int.toNat v3) ((rd cQ v34 (Int.toNat v3)).1,(rd cQ v34 (Int.toNat v3)).2.1,(rd cQ v34 (Int.toNat v3)).2.2.1,(rd cQ v34 (Int.toNat v3)).2.2.2.1,v1)),v35,()))) (
    none)) (
   none)) (
  some (R3.out ((v1,(),(),()),((v4,v5,v6,v7,v8,v9,v10,v11,v12,v13,v14,v15,v16,(),(),(),()),(v17,v18,v19,v20,v21,v22,v23,v24,v25,v26,v27,v28,v29,(),(),(),()),()),v30,v31,v32,v33,v34,v35,())))
noncomputable def xb (z:KL):Option (R3 KL SN Sj):=M8 z.1.1 z.1.2.2.2.1 z.1.2.2.2.2.1 z.2.1.1.1 z.2.1.1.2.1 z.2.1.1.2.2.1 z.2.1.1.2.2.2.1 z.2.1.1.2.2.2.2.1 z.2.1.1.2.2.2.2.2.1 z.2.1.1.2.2.2.2.2.2.1 z.2.1.1.2.2.2.2.2.2.2.1 z.2.1.1.2.2.2.2.2.2.2.2.1 z.2.1.1.2.2.2.2.2.2.2.2.2.1 z.2.1.1.2.2.2.2.2.2.2.2.2.2.1 z.2.1.1.2.2.2.2.2.2.2.2.2.2.2.1 z.2.1.1.2.2.2.2.2.2.2.2.2.2.2.2.1 z.2.1.2.1.1 z.2.1.2.1.2.1 z.2.1.2.1.2.2.1 z.2.1.2.1.2.2.2.1 z.2.1.2.1.2.2.2.2.1 z.2.1.2.1.2.2.2.2.2.1 z.2.1.2.1.2.2.2.2.2.2.1 z.2.1.2.1.2.2.2.2.2.2.2.1 z.2.1.2.1.2.2.2.2.2.2.2.2.1 z.2.1.2.1.2.2.2.2.2.2.2.2.2.1 z.2.1.2.1.2.2.2.2.2.2.2.2.2.2.1 z.2.1.2.1.2.2.2.2.2.2.2.2.2.2.2.1 z.2.1.2.1.2.2.2.2.2.2.2.2.2.2.2.2.1 z.2.2.1 z.2.2.2.1 z.2.2.2.2.1 z.2.2.2.2.2.1 z.2.2.2.2.2.2.1 z.2.2.2.2.2.2.2.1
noncomputable def f99 (v1 v2 v3 v4 v5 v6 v7 v8 v9 v10 v11:Int)(v12:Bool)(v13:Int)(v14:aP)(v15:bT)(v16:aP)(v17:Int):Option (Ov×Bool×Unit):=
 ((fC v14)).bind fun y18=>
 ((cY v15)).bind fun y19=>
 ((dR v16)).bind fun y20=>
 ((f11 v1 v2 v3 v4 v5 v6 v7 v8 v9 v10 v11 v12 v13 v14 v15 v16)).bind fun y21=>
 cond (!y21.1) (
  some ((((v1,v2),(v3,v4),v5,v6,v7,v8),(v9,v10,v11,v12),v13,y18.1,y19.1,y20.1),false,())) (
  cond (decide (v17<v13)) (
   some ((((v1,v2),(v3,v4),v5,v6,v7,v8),(v9,v10,v11,v12),v13,y18.1,y19.1,y20.1),false,())) (
   cond (decide (1073741824<v17)) (
    some ((((v1,v2),(v3,v4),v5,v6,v7,v8),(v9,v10,v11,v12),v13,y18.1,y19.1,y20.1),false,())) (
    ((iter aA xb ((v17,(),(),(y19.1.length:Int),0,()),((0,0,0,0,0,0,0,0,0,0,0,false,0,(),(),(),()),(v1,v2,v3,v4,v5,v6,v7,v8,v9,v10,v11,v12,v17,(),(),(),()),()),[],[],[],y18.1,y19.1,y20.1,()))).bind fun r=>match r with
    | .inl y22=>
      ((f137 y22.2.2.2.2.2.2.2.1 y22.1.1)).bind fun y24=>
      some ((((y22.2.1.2.1.1,y22.2.1.2.1.2.1),(y22.2.1.2.1.2.2.1,y22.2.1.2.1.2.2.2.1),y22.2.1.2.1.2.2.2.2.1,y22.2.1.2.1.2.2.2.2.2.1,y22.2.1.2.1.2.2.2.2.2.2.1,y22.2.1.2.1.2.2.2.2.2.2.2.1),(y22.2.1.2.1.2.2.2.2.2.2.2.2.1,y22.2.1.2.1.2.2.2.2.2.2.2.2.2.1,y22.2.1.2.1.2.2.2.2.2.2.2.2.2.2.1,y22.2.1.2.1.2.2.2.2.2.2.2.2.2.2.2.1),y22.2.1.2.1.2.2.2.2.2.2.2.2.2.2.2.2.1,y22.2.2.2.2.2.1,y22.2.2.2.2.2.2.1,y24.1),true,())
    | .inr z23=>
      none)))
abbrev F6:Type:=(Int×aT×Int×Int×Unit)×(Unit)×(Unit)
abbrev Ng:Type:=bx×(Unit)×(Unit)
abbrev Ls:Type:=bx×(Unit)×(Unit)
noncomputable def zh (v1:Int)(v2:aT)(v3 v4:Int):Option (R3 F6 Ng Ls):=
 cond (decide (v4<v3)) (
  cond ((decide (0≤v4))&&(decide (v4<(v2.length:Int)))) (
   cond (!(decide ((rd aW v2 (Int.toNat v4))=v1))) (
    some (R3.ret (((rd aW v2 (Int.toNat v4)),()),(),()))) (
    some (R3.next ((v1,v2,v3,(IntKind.wrap .i64 (v4+1)),()),(),())))) (
   none)) (
  some (R3.out ((v1,()),(),())))
noncomputable def lm (z:F6):Option (R3 F6 Ng Ls):=zh z.1.1 z.1.2.1 z.1.2.2.1 z.1.2.2.2.1
noncomputable def f218 (v1:aT):Option bx:=
 ((iter aA lm ((0,v1,(v1.length:Int),0,()),(),()))).bind fun r=>match r with
 | .inl y2=>
   some (y2.1.1,())
 | .inr z3=>
   some (z3.1.1,())
noncomputable def f236 (v1:Int):Option bq:=
 some ((!(decide (v1=v1))),())
noncomputable def f219 (v1 v2:Int):Option bx:=
 ((f236 v1)).bind fun y3=>
 ((f236 v2)).bind fun y4=>
 cond y3.1 (
  cond y4.1 (
   some (0,())) (
   some ((-1),()))) (
  cond y4.1 (
   some (1,())) (
   cond (decide (v1<v2)) (
    some ((-1),())) (
    cond (decide (v2<v1)) (
     some (1,())) (
     some (0,())))))
noncomputable def f207 (v1 v2 v3 v4:Int):Option bx:=
 ((f219 v1 v3)).bind fun y5=>
 ((f219 v2 v4)).bind fun y6=>
 ((f218 [y5.1,y6.1])).bind fun y7=>
 some (y7.1,())
abbrev jS:Type:=(bT×Unit×Int×Int×Unit)×yj×(Unit)
abbrev pE:Type:=(Unit)×yj×(Unit)
abbrev oN:Type:=bx×yj×(Unit)
noncomputable def ko (v1:bT)(v2 v3 v4 v5:Int):Option (R3 jS pE oN):=
 cond (decide (v3<v2)) (
  cond ((decide (0≤v3))&&(decide (v3<(v1.length:Int)))) (
   ((f123 (rd cQ v1 (Int.toNat v3)).1 (rd cQ v1 (Int.toNat v3)).2.1 (rd cQ v1 (Int.toNat v3)).2.2.1 (rd cQ v1 (Int.toNat v3)).2.2.2.1 (rd cQ v1 (Int.toNat v3)).2.2.2.2)).bind fun y6=>
   ((f207 y6.1.1 y6.1.2 v4 v5)).bind fun y7=>
   cond (decide (0<y7.1)) (
    some (R3.ret ((v3,()),((v4,v5,()),((),()),()),()))) (
    some (R3.next ((v1,(),v2,(IntKind.wrap .i64 (v3+1)),()),((v4,v5,()),((),()),()),())))) (
   none)) (
  some (R3.out ((),((v4,v5,()),((),()),()),())))
noncomputable def eA (z:jS):Option (R3 jS pE oN):=ko z.1.1 z.1.2.2.1 z.1.2.2.2.1 z.2.1.1.1 z.2.1.1.2.1
noncomputable def f193 (v1:bT)(v2 v3:Int):Option bx:=
 ((iter aA eA ((v1,(),(v1.length:Int),0,()),((v2,v3,()),((),()),()),()))).bind fun r=>match r with
 | .inl y4=>
   some ((v1.length:Int),())
 | .inr z5=>
   cond (decide (z5.1.1=(-1))) (
    some ((v1.length:Int),())) (
    some (z5.1.1,()))
noncomputable def f167 (v1:bT)(v2 v3 v4 v5 v6:Int):Option (bT×Bool×Unit):=
 ((cY v1)).bind fun y7=>
 ((f80 v1 v3 v4)).bind fun y8=>
 cond (!(decide (y8.1=(-1)))) (
  some (y7.1,false,())) (
  cond (decide (32≤(v1.length:Int))) (
   some (y7.1,false,())) (
   ((f123 v2 v3 v4 v5 v6)).bind fun y9=>
   ((f193 v1 y9.1.1 y9.1.2)).bind fun y10=>
   ((jy y7.1 y10.1 [(v2,v3,v4,v5,v6)])).bind fun y11=>
   some (y11,true,())))
noncomputable def f168 (v1:bT)(v2 v3:Int):Option (bT×Bool×Unit):=
 ((cY v1)).bind fun y4=>
 ((f80 v1 v2 v3)).bind fun y5=>
 cond (decide (y5.1=(-1))) (
  some (y4.1,false,())) (
  cond ((((decide (0≤y5.1))&&(decide (y5.1≤(IntKind.wrap .i64 (y5.1+1)))))&&(decide ((IntKind.wrap .i64 (y5.1+1))≤(y4.1.length:Int))))&&(decide ((0+(y4.1.length:Int))≤(y4.1.length:Int)))) (
   cond (decide (y5.1=(IntKind.wrap .i64 (y5.1+1)))) (
    some (y4.1,true,())) (
    cond ((decide (0≤y5.1))&&(decide ((0+y5.1)≤(y4.1.length:Int)))) (
     cond (((decide (0≤(IntKind.wrap .i64 (y5.1+1))))&&(decide ((IntKind.wrap .i64 (y5.1+1))≤(((y4.1.length-0):Nat):Int))))&&(decide ((0+(((y4.1.length-0):Nat):Int))≤(y4.1.length:Int)))) (
      cond (decide (((0+(Int.toNat y5.1))+(List.drop (0+(Int.toNat (IntKind.wrap .i64 (y5.1+1)))) (List.take (0+(Int.toNat (((y4.1.length-0):Nat):Int))) y4.1)).length)≤y4.1.length)) (
       cond (((decide (0≤(((((0+(Int.toNat y5.1))+(List.drop (0+(Int.toNat (IntKind.wrap .i64 (y5.1+1)))) (List.take (0+(Int.toNat (((y4.1.length-0):Nat):Int))) y4.1)).length)-0):Nat):Int)))&&(decide ((((((0+(Int.toNat y5.1))+(List.drop (0+(Int.toNat (IntKind.wrap .i64 (y5.1+1)))) (List.take (0+(Int.toNat (((y4.1.length-0):Nat):Int))) y4.1)).length)-0):Nat):Int)≤(y4.1.length:Int))))&&(decide ((0+(y4.1.length:Int))≤(((((List.take (0+(Int.toNat y5.1)) y4.1)++(List.drop (0+(Int.toNat (IntKind.wrap .i64 (y5.1+1)))) (List.take (0+(Int.toNat (((y4.1.length-0):Nat):Int))) y4.1)))++(List.drop ((0+(Int.toNat y5.1))+(List.drop (0+(Int.toNat (IntKind.wrap .i64 (y5.1+1)))) (List.take (0+(Int.toNat (((y4.1.length-0):Nat):Int))) y4.1)).length) y4.1)).length:Nat):Int)))) (
        some ((List.drop 0 (List.take ((0+(Int.toNat y5.1))+(List.drop (0+(Int.toNat (IntKind.wrap .i64 (y5.1+1)))) (List.take (0+(Int.toNat (((y4.1.length-0):Nat):Int))) y4.1)).length) (((List.take (0+(Int.toNat (((((0+(Int.toNat y5.1))+(List.drop (0+(Int.toNat (IntKind.wrap .i64 (y5.1+1)))) (List.take (0+(Int.toNat (((y4.1.length-0):Nat):Int))) y4.1)).length)-0):Nat):Int))) (((List.take (0+(Int.toNat y5.1)) y4.1)++(List.drop (0+(Int.toNat (IntKind.wrap .i64 (y5.1+1)))) (List.take (0+(Int.toNat (((y4.1.length-0):Nat):Int))) y4.1)))++(List.drop ((0+(Int.toNat y5.1))+(List.drop (0+(Int.toNat (IntKind.wrap .i64 (y5.1+1)))) (List.take (0+(Int.toNat (((y4.1.length-0):Nat):Int))) y4.1)).length) y4.1)))++(List.replicate ((0+(Int.toNat (y4.1.length:Int)))-(0+(Int.toNat (((((0+(Int.toNat y5.1))+(List.drop (0+(Int.toNat (IntKind.wrap .i64 (y5.1+1)))) (List.take (0+(Int.toNat (((y4.1.length-0):Nat):Int))) y4.1)).length)-0):Nat):Int)))) (0,0,0,0,0)))++(List.drop ((0+(Int.toNat (((((0+(Int.toNat y5.1))+(List.drop (0+(Int.toNat (IntKind.wrap .i64 (y5.1+1)))) (List.take (0+(Int.toNat (((y4.1.length-0):Nat):Int))) y4.1)).length)-0):Nat):Int)))+((0+(Int.toNat (y4.1.length:Int)))-(0+(Int.toNat (((((0+(Int.toNat y5.1))+(List.drop (0+(Int.toNat (IntKind.wrap .i64 (y5.1+1)))) (List.take (0+(Int.toNat (((y4.1.length-0):Nat):Int))) y4.1)).length)-0):Nat):Int))))) (((List.take (0+(Int.toNat y5.1)) y4.1)++(List.drop (0+(Int.toNat (IntKind.wrap .i64 (y5.1+1)))) (List.take (0+(Int.toNat (((y4.1.length-0):Nat):Int))) y4.1)))++(List.drop ((0+(Int.toNat y5.1))+(List.drop (0+(Int.toNat (IntKind.wrap .i64 (y5.1+1)))) (List.take (0+(Int.toNat (((y4.1.length-0):Nat):Int))) y4.1)).length) y4.1)))))),true,())) (
        none)) (
       none)) (
      none)) (
     none))) (
   none))
noncomputable def f208 (v1 v2 v3:Int):Option (((Int×Int)×Int×Int×Int)×Unit):=
 some (((v1,v2),v1,v2,v3),())
noncomputable def f196 (v1 v2 v3:Int):Option ((Int×Int)×Unit):=
 ((f208 v1 v2 v3)).bind fun y4=>
 some ((y4.1.1.1,y4.1.1.2),())
abbrev kJ:Type:=(aP×Unit×Int×Int×Unit)×yj×(Unit)
abbrev oK:Type:=(Unit)×yj×(Unit)
abbrev pu:Type:=bx×yj×(Unit)
noncomputable def ki (v1:aP)(v2 v3 v4 v5:Int):Option (R3 kJ oK pu):=
 cond (decide (v3<v2)) (
  cond ((decide (0≤v3))&&(decide (v3<(v1.length:Int)))) (
   ((f196 (rd ck v1 (Int.toNat v3)).1 (rd ck v1 (Int.toNat v3)).2.1 (rd ck v1 (Int.toNat v3)).2.2)).bind fun y6=>
   ((f207 y6.1.1 y6.1.2 v4 v5)).bind fun y7=>
   cond (decide (0<y7.1)) (
    some (R3.ret ((v3,()),((v4,v5,()),((),()),()),()))) (
    some (R3.next ((v1,(),v2,(IntKind.wrap .i64 (v3+1)),()),((v4,v5,()),((),()),()),())))) (
   none)) (
  some (R3.out ((),((v4,v5,()),((),()),()),())))
noncomputable def eD (z:kJ):Option (R3 kJ oK pu):=ki z.1.1 z.1.2.2.1 z.1.2.2.2.1 z.2.1.1.1 z.2.1.1.2.1
noncomputable def f198 (v1:aP)(v2 v3:Int):Option bx:=
 ((iter aA eD ((v1,(),(v1.length:Int),0,()),((v2,v3,()),((),()),()),()))).bind fun r=>match r with
 | .inl y4=>
   some ((v1.length:Int),())
 | .inr z5=>
   cond (decide (z5.1.1=(-1))) (
    some ((v1.length:Int),())) (
    some (z5.1.1,()))
abbrev jJ:Type:=Iy×J9×(Unit)
abbrev o7:Type:=(Unit)×J9×(Unit)
abbrev ph:Type:=bx×J9×(Unit)
noncomputable def jE (v1 v2 v3 v4 v5:Int)(v6:aP):Option (R3 jJ o7 ph):=
 cond (decide (v2<v1)) (
  cond ((decide (0≤v2))&&(decide (v2<(v6.length:Int)))) (
   cond (decide ((Int.toNat v2)<v6.length)) (
    ((f196 (rd ck v6 (Int.toNat v2)).1 (rd ck v6 (Int.toNat v2)).2.1 (rd ck v6 (Int.toNat v2)).2.2)).bind fun y7=>
    ((f196 v3 v4 v5)).bind fun y8=>
    cond ((decide (y7.1.1=y8.1.1))&&((decide (y7.1.2=y8.1.2))&&true)) (
     some (R3.ret ((v2,()),((v3,v4,v5,()),v6,()),()))) (
     some (R3.next (((),(),v1,(IntKind.wrap .i64 (v2+1)),()),((v3,v4,v5,()),v6,()),())))) (
    none)) (
   none)) (
  some (R3.out ((),((v3,v4,v5,()),v6,()),())))
noncomputable def eS (z:jJ):Option (R3 jJ o7 ph):=jE z.1.2.2.1 z.1.2.2.2.1 z.2.1.1.1 z.2.1.1.2.1 z.2.1.1.2.2.1 z.2.1.2.1
abbrev kM:Type:=Iy×J9×(Unit)
abbrev oQ:Type:=(Unit×Int×Unit)×J9×(Unit)
abbrev pR:Type:=Unit×E8×Unit
noncomputable def j4 (v1 v2 v3 v4 v5:Int)(v6:aP):Option (R3 kM oQ pR):=
 cond (decide (v2<(v6.length:Int))) (
  cond ((decide (0≤v2))&&(decide (v2<(v6.length:Int)))) (
   cond (decide ((Int.toNat v2)<v6.length)) (
    ((f196 (rd ck v6 (Int.toNat v2)).1 (rd ck v6 (Int.toNat v2)).2.1 (rd ck v6 (Int.toNat v2)).2.2)).bind fun y7=>
    ((f196 v3 v4 v5)).bind fun y8=>
    cond (!((decide (y7.1.1=y8.1.1))&&((decide (y7.1.2=y8.1.2))&&true))) (
     cond ((decide (0≤v1))&&(decide (v1<(v6.length:Int)))) (
      cond (decide ((Int.toNat v1)<v6.length)) (
       some (R3.next (((),(),(IntKind.wrap .i64 (v1+1)),(IntKind.wrap .i64 (v2+1)),()),((v3,v4,v5,()),(v6.set (Int.toNat v1) ((rd ck v6 (Int.toNat v2)).1,(rd ck v6 (Int.toNat v2)).2.1,(rd ck v6 (Int.toNat v2)).2.2)),()),()))) (
       none)) (
      none)) (
     some (R3.next (((),(),v1,(IntKind.wrap .i64 (v2+1)),()),((v3,v4,v5,()),v6,()),())))) (
    none)) (
   none)) (
  some (R3.out (((),v1,()),((v3,v4,v5,()),v6,()),())))
noncomputable def e7 (z:kM):Option (R3 kM oQ pR):=j4 z.1.2.2.1 z.1.2.2.2.1 z.2.1.1.1 z.2.1.1.2.1 z.2.1.1.2.2.1 z.2.1.2.1
noncomputable def f169 (v1:aP)(v2 v3 v4:Int):Option (aP×Unit):=
 ((dR v1)).bind fun y5=>
 ((iter aA eS (((),(),(y5.1.length:Int),0,()),((v2,v3,v4,()),y5.1,()),()))).bind fun r=>match r with
 | .inl y6=>
   ((f196 y6.2.1.1.1 y6.2.1.1.2.1 y6.2.1.1.2.2.1)).bind fun y8=>
   ((f198 y6.2.1.2.1 y8.1.1 y8.1.2)).bind fun y9=>
   ((gO y6.2.1.2.1 y9.1 [(y6.2.1.1.1,y6.2.1.1.2.1,y6.2.1.1.2.2.1)])).bind fun y10=>
   some (y10,())
 | .inr z7=>
   cond (decide (z7.1.1=(-1))) (
    ((f196 z7.2.1.1.1 z7.2.1.1.2.1 z7.2.1.1.2.2.1)).bind fun y11=>
    ((f198 z7.2.1.2.1 y11.1.1 y11.1.2)).bind fun y12=>
    ((gO z7.2.1.2.1 y12.1 [(z7.2.1.1.1,z7.2.1.1.2.1,z7.2.1.1.2.2.1)])).bind fun y13=>
    some (y13,())) (
    ((iter aA e7 (((),(),z7.1.1,(IntKind.wrap .i64 (z7.1.1+1)),()),((z7.2.1.1.1,z7.2.1.1.2.1,z7.2.1.1.2.2.1,()),z7.2.1.2.1,()),()))).bind fun r=>match r with
    | .inl y14=>
      cond (((decide (0≤y14.1.2.1))&&(decide (y14.1.2.1≤(((y14.2.1.2.1.length-0):Nat):Int))))&&(decide ((0+(((y14.2.1.2.1.length-0):Nat):Int))≤(y14.2.1.2.1.length:Int)))) (
       cond ((decide (0≤y14.1.2.1))&&(decide ((0+y14.1.2.1)≤(((((List.take (0+(Int.toNat y14.1.2.1)) y14.2.1.2.1)++(List.replicate ((0+(Int.toNat (((y14.2.1.2.1.length-0):Nat):Int)))-(0+(Int.toNat y14.1.2.1))) (0,0,0)))++(List.drop ((0+(Int.toNat y14.1.2.1))+((0+(Int.toNat (((y14.2.1.2.1.length-0):Nat):Int)))-(0+(Int.toNat y14.1.2.1)))) y14.2.1.2.1)).length:Nat):Int)))) (
        ((f196 y14.2.1.1.1 y14.2.1.1.2.1 y14.2.1.1.2.2.1)).bind fun y16=>
        ((f198 (List.drop 0 (List.take (0+(Int.toNat y14.1.2.1)) (((List.take (0+(Int.toNat y14.1.2.1)) y14.2.1.2.1)++(List.replicate ((0+(Int.toNat (((y14.2.1.2.1.length-0):Nat):Int)))-(0+(Int.toNat y14.1.2.1))) (0,0,0)))++(List.drop ((0+(Int.toNat y14.1.2.1))+((0+(Int.toNat (((y14.2.1.2.1.length-0):Nat):Int)))-(0+(Int.toNat y14.1.2.1)))) y14.2.1.2.1)))) y16.1.1 y16.1.2)).bind fun y17=>
        ((gO (List.take (0+(Int.toNat y14.1.2.1)) (((List.take (0+(Int.toNat y14.1.2.1)) y14.2.1.2.1)++(List.replicate ((0+(Int.toNat (((y14.2.1.2.1.length-0):Nat):Int)))-(0+(Int.toNat y14.1.2.1))) (0,0,0)))++(List.drop ((0+(Int.toNat y14.1.2.1))+((0+(Int.toNat (((y14.2.1.2.1.length-0):Nat):Int)))-(0+(Int.toNat y14.1.2.1)))) y14.2.1.2.1))) y17.1 [(y14.2.1.1.1,y14.2.1.1.2.1,y14.2.1.1.2.2.1)])).bind fun y18=>
        some (y18,())) (
        none)) (
       none)
    | .inr z15=>
      none)
abbrev FE:Type:=(bT×Int×Int×Unit)×(Unit)×aT×Unit
abbrev Mk:Type:=(Unit)×(Unit)×aT×Unit
abbrev KS:Type:=Unit×Unit×Unit
noncomputable def EG (v1:bT)(v2 v3:Int)(v4:aT):Option (R3 FE Mk KS):=
 cond (decide (v3<v2)) (
  cond ((decide (0≤v3))&&(decide (v3<(v1.length:Int)))) (
   ((f160 (rd cQ v1 (Int.toNat v3)).1 (rd cQ v1 (Int.toNat v3)).2.1 (rd cQ v1 (Int.toNat v3)).2.2.1 (rd cQ v1 (Int.toNat v3)).2.2.2.1 (rd cQ v1 (Int.toNat v3)).2.2.2.2)).bind fun y5=>
   cond ((decide (((v4.length+1) * 8)≤140737488355328))&&(decide ((v4.length+1)≤9223372036854775807))) (
    some (R3.next ((v1,v2,(IntKind.wrap .i64 (v3+1)),()),(),(v4++[y5.1.1.1]),()))) (
    none)) (
   none)) (
  some (R3.out ((),(),v4,())))
noncomputable def uo (z:FE):Option (R3 FE Mk KS):=EG z.1.1 z.1.2.1 z.1.2.2.1 z.2.2.1
noncomputable def f170 (v1:bT):Option sZ:=
 ((iter aA uo ((v1,(v1.length:Int),0,()),(),[],()))).bind fun r=>match r with
 | .inl y2=>
   ((DB y2.2.2.1)).bind fun y4=>
   cond ((Nat.beq y4.length y2.2.2.1.length)&&true) (
    ((mM y4)).bind fun y5=>
    some (y5,())) (
    none)
 | .inr z3=>
   none
abbrev Ei:Type:=(aP×Int×Unit×aP×Int×Int×Unit)×(DU×Unit)×(Unit)
abbrev Ny:Type:=Jb×(Unit)×(Unit)
abbrev N9:Type:=bx×(Unit)×(Unit)
noncomputable def EH (v1:aP)(v2:Int)(v3:aP)(v4 v5 v6 v7 v8:Int):Option (R3 Ei Ny N9):=
 cond (decide (v5<v4)) (
  cond ((decide (0≤v5))&&(decide (v5<(v3.length:Int)))) (
   cond (decide (v5=v2)) (
    some (R3.next ((v1,v2,(),v3,v4,(IntKind.wrap .i64 (v5+1)),()),((v6,v7,v8,()),()),()))) (
    ((f73 v6 v7 v8 (rd ck v3 (Int.toNat v5)).1 (rd ck v3 (Int.toNat v5)).2.1 (rd ck v3 (Int.toNat v5)).2.2)).bind fun y9=>
    cond y9.1 (
     some (R3.ret ((11,()),(),()))) (
     some (R3.next ((v1,v2,(),v3,v4,(IntKind.wrap .i64 (v5+1)),()),((v6,v7,v8,()),()),()))))) (
   none)) (
  some (R3.out ((v1,v2,()),(),())))
noncomputable def qF (z:Ei):Option (R3 Ei Ny N9):=EH z.1.1 z.1.2.1 z.1.2.2.2.1 z.1.2.2.2.2.1 z.1.2.2.2.2.2.1 z.2.1.1.1 z.2.1.1.2.1 z.2.1.1.2.2.1
noncomputable def f234 (v1 v2 v3 v4 v5 v6:Int)(v7:aT)(v8:aP)(v9 v10 v11 v12:Int):Option bx:=
 ((f74 v10 v11 v12 v2)).bind fun y13=>
 cond (!y13.1) (
  some (1,())) (
  ((iter aA qF ((v8,v9,(),v8,(v8.length:Int),0,()),((v10,v11,v12,()),()),()))).bind fun r=>match r with
  | .inl y14=>
    cond (decide (y14.1.2.1=(-1))) (
     cond (decide ((y14.1.1.length:Int)=3)) (
      some (9,())) (
      some (0,()))) (
     some (0,()))
  | .inr z15=>
    some (z15.1.1,()))
abbrev jV:Type:=Pd×TV×(Unit)
abbrev qv:Type:=(Unit)×TV×(Unit)
abbrev oO:Type:=bx×TV×(Unit)
noncomputable def jR (v1:aT)(v2 v3 v4 v5 v6 v7 v8 v9:Int)(v10:aT)(v11:aP)(v12 v13 v14 v15 v16 v17:Int):Option (R3 jV qv oO):=
 cond (decide (v3<v2)) (
  cond ((decide (0≤v3))&&(decide (v3<(v1.length:Int)))) (
   cond ((decide (0≤v6))&&(decide (v6<(v11.length:Int)))) (
    ((f121 (rd ck v11 (Int.toNat v6)).1 (rd ck v11 (Int.toNat v6)).2.1 (rd ck v11 (Int.toNat v6)).2.2 (rd aW v1 (Int.toNat v3)))).bind fun y18=>
    cond y18.1 (
     ((f121 v15 v16 v17 (rd aW v1 (Int.toNat v3)))).bind fun y19=>
     cond (!y19.1) (
      some (R3.ret ((v3,()),((v4,v5,v6,v7,v8,v9,v10,()),(v11,()),(v12,v13,v14,()),(v15,v16,v17,()),()),()))) (
      some (R3.next ((v1,(),v2,(IntKind.wrap .i64 (v3+1)),()),((v4,v5,v6,v7,v8,v9,v10,()),(v11,()),(v12,v13,v14,()),(v15,v16,v17,()),()),())))) (
     some (R3.next ((v1,(),v2,(IntKind.wrap .i64 (v3+1)),()),((v4,v5,v6,v7,v8,v9,v10,()),(v11,()),(v12,v13,v14,()),(v15,v16,v17,()),()),())))) (
    none)) (
   none)) (
  some (R3.out ((),((v4,v5,v6,v7,v8,v9,v10,()),(v11,()),(v12,v13,v14,()),(v15,v16,v17,()),()),())))
noncomputable def dw (z:jV):Option (R3 jV qv oO):=jR z.1.1 z.1.2.2.1 z.1.2.2.2.1 z.2.1.1.1 z.2.1.1.2.1 z.2.1.1.2.2.1 z.2.1.1.2.2.2.1 z.2.1.1.2.2.2.2.1 z.2.1.1.2.2.2.2.2.1 z.2.1.1.2.2.2.2.2.2.1 z.2.1.2.1.1 z.2.1.2.2.1.1 z.2.1.2.2.1.2.1 z.2.1.2.2.1.2.2.1 z.2.1.2.2.2.1.1 z.2.1.2.2.2.1.2.1 z.2.1.2.2.2.1.2.2.1
abbrev kw:Type:=Pd×TW×(Unit)
abbrev pg:Type:=(Unit)×TW×(Unit)
abbrev qw:Type:=bx×TW×(Unit)
noncomputable def jT (v1:aT)(v2 v3 v4 v5 v6 v7 v8 v9:Int)(v10:aT)(v11:aP)(v12 v13 v14:Int):Option (R3 kw pg qw):=
 cond (decide (v3<v2)) (
  cond ((decide (0≤v3))&&(decide (v3<(v1.length:Int)))) (
   cond ((decide (0≤v6))&&(decide (v6<(v11.length:Int)))) (
    ((f121 (rd ck v11 (Int.toNat v6)).1 (rd ck v11 (Int.toNat v6)).2.1 (rd ck v11 (Int.toNat v6)).2.2 (rd aW v1 (Int.toNat v3)))).bind fun y15=>
    cond y15.1 (
     ((f121 v12 v13 v14 (rd aW v1 (Int.toNat v3)))).bind fun y16=>
     cond (!y16.1) (
      some (R3.ret ((v3,()),((v4,v5,v6,v7,v8,v9,v10,()),(v11,()),(v12,v13,v14,()),()),()))) (
      some (R3.next ((v1,(),v2,(IntKind.wrap .i64 (v3+1)),()),((v4,v5,v6,v7,v8,v9,v10,()),(v11,()),(v12,v13,v14,()),()),())))) (
     some (R3.next ((v1,(),v2,(IntKind.wrap .i64 (v3+1)),()),((v4,v5,v6,v7,v8,v9,v10,()),(v11,()),(v12,v13,v14,()),()),())))) (
    none)) (
   none)) (
  some (R3.out ((),((v4,v5,v6,v7,v8,v9,v10,()),(v11,()),(v12,v13,v14,()),()),())))
noncomputable def dy (z:kw):Option (R3 kw pg qw):=jT z.1.1 z.1.2.2.1 z.1.2.2.2.1 z.2.1.1.1 z.2.1.1.2.1 z.2.1.1.2.2.1 z.2.1.1.2.2.2.1 z.2.1.1.2.2.2.2.1 z.2.1.1.2.2.2.2.2.1 z.2.1.1.2.2.2.2.2.2.1 z.2.1.2.1.1 z.2.1.2.2.1.1 z.2.1.2.2.1.2.1 z.2.1.2.2.1.2.2.1
noncomputable def f214 (v1 v2 v3 v4 v5 v6:Int)(v7:aT)(v8:aP):Option bx:=
 ((f32 v8 v2)).bind fun y9=>
 cond (!y9.1) (
  some (1,())) (
  cond (!(decide (v1=0))) (
   cond (decide (v3<0)) (
    some (5,())) (
    cond (decide ((v8.length:Int)≤v3)) (
     some (5,())) (
     cond (decide (v1=0)) (
      ((f234 v1 v2 v3 v4 v5 v6 v7 v8 (-1) v4 v5 v6)).bind fun y10=>
      some (y10.1,())) (
      cond (decide (v1=1)) (
       cond ((decide (0≤v3))&&(decide (v3<(v8.length:Int)))) (
        cond (decide ((rd ck v8 (Int.toNat v3)).2.2=1)) (
         some (11,())) (
         some (0,()))) (
        none)) (
       cond (decide (v1=2)) (
        cond ((decide (0≤v3))&&(decide (v3<(v8.length:Int)))) (
         ((f234 v1 v2 v3 v4 v5 v6 v7 v8 v3 (rd ck v8 (Int.toNat v3)).1 v5 (rd ck v8 (Int.toNat v3)).2.2)).bind fun y11=>
         cond (!(decide (y11.1=0))) (
          some (y11.1,())) (
          ((iter aA dw ((v7,(),(v7.length:Int),0,()),((v1,v2,v3,v4,v5,v6,v7,()),(v8,()),((rd ck v8 (Int.toNat v3)).1,v5,(rd ck v8 (Int.toNat v3)).2.2,()),((rd ck v8 (Int.toNat v3)).1,v5,(rd ck v8 (Int.toNat v3)).2.2,()),()),()))).bind fun r=>match r with
          | .inl y12=>
            some (0,())
          | .inr z13=>
            cond (decide (0≤z13.1.1)) (
             some (12,())) (
             some (0,())))) (
         none)) (
        cond (decide (v1=3)) (
         cond ((decide (0≤v3))&&(decide (v3<(v8.length:Int)))) (
          cond (decide ((rd ck v8 (Int.toNat v3)).2.2=0)) (
           some (12,())) (
           ((iter aA dy ((v7,(),(v7.length:Int),0,()),((v1,v2,v3,v4,v5,v6,v7,()),(v8,()),(0,0,0,()),()),()))).bind fun r=>match r with
           | .inl y14=>
             some (0,())
           | .inr z15=>
             cond (decide (0≤z15.1.1)) (
              some (12,())) (
              some (0,())))) (
          none)) (
         some (0,())))))))) (
   cond (decide (v1=0)) (
    ((f234 v1 v2 v3 v4 v5 v6 v7 v8 (-1) v4 v5 v6)).bind fun y16=>
    some (y16.1,())) (
    cond (decide (v1=1)) (
     cond ((decide (0≤v3))&&(decide (v3<(v8.length:Int)))) (
      cond (decide ((rd ck v8 (Int.toNat v3)).2.2=1)) (
       some (11,())) (
       some (0,()))) (
      none)) (
     cond (decide (v1=2)) (
      cond ((decide (0≤v3))&&(decide (v3<(v8.length:Int)))) (
       ((f234 v1 v2 v3 v4 v5 v6 v7 v8 v3 (rd ck v8 (Int.toNat v3)).1 v5 (rd ck v8 (Int.toNat v3)).2.2)).bind fun y17=>
       cond (!(decide (y17.1=0))) (
        some (y17.1,())) (
        ((iter aA dw ((v7,(),(v7.length:Int),0,()),((v1,v2,v3,v4,v5,v6,v7,()),(v8,()),((rd ck v8 (Int.toNat v3)).1,v5,(rd ck v8 (Int.toNat v3)).2.2,()),((rd ck v8 (Int.toNat v3)).1,v5,(rd ck v8 (Int.toNat v3)).2.2,()),()),()))).bind fun r=>match r with
        | .inl y18=>
          some (0,())
        | .inr z19=>
          cond (decide (0≤z19.1.1)) (
           some (12,())) (
           some (0,())))) (
       none)) (
      cond (decide (v1=3)) (
       cond ((decide (0≤v3))&&(decide (v3<(v8.length:Int)))) (
        cond (decide ((rd ck v8 (Int.toNat v3)).2.2=0)) (
         some (12,())) (
         ((iter aA dy ((v7,(),(v7.length:Int),0,()),((v1,v2,v3,v4,v5,v6,v7,()),(v8,()),(0,0,0,()),()),()))).bind fun r=>match r with
         | .inl y20=>
           some (0,())
         | .inr z21=>
           cond (decide (0≤z21.1.1)) (
            some (12,())) (
            some (0,())))) (
        none)) (
       some (0,())))))))
noncomputable def f201 (v1 v2 v3 v4 v5 v6:Int)(v7:aT)(v8:aP):Option Jb:=
 ((fC v8)).bind fun y9=>
 ((f214 v1 v2 v3 v4 v5 v6 v7 v8)).bind fun y10=>
 cond (!(decide (y10.1=0))) (
  some (y9.1,y10.1,())) (
  cond (decide (v1=0)) (
   cond ((decide (((y9.1.length+1) * 24)≤140737488355328))&&(decide ((y9.1.length+1)≤9223372036854775807))) (
    some ((y9.1++[(v4,v5,v6)]),0,())) (
    none)) (
   cond (decide (v1=1)) (
    cond ((decide (0≤v3))&&(decide (v3<(y9.1.length:Int)))) (
     cond (decide ((Int.toNat v3)<y9.1.length)) (
      some ((y9.1.set (Int.toNat v3) ((rd ck y9.1 (Int.toNat v3)).1,(rd ck y9.1 (Int.toNat v3)).2.1,1)),0,())) (
      none)) (
     none)) (
    cond (decide (v1=2)) (
     cond ((decide (0≤v3))&&(decide (v3<(y9.1.length:Int)))) (
      cond (decide ((Int.toNat v3)<y9.1.length)) (
       some ((y9.1.set (Int.toNat v3) ((rd ck y9.1 (Int.toNat v3)).1,v5,(rd ck y9.1 (Int.toNat v3)).2.2)),0,())) (
       none)) (
      none)) (
     cond ((((decide (0≤v3))&&(decide (v3≤(IntKind.wrap .i64 (v3+1)))))&&(decide ((IntKind.wrap .i64 (v3+1))≤(y9.1.length:Int))))&&(decide ((0+(y9.1.length:Int))≤(y9.1.length:Int)))) (
      cond (decide (v3=(IntKind.wrap .i64 (v3+1)))) (
       some (y9.1,0,())) (
       cond ((decide (0≤v3))&&(decide ((0+v3)≤(y9.1.length:Int)))) (
        cond (((decide (0≤(IntKind.wrap .i64 (v3+1))))&&(decide ((IntKind.wrap .i64 (v3+1))≤(((y9.1.length-0):Nat):Int))))&&(decide ((0+(((y9.1.length-0):Nat):Int))≤(y9.1.length:Int)))) (
         cond (decide (((0+(Int.toNat v3))+(List.drop (0+(Int.toNat (IntKind.wrap .i64 (v3+1)))) (List.take (0+(Int.toNat (((y9.1.length-0):Nat):Int))) y9.1)).length)≤y9.1.length)) (
          cond (((decide (0≤(((((0+(Int.toNat v3))+(List.drop (0+(Int.toNat (IntKind.wrap .i64 (v3+1)))) (List.take (0+(Int.toNat (((y9.1.length-0):Nat):Int))) y9.1)).length)-0):Nat):Int)))&&(decide ((((((0+(Int.toNat v3))+(List.drop (0+(Int.toNat (IntKind.wrap .i64 (v3+1)))) (List.take (0+(Int.toNat (((y9.1.length-0):Nat):Int))) y9.1)).length)-0):Nat):Int)≤(y9.1.length:Int))))&&(decide ((0+(y9.1.length:Int))≤(((((List.take (0+(Int.toNat v3)) y9.1)++(List.drop (0+(Int.toNat (IntKind.wrap .i64 (v3+1)))) (List.take (0+(Int.toNat (((y9.1.length-0):Nat):Int))) y9.1)))++(List.drop ((0+(Int.toNat v3))+(List.drop (0+(Int.toNat (IntKind.wrap .i64 (v3+1)))) (List.take (0+(Int.toNat (((y9.1.length-0):Nat):Int))) y9.1)).length) y9.1)).length:Nat):Int)))) (
           some ((List.drop 0 (List.take ((0+(Int.toNat v3))+(List.drop (0+(Int.toNat (IntKind.wrap .i64 (v3+1)))) (List.take (0+(Int.toNat (((y9.1.length-0):Nat):Int))) y9.1)).length) (((List.take (0+(Int.toNat (((((0+(Int.toNat v3))+(List.drop (0+(Int.toNat (IntKind.wrap .i64 (v3+1)))) (List.take (0+(Int.toNat (((y9.1.length-0):Nat):Int))) y9.1)).length)-0):Nat):Int))) (((List.take (0+(Int.toNat v3)) y9.1)++(List.drop (0+(Int.toNat (IntKind.wrap .i64 (v3+1)))) (List.take (0+(Int.toNat (((y9.1.length-0):Nat):Int))) y9.1)))++(List.drop ((0+(Int.toNat v3))+(List.drop (0+(Int.toNat (IntKind.wrap .i64 (v3+1)))) (List.take (0+(Int.toNat (((y9.1.length-0):Nat):Int))) y9.1)).length) y9.1)))++(List.replicate ((0+(Int.toNat (y9.1.length:Int)))-(0+(Int.toNat (((((0+(Int.toNat v3))+(List.drop (0+(Int.toNat (IntKind.wrap .i64 (v3+1)))) (List.take (0+(Int.toNat (((y9.1.length-0):Nat):Int))) y9.1)).length)-0):Nat):Int)))) (0,0,0)))++(List.drop ((0+(Int.toNat (((((0+(Int.toNat v3))+(List.drop (0+(Int.toNat (IntKind.wrap .i64 (v3+1)))) (List.take (0+(Int.toNat (((y9.1.length-0):Nat):Int))) y9.1)).length)-0):Nat):Int)))+((0+(Int.toNat (y9.1.length:Int)))-(0+(Int.toNat (((((0+(Int.toNat v3))+(List.drop (0+(Int.toNat (IntKind.wrap .i64 (v3+1)))) (List.take (0+(Int.toNat (((y9.1.length-0):Nat):Int))) y9.1)).length)-0):Nat):Int))))) (((List.take (0+(Int.toNat v3)) y9.1)++(List.drop (0+(Int.toNat (IntKind.wrap .i64 (v3+1)))) (List.take (0+(Int.toNat (((y9.1.length-0):Nat):Int))) y9.1)))++(List.drop ((0+(Int.toNat v3))+(List.drop (0+(Int.toNat (IntKind.wrap .i64 (v3+1)))) (List.take (0+(Int.toNat (((y9.1.length-0):Nat):Int))) y9.1)).length) y9.1)))))),0,())) (
           none)) (
          none)) (
         none)) (
        none))) (
      none)))))
noncomputable def f171 (v1:aP)(v2 v3 v4:Int):Option Jb:=
 ((f201 0 v2 0 v3 v4 0 [] v1)).bind fun y5=>
 some (y5.1,y5.2.1,())
noncomputable def f172 (v1:aP)(v2 v3:Int):Option Jb:=
 ((f201 1 v2 v3 0 0 0 [] v1)).bind fun y4=>
 some (y4.1,y4.2.1,())
noncomputable def f173 (v1:aP)(v2 v3 v4:Int)(v5:aT):Option Jb:=
 ((f201 2 v2 v3 0 v4 0 v5 v1)).bind fun y6=>
 some (y6.1,y6.2.1,())
noncomputable def f174 (v1:aP)(v2 v3:Int)(v4:aT):Option Jb:=
 ((f201 3 v2 v3 0 0 0 v4 v1)).bind fun y5=>
 some (y5.1,y5.2.1,())
noncomputable def f43 (v1 v2 v3 v4 v5 v6 v7 v8 v9 v10 v11:Int)(v12:Bool)(v13:Int)(v14:aP)(v15:bT)(v16:aP)(v17 v18 v19 v20 v21 v22 v23 v24:Int)(v25:Bool):Option (Ov×Int×Unit):=
 ((f11 v1 v2 v3 v4 v5 v6 v7 v8 v9 v10 v11 v12 v13 v14 v15 v16)).bind fun y26=>
 cond (!y26.1) (
  ((f42 v1 v2 v3 v4 v5 v6 v7 v8 v9 v10 v11 v12 v13 v14 v15 v16)).bind fun y27=>
  some ((((y27.1.1.1.1,y27.1.1.1.2),(y27.1.1.2.1.1,y27.1.1.2.1.2),y27.1.1.2.2.1,y27.1.1.2.2.2.1,y27.1.1.2.2.2.2.1,y27.1.1.2.2.2.2.2),(y27.1.2.1.1,y27.1.2.1.2.1,y27.1.2.1.2.2.1,y27.1.2.1.2.2.2),y27.1.2.2.1,y27.1.2.2.2.1,y27.1.2.2.2.2.1,y27.1.2.2.2.2.2),1,())) (
  ((f98 v17 v18 v19 v20 v21 v22 v23 v24 v25)).bind fun y28=>
  cond (!y28.1) (
   ((f42 v1 v2 v3 v4 v5 v6 v7 v8 v9 v10 v11 v12 v13 v14 v15 v16)).bind fun y29=>
   some ((((y29.1.1.1.1,y29.1.1.1.2),(y29.1.1.2.1.1,y29.1.1.2.1.2),y29.1.1.2.2.1,y29.1.1.2.2.2.1,y29.1.1.2.2.2.2.1,y29.1.1.2.2.2.2.2),(y29.1.2.1.1,y29.1.2.1.2.1,y29.1.2.1.2.2.1,y29.1.2.1.2.2.2),y29.1.2.2.1,y29.1.2.2.2.1,y29.1.2.2.2.2.1,y29.1.2.2.2.2.2),1,())) (
   ((f99 v1 v2 v3 v4 v5 v6 v7 v8 v9 v10 v11 v12 v13 v14 v15 v16 v18)).bind fun y30=>
   cond (!y30.2.1) (
    ((f42 v1 v2 v3 v4 v5 v6 v7 v8 v9 v10 v11 v12 v13 v14 v15 v16)).bind fun y31=>
    some ((((y31.1.1.1.1,y31.1.1.1.2),(y31.1.1.2.1.1,y31.1.1.2.1.2),y31.1.1.2.2.1,y31.1.1.2.2.2.1,y31.1.1.2.2.2.2.1,y31.1.1.2.2.2.2.2),(y31.1.2.1.1,y31.1.2.1.2.1,y31.1.2.1.2.2.1,y31.1.2.1.2.2.2),y31.1.2.2.1,y31.1.2.2.2.1,y31.1.2.2.2.2.1,y31.1.2.2.2.2.2),10,())) (
    cond (decide (v17=0)) (
     ((f167 y30.1.2.2.2.2.1 v19 v20 v21 v18 v18)).bind fun y32=>
     cond (!y32.2.1) (
      ((f42 v1 v2 v3 v4 v5 v6 v7 v8 v9 v10 v11 v12 v13 v14 v15 v16)).bind fun y33=>
      some ((((y33.1.1.1.1,y33.1.1.1.2),(y33.1.1.2.1.1,y33.1.1.2.1.2),y33.1.1.2.2.1,y33.1.1.2.2.2.1,y33.1.1.2.2.2.2.1,y33.1.1.2.2.2.2.2),(y33.1.2.1.1,y33.1.2.1.2.1,y33.1.2.1.2.2.1,y33.1.2.1.2.2.2),y33.1.2.2.1,y33.1.2.2.2.1,y33.1.2.2.2.2.1,y33.1.2.2.2.2.2),2,())) (
      ((f11 y30.1.1.1.1 y30.1.1.1.2 y30.1.1.2.1.1 y30.1.1.2.1.2 y30.1.1.2.2.1 y30.1.1.2.2.2.1 y30.1.1.2.2.2.2.1 y30.1.1.2.2.2.2.2 y30.1.2.1.1 y30.1.2.1.2.1 y30.1.2.1.2.2.1 y30.1.2.1.2.2.2 y30.1.2.2.1 y30.1.2.2.2.1 y32.1 y30.1.2.2.2.2.2)).bind fun y34=>
      cond (!y34.1) (
       ((f42 v1 v2 v3 v4 v5 v6 v7 v8 v9 v10 v11 v12 v13 v14 v15 v16)).bind fun y35=>
       some ((((y35.1.1.1.1,y35.1.1.1.2),(y35.1.1.2.1.1,y35.1.1.2.1.2),y35.1.1.2.2.1,y35.1.1.2.2.2.1,y35.1.1.2.2.2.2.1,y35.1.1.2.2.2.2.2),(y35.1.2.1.1,y35.1.2.1.2.1,y35.1.2.1.2.2.1,y35.1.2.1.2.2.2),y35.1.2.2.1,y35.1.2.2.2.1,y35.1.2.2.2.2.1,y35.1.2.2.2.2.2),2,())) (
       some ((((y30.1.1.1.1,y30.1.1.1.2),(y30.1.1.2.1.1,y30.1.1.2.1.2),y30.1.1.2.2.1,y30.1.1.2.2.2.1,y30.1.1.2.2.2.2.1,y30.1.1.2.2.2.2.2),(y30.1.2.1.1,y30.1.2.1.2.1,y30.1.2.1.2.2.1,y30.1.2.1.2.2.2),y30.1.2.2.1,y30.1.2.2.2.1,y32.1,y30.1.2.2.2.2.2),0,())))) (
     cond (decide (v17=1)) (
      ((f80 y30.1.2.2.2.2.1 v20 v21)).bind fun y36=>
      cond (decide (y36.1=(-1))) (
       ((f42 v1 v2 v3 v4 v5 v6 v7 v8 v9 v10 v11 v12 v13 v14 v15 v16)).bind fun y37=>
       some ((((y37.1.1.1.1,y37.1.1.1.2),(y37.1.1.2.1.1,y37.1.1.2.1.2),y37.1.1.2.2.1,y37.1.1.2.2.2.1,y37.1.1.2.2.2.2.1,y37.1.1.2.2.2.2.2),(y37.1.2.1.1,y37.1.2.1.2.1,y37.1.2.1.2.2.1,y37.1.2.1.2.2.2),y37.1.2.2.1,y37.1.2.2.2.1,y37.1.2.2.2.2.1,y37.1.2.2.2.2.2),2,())) (
       cond ((decide (0≤y36.1))&&(decide (y36.1<(y30.1.2.2.2.2.1.length:Int)))) (
        cond (!(decide ((rd cQ y30.1.2.2.2.2.1 (Int.toNat y36.1)).1=v19))) (
         ((f42 v1 v2 v3 v4 v5 v6 v7 v8 v9 v10 v11 v12 v13 v14 v15 v16)).bind fun y38=>
         some ((((y38.1.1.1.1,y38.1.1.1.2),(y38.1.1.2.1.1,y38.1.1.2.1.2),y38.1.1.2.2.1,y38.1.1.2.2.2.1,y38.1.1.2.2.2.2.1,y38.1.1.2.2.2.2.2),(y38.1.2.1.1,y38.1.2.1.2.1,y38.1.2.1.2.2.1,y38.1.2.1.2.2.2),y38.1.2.2.1,y38.1.2.2.2.1,y38.1.2.2.2.2.1,y38.1.2.2.2.2.2),2,())) (
         ((f168 y30.1.2.2.2.2.1 v20 v21)).bind fun y39=>
         cond (decide (0<y30.1.2.1.2.2.1)) (
          ((f169 y30.1.2.2.2.2.2 v20 v21 (IntKind.wrap .i64 (v18+y30.1.2.1.2.2.1)))).bind fun y40=>
          ((f11 y30.1.1.1.1 y30.1.1.1.2 y30.1.1.2.1.1 y30.1.1.2.1.2 y30.1.1.2.2.1 y30.1.1.2.2.2.1 y30.1.1.2.2.2.2.1 y30.1.1.2.2.2.2.2 y30.1.2.1.1 y30.1.2.1.2.1 y30.1.2.1.2.2.1 y30.1.2.1.2.2.2 y30.1.2.2.1 y30.1.2.2.2.1 y39.1 y40.1)).bind fun y41=>
          cond (!y41.1) (
           ((f42 v1 v2 v3 v4 v5 v6 v7 v8 v9 v10 v11 v12 v13 v14 v15 v16)).bind fun y42=>
           some ((((y42.1.1.1.1,y42.1.1.1.2),(y42.1.1.2.1.1,y42.1.1.2.1.2),y42.1.1.2.2.1,y42.1.1.2.2.2.1,y42.1.1.2.2.2.2.1,y42.1.1.2.2.2.2.2),(y42.1.2.1.1,y42.1.2.1.2.1,y42.1.2.1.2.2.1,y42.1.2.1.2.2.2),y42.1.2.2.1,y42.1.2.2.2.1,y42.1.2.2.2.2.1,y42.1.2.2.2.2.2),2,())) (
           some ((((y30.1.1.1.1,y30.1.1.1.2),(y30.1.1.2.1.1,y30.1.1.2.1.2),y30.1.1.2.2.1,y30.1.1.2.2.2.1,y30.1.1.2.2.2.2.1,y30.1.1.2.2.2.2.2),(y30.1.2.1.1,y30.1.2.1.2.1,y30.1.2.1.2.2.1,y30.1.2.1.2.2.2),y30.1.2.2.1,y30.1.2.2.2.1,y39.1,y40.1),0,()))) (
          ((f11 y30.1.1.1.1 y30.1.1.1.2 y30.1.1.2.1.1 y30.1.1.2.1.2 y30.1.1.2.2.1 y30.1.1.2.2.2.1 y30.1.1.2.2.2.2.1 y30.1.1.2.2.2.2.2 y30.1.2.1.1 y30.1.2.1.2.1 y30.1.2.1.2.2.1 y30.1.2.1.2.2.2 y30.1.2.2.1 y30.1.2.2.2.1 y39.1 y30.1.2.2.2.2.2)).bind fun y43=>
          cond (!y43.1) (
           ((f42 v1 v2 v3 v4 v5 v6 v7 v8 v9 v10 v11 v12 v13 v14 v15 v16)).bind fun y44=>
           some ((((y44.1.1.1.1,y44.1.1.1.2),(y44.1.1.2.1.1,y44.1.1.2.1.2),y44.1.1.2.2.1,y44.1.1.2.2.2.1,y44.1.1.2.2.2.2.1,y44.1.1.2.2.2.2.2),(y44.1.2.1.1,y44.1.2.1.2.1,y44.1.2.1.2.2.1,y44.1.2.1.2.2.2),y44.1.2.2.1,y44.1.2.2.2.1,y44.1.2.2.2.2.1,y44.1.2.2.2.2.2),2,())) (
           some ((((y30.1.1.1.1,y30.1.1.1.2),(y30.1.1.2.1.1,y30.1.1.2.1.2),y30.1.1.2.2.1,y30.1.1.2.2.2.1,y30.1.1.2.2.2.2.1,y30.1.1.2.2.2.2.2),(y30.1.2.1.1,y30.1.2.1.2.1,y30.1.2.1.2.2.1,y30.1.2.1.2.2.2),y30.1.2.2.1,y30.1.2.2.2.1,y39.1,y30.1.2.2.2.2.2),0,()))))) (
        none))) (
      cond (decide (v17=6)) (
       ((f11 y30.1.1.1.1 y30.1.1.1.2 y30.1.1.2.1.1 y30.1.1.2.1.2 y30.1.1.2.2.1 y30.1.1.2.2.2.1 y30.1.1.2.2.2.2.1 y30.1.1.2.2.2.2.2 v22 v23 v24 v25 y30.1.2.2.1 y30.1.2.2.2.1 y30.1.2.2.2.2.1 y30.1.2.2.2.2.2)).bind fun y45=>
       cond (!y45.1) (
        ((f42 v1 v2 v3 v4 v5 v6 v7 v8 v9 v10 v11 v12 v13 v14 v15 v16)).bind fun y46=>
        some ((((y46.1.1.1.1,y46.1.1.1.2),(y46.1.1.2.1.1,y46.1.1.2.1.2),y46.1.1.2.2.1,y46.1.1.2.2.2.1,y46.1.1.2.2.2.2.1,y46.1.1.2.2.2.2.2),(y46.1.2.1.1,y46.1.2.1.2.1,y46.1.2.1.2.2.1,y46.1.2.1.2.2.2),y46.1.2.2.1,y46.1.2.2.2.1,y46.1.2.2.2.2.1,y46.1.2.2.2.2.2),2,())) (
        some ((((y30.1.1.1.1,y30.1.1.1.2),(y30.1.1.2.1.1,y30.1.1.2.1.2),y30.1.1.2.2.1,y30.1.1.2.2.2.1,y30.1.1.2.2.2.2.1,y30.1.1.2.2.2.2.2),(v22,v23,v24,v25),y30.1.2.2.1,y30.1.2.2.2.1,y30.1.2.2.2.2.1,y30.1.2.2.2.2.2),0,()))) (
       ((f62 y30.1.1.2.1.1 y30.1.1.2.1.2)).bind fun y47=>
       ((f170 y30.1.2.2.2.2.1)).bind fun y48=>
       cond (decide (v17=2)) (
        ((f171 y30.1.2.2.2.1 y47.1 v19 v20)).bind fun y49=>
        cond (!(decide (y49.2.1=0))) (
         ((f42 v1 v2 v3 v4 v5 v6 v7 v8 v9 v10 v11 v12 v13 v14 v15 v16)).bind fun y50=>
         some ((((y50.1.1.1.1,y50.1.1.1.2),(y50.1.1.2.1.1,y50.1.1.2.1.2),y50.1.1.2.2.1,y50.1.1.2.2.2.1,y50.1.1.2.2.2.2.1,y50.1.1.2.2.2.2.2),(y50.1.2.1.1,y50.1.2.1.2.1,y50.1.2.1.2.2.1,y50.1.2.1.2.2.2),y50.1.2.2.1,y50.1.2.2.2.1,y50.1.2.2.2.2.1,y50.1.2.2.2.2.2),2,())) (
         ((f11 y30.1.1.1.1 y30.1.1.1.2 y30.1.1.2.1.1 y30.1.1.2.1.2 y30.1.1.2.2.1 y30.1.1.2.2.2.1 y30.1.1.2.2.2.2.1 y30.1.1.2.2.2.2.2 y30.1.2.1.1 y30.1.2.1.2.1 y30.1.2.1.2.2.1 y30.1.2.1.2.2.2 y30.1.2.2.1 y49.1 y30.1.2.2.2.2.1 y30.1.2.2.2.2.2)).bind fun y51=>
         cond (!y51.1) (
          ((f42 v1 v2 v3 v4 v5 v6 v7 v8 v9 v10 v11 v12 v13 v14 v15 v16)).bind fun y52=>
          some ((((y52.1.1.1.1,y52.1.1.1.2),(y52.1.1.2.1.1,y52.1.1.2.1.2),y52.1.1.2.2.1,y52.1.1.2.2.2.1,y52.1.1.2.2.2.2.1,y52.1.1.2.2.2.2.2),(y52.1.2.1.1,y52.1.2.1.2.1,y52.1.2.1.2.2.1,y52.1.2.1.2.2.2),y52.1.2.2.1,y52.1.2.2.2.1,y52.1.2.2.2.2.1,y52.1.2.2.2.2.2),2,())) (
          some ((((y30.1.1.1.1,y30.1.1.1.2),(y30.1.1.2.1.1,y30.1.1.2.1.2),y30.1.1.2.2.1,y30.1.1.2.2.2.1,y30.1.1.2.2.2.2.1,y30.1.1.2.2.2.2.2),(y30.1.2.1.1,y30.1.2.1.2.1,y30.1.2.1.2.2.1,y30.1.2.1.2.2.2),y30.1.2.2.1,y49.1,y30.1.2.2.2.2.1,y30.1.2.2.2.2.2),0,())))) (
        cond (decide (v17=3)) (
         ((f172 y30.1.2.2.2.1 y47.1 v19)).bind fun y53=>
         cond (!(decide (y53.2.1=0))) (
          ((f42 v1 v2 v3 v4 v5 v6 v7 v8 v9 v10 v11 v12 v13 v14 v15 v16)).bind fun y54=>
          some ((((y54.1.1.1.1,y54.1.1.1.2),(y54.1.1.2.1.1,y54.1.1.2.1.2),y54.1.1.2.2.1,y54.1.1.2.2.2.1,y54.1.1.2.2.2.2.1,y54.1.1.2.2.2.2.2),(y54.1.2.1.1,y54.1.2.1.2.1,y54.1.2.1.2.2.1,y54.1.2.1.2.2.2),y54.1.2.2.1,y54.1.2.2.2.1,y54.1.2.2.2.2.1,y54.1.2.2.2.2.2),2,())) (
          ((f11 y30.1.1.1.1 y30.1.1.1.2 y30.1.1.2.1.1 y30.1.1.2.1.2 y30.1.1.2.2.1 y30.1.1.2.2.2.1 y30.1.1.2.2.2.2.1 y30.1.1.2.2.2.2.2 y30.1.2.1.1 y30.1.2.1.2.1 y30.1.2.1.2.2.1 y30.1.2.1.2.2.2 y30.1.2.2.1 y53.1 y30.1.2.2.2.2.1 y30.1.2.2.2.2.2)).bind fun y55=>
          cond (!y55.1) (
           ((f42 v1 v2 v3 v4 v5 v6 v7 v8 v9 v10 v11 v12 v13 v14 v15 v16)).bind fun y56=>
           some ((((y56.1.1.1.1,y56.1.1.1.2),(y56.1.1.2.1.1,y56.1.1.2.1.2),y56.1.1.2.2.1,y56.1.1.2.2.2.1,y56.1.1.2.2.2.2.1,y56.1.1.2.2.2.2.2),(y56.1.2.1.1,y56.1.2.1.2.1,y56.1.2.1.2.2.1,y56.1.2.1.2.2.2),y56.1.2.2.1,y56.1.2.2.2.1,y56.1.2.2.2.2.1,y56.1.2.2.2.2.2),2,())) (
           some ((((y30.1.1.1.1,y30.1.1.1.2),(y30.1.1.2.1.1,y30.1.1.2.1.2),y30.1.1.2.2.1,y30.1.1.2.2.2.1,y30.1.1.2.2.2.2.1,y30.1.1.2.2.2.2.2),(y30.1.2.1.1,y30.1.2.1.2.1,y30.1.2.1.2.2.1,y30.1.2.1.2.2.2),y30.1.2.2.1,y53.1,y30.1.2.2.2.2.1,y30.1.2.2.2.2.2),0,())))) (
         cond (decide (v17=4)) (
          ((f173 y30.1.2.2.2.1 y47.1 v19 v20 y48.1)).bind fun y57=>
          cond (!(decide (y57.2.1=0))) (
           ((f42 v1 v2 v3 v4 v5 v6 v7 v8 v9 v10 v11 v12 v13 v14 v15 v16)).bind fun y58=>
           some ((((y58.1.1.1.1,y58.1.1.1.2),(y58.1.1.2.1.1,y58.1.1.2.1.2),y58.1.1.2.2.1,y58.1.1.2.2.2.1,y58.1.1.2.2.2.2.1,y58.1.1.2.2.2.2.2),(y58.1.2.1.1,y58.1.2.1.2.1,y58.1.2.1.2.2.1,y58.1.2.1.2.2.2),y58.1.2.2.1,y58.1.2.2.2.1,y58.1.2.2.2.2.1,y58.1.2.2.2.2.2),2,())) (
           ((f11 y30.1.1.1.1 y30.1.1.1.2 y30.1.1.2.1.1 y30.1.1.2.1.2 y30.1.1.2.2.1 y30.1.1.2.2.2.1 y30.1.1.2.2.2.2.1 y30.1.1.2.2.2.2.2 y30.1.2.1.1 y30.1.2.1.2.1 y30.1.2.1.2.2.1 y30.1.2.1.2.2.2 y30.1.2.2.1 y57.1 y30.1.2.2.2.2.1 y30.1.2.2.2.2.2)).bind fun y59=>
           cond (!y59.1) (
            ((f42 v1 v2 v3 v4 v5 v6 v7 v8 v9 v10 v11 v12 v13 v14 v15 v16)).bind fun y60=>
            some ((((y60.1.1.1.1,y60.1.1.1.2),(y60.1.1.2.1.1,y60.1.1.2.1.2),y60.1.1.2.2.1,y60.1.1.2.2.2.1,y60.1.1.2.2.2.2.1,y60.1.1.2.2.2.2.2),(y60.1.2.1.1,y60.1.2.1.2.1,y60.1.2.1.2.2.1,y60.1.2.1.2.2.2),y60.1.2.2.1,y60.1.2.2.2.1,y60.1.2.2.2.2.1,y60.1.2.2.2.2.2),2,())) (
            some ((((y30.1.1.1.1,y30.1.1.1.2),(y30.1.1.2.1.1,y30.1.1.2.1.2),y30.1.1.2.2.1,y30.1.1.2.2.2.1,y30.1.1.2.2.2.2.1,y30.1.1.2.2.2.2.2),(y30.1.2.1.1,y30.1.2.1.2.1,y30.1.2.1.2.2.1,y30.1.2.1.2.2.2),y30.1.2.2.1,y57.1,y30.1.2.2.2.2.1,y30.1.2.2.2.2.2),0,())))) (
          ((f174 y30.1.2.2.2.1 y47.1 v19 y48.1)).bind fun y61=>
          cond (!(decide (y61.2.1=0))) (
           ((f42 v1 v2 v3 v4 v5 v6 v7 v8 v9 v10 v11 v12 v13 v14 v15 v16)).bind fun y62=>
           some ((((y62.1.1.1.1,y62.1.1.1.2),(y62.1.1.2.1.1,y62.1.1.2.1.2),y62.1.1.2.2.1,y62.1.1.2.2.2.1,y62.1.1.2.2.2.2.1,y62.1.1.2.2.2.2.2),(y62.1.2.1.1,y62.1.2.1.2.1,y62.1.2.1.2.2.1,y62.1.2.1.2.2.2),y62.1.2.2.1,y62.1.2.2.2.1,y62.1.2.2.2.2.1,y62.1.2.2.2.2.2),2,())) (
           ((f11 y30.1.1.1.1 y30.1.1.1.2 y30.1.1.2.1.1 y30.1.1.2.1.2 y30.1.1.2.2.1 y30.1.1.2.2.2.1 y30.1.1.2.2.2.2.1 y30.1.1.2.2.2.2.2 y30.1.2.1.1 y30.1.2.1.2.1 y30.1.2.1.2.2.1 y30.1.2.1.2.2.2 y30.1.2.2.1 y61.1 y30.1.2.2.2.2.1 y30.1.2.2.2.2.2)).bind fun y63=>
           cond (!y63.1) (
            ((f42 v1 v2 v3 v4 v5 v6 v7 v8 v9 v10 v11 v12 v13 v14 v15 v16)).bind fun y64=>
            some ((((y64.1.1.1.1,y64.1.1.1.2),(y64.1.1.2.1.1,y64.1.1.2.1.2),y64.1.1.2.2.1,y64.1.1.2.2.2.1,y64.1.1.2.2.2.2.1,y64.1.1.2.2.2.2.2),(y64.1.2.1.1,y64.1.2.1.2.1,y64.1.2.1.2.2.1,y64.1.2.1.2.2.2),y64.1.2.2.1,y64.1.2.2.2.1,y64.1.2.2.2.2.1,y64.1.2.2.2.2.2),2,())) (
            some ((((y30.1.1.1.1,y30.1.1.1.2),(y30.1.1.2.1.1,y30.1.1.2.1.2),y30.1.1.2.2.1,y30.1.1.2.2.2.1,y30.1.1.2.2.2.2.1,y30.1.1.2.2.2.2.2),(y30.1.2.1.1,y30.1.2.1.2.1,y30.1.2.1.2.2.1,y30.1.2.1.2.2.2),y30.1.2.2.1,y61.1,y30.1.2.2.2.2.1,y30.1.2.2.2.2.2),0,()))))))))))))
abbrev Ow:Type:=(Unit×Unit×Unit×Int×vX×Int×Int×Unit)×(Tz×Pe×Tz×Unit)×aP×bT×aP×Unit
abbrev Sh:Type:=(Unit×Unit×Unit×Int×Unit)×(Tz×Pe×Tz×Unit)×aP×bT×aP×Unit
abbrev SE:Type:=Unit×Unit×Unit
noncomputable def GW (v1:Int)(v2:vX)(v3 v4 v5 v6 v7 v8 v9 v10 v11 v12 v13 v14 v15:Int)(v16:Bool)(v17:Int)(v18:aP)(v19:bT)(v20:aP)(v21 v22 v23 v24 v25 v26 v27 v28 v29 v30 v31:Int)(v32:Bool)(v33 v34 v35 v36 v37 v38 v39 v40 v41 v42 v43 v44:Int)(v45:Bool)(v46:Int)(v47:aP)(v48:bT)(v49 v50:aP)(v51:bT)(v52:aP):Option (R3 Ow Sh SE):=
 cond (decide (v4<v3)) (
  cond ((decide (0≤v4))&&(decide (v4<(v2.length:Int)))) (
   ((f43 v34 v35 v36 v37 v38 v39 v40 v41 v42 v43 v44 v45 v46 v47 v48 v49 (rd ff v2 (Int.toNat v4)).1 (rd ff v2 (Int.toNat v4)).2.1 (rd ff v2 (Int.toNat v4)).2.2.1 (rd ff v2 (Int.toNat v4)).2.2.2.1 (rd ff v2 (Int.toNat v4)).2.2.2.2.1 (rd ff v2 (Int.toNat v4)).2.2.2.2.2.1 (rd ff v2 (Int.toNat v4)).2.2.2.2.2.2.1 (rd ff v2 (Int.toNat v4)).2.2.2.2.2.2.2.1 (rd ff v2 (Int.toNat v4)).2.2.2.2.2.2.2.2)).bind fun y53=>
   cond (!(decide (y53.2.1=0))) (
    some (R3.out (((),(),(),y53.2.1,()),((v5,v6,v7,v8,v9,v10,v11,v12,v13,v14,v15,v16,v17,v18,v19,v20,()),(v21,v22,v23,v24,v25,v26,v27,v28,v29,v30,v31,v32,v33,(),(),(),()),(y53.1.1.1.1,y53.1.1.1.2,y53.1.1.2.1.1,y53.1.1.2.1.2,y53.1.1.2.2.1,y53.1.1.2.2.2.1,y53.1.1.2.2.2.2.1,y53.1.1.2.2.2.2.2,y53.1.2.1.1,y53.1.2.1.2.1,y53.1.2.1.2.2.1,y53.1.2.1.2.2.2,y53.1.2.2.1,y53.1.2.2.2.1,y53.1.2.2.2.2.1,y53.1.2.2.2.2.2,()),()),v50,v51,v52,()))) (
    some (R3.next (((),(),(),y53.2.1,v2,v3,(IntKind.wrap .i64 (v4+1)),()),((v5,v6,v7,v8,v9,v10,v11,v12,v13,v14,v15,v16,v17,v18,v19,v20,()),(v21,v22,v23,v24,v25,v26,v27,v28,v29,v30,v31,v32,v33,(),(),(),()),(y53.1.1.1.1,y53.1.1.1.2,y53.1.1.2.1.1,y53.1.1.2.1.2,y53.1.1.2.2.1,y53.1.1.2.2.2.1,y53.1.1.2.2.2.2.1,y53.1.1.2.2.2.2.2,y53.1.2.1.1,y53.1.2.1.2.1,y53.1.2.1.2.2.1,y53.1.2.1.2.2.2,y53.1.2.2.1,y53.1.2.2.2.1,y53.1.2.2.2.2.1,y53.1.2.2.2.2.2,()),()),v50,v51,v52,())))) (
   none)) (
  some (R3.out (((),(),(),v1,()),((v5,v6,v7,v8,v9,v10,v11,v12,v13,v14,v15,v16,v17,v18,v19,v20,()),(v21,v22,v23,v24,v25,v26,v27,v28,v29,v30,v31,v32,v33,(),(),(),()),(v34,v35,v36,v37,v38,v39,v40,v41,v42,v43,v44,v45,v46,v47,v48,v49,()),()),v50,v51,v52,())))
noncomputable def sC (z:Ow):Option (R3 Ow Sh SE):=GW z.1.2.2.2.1 z.1.2.2.2.2.1 z.1.2.2.2.2.2.1 z.1.2.2.2.2.2.2.1 z.2.1.1.1 z.2.1.1.2.1 z.2.1.1.2.2.1 z.2.1.1.2.2.2.1 z.2.1.1.2.2.2.2.1 z.2.1.1.2.2.2.2.2.1 z.2.1.1.2.2.2.2.2.2.1 z.2.1.1.2.2.2.2.2.2.2.1 z.2.1.1.2.2.2.2.2.2.2.2.1 z.2.1.1.2.2.2.2.2.2.2.2.2.1 z.2.1.1.2.2.2.2.2.2.2.2.2.2.1 z.2.1.1.2.2.2.2.2.2.2.2.2.2.2.1 z.2.1.1.2.2.2.2.2.2.2.2.2.2.2.2.1 z.2.1.1.2.2.2.2.2.2.2.2.2.2.2.2.2.1 z.2.1.1.2.2.2.2.2.2.2.2.2.2.2.2.2.2.1 z.2.1.1.2.2.2.2.2.2.2.2.2.2.2.2.2.2.2.1 z.2.1.2.1.1 z.2.1.2.1.2.1 z.2.1.2.1.2.2.1 z.2.1.2.1.2.2.2.1 z.2.1.2.1.2.2.2.2.1 z.2.1.2.1.2.2.2.2.2.1 z.2.1.2.1.2.2.2.2.2.2.1 z.2.1.2.1.2.2.2.2.2.2.2.1 z.2.1.2.1.2.2.2.2.2.2.2.2.1 z.2.1.2.1.2.2.2.2.2.2.2.2.2.1 z.2.1.2.1.2.2.2.2.2.2.2.2.2.2.1 z.2.1.2.1.2.2.2.2.2.2.2.2.2.2.2.1 z.2.1.2.1.2.2.2.2.2.2.2.2.2.2.2.2.1 z.2.1.2.2.1.1 z.2.1.2.2.1.2.1 z.2.1.2.2.1.2.2.1 z.2.1.2.2.1.2.2.2.1 z.2.1.2.2.1.2.2.2.2.1 z.2.1.2.2.1.2.2.2.2.2.1 z.2.1.2.2.1.2.2.2.2.2.2.1 z.2.1.2.2.1.2.2.2.2.2.2.2.1 z.2.1.2.2.1.2.2.2.2.2.2.2.2.1 z.2.1.2.2.1.2.2.2.2.2.2.2.2.2.1 z.2.1.2.2.1.2.2.2.2.2.2.2.2.2.2.1 z.2.1.2.2.1.2.2.2.2.2.2.2.2.2.2.2.1 z.2.1.2.2.1.2.2.2.2.2.2.2.2.2.2.2.2.1 z.2.1.2.2.1.2.2.2.2.2.2.2.2.2.2.2.2.2.1 z.2.1.2.2.1.2.2.2.2.2.2.2.2.2.2.2.2.2.2.1 z.2.1.2.2.1.2.2.2.2.2.2.2.2.2.2.2.2.2.2.2.1 z.2.2.1 z.2.2.2.1 z.2.2.2.2.1
noncomputable def f17 (v1 v2 v3 v4 v5 v6 v7 v8 v9 v10 v11:Int)(v12:Bool)(v13:Int)(v14:aP)(v15:bT)(v16:aP)(v17:vX):Option (Ov×Int×Unit):=
 ((f42 v1 v2 v3 v4 v5 v6 v7 v8 v9 v10 v11 v12 v13 v14 v15 v16)).bind fun y18=>
 ((iter aA sC (((),(),(),0,v17,(v17.length:Int),0,()),((v1,v2,v3,v4,v5,v6,v7,v8,v9,v10,v11,v12,v13,v14,v15,v16,()),(0,0,0,0,0,0,0,0,0,0,0,false,0,(),(),(),()),(y18.1.1.1.1,y18.1.1.1.2,y18.1.1.2.1.1,y18.1.1.2.1.2,y18.1.1.2.2.1,y18.1.1.2.2.2.1,y18.1.1.2.2.2.2.1,y18.1.1.2.2.2.2.2,y18.1.2.1.1,y18.1.2.1.2.1,y18.1.2.1.2.2.1,y18.1.2.1.2.2.2,y18.1.2.2.1,y18.1.2.2.2.1,y18.1.2.2.2.2.1,y18.1.2.2.2.2.2,()),()),[],[],[],()))).bind fun r=>match r with
 | .inl y19=>
   cond (!(decide (y19.1.2.2.2.1=0))) (
    ((f42 y19.2.1.1.1 y19.2.1.1.2.1 y19.2.1.1.2.2.1 y19.2.1.1.2.2.2.1 y19.2.1.1.2.2.2.2.1 y19.2.1.1.2.2.2.2.2.1 y19.2.1.1.2.2.2.2.2.2.1 y19.2.1.1.2.2.2.2.2.2.2.1 y19.2.1.1.2.2.2.2.2.2.2.2.1 y19.2.1.1.2.2.2.2.2.2.2.2.2.1 y19.2.1.1.2.2.2.2.2.2.2.2.2.2.1 y19.2.1.1.2.2.2.2.2.2.2.2.2.2.2.1 y19.2.1.1.2.2.2.2.2.2.2.2.2.2.2.2.1 y19.2.1.1.2.2.2.2.2.2.2.2.2.2.2.2.2.1 y19.2.1.1.2.2.2.2.2.2.2.2.2.2.2.2.2.2.1 y19.2.1.1.2.2.2.2.2.2.2.2.2.2.2.2.2.2.2.1)).bind fun y21=>
    some ((((y21.1.1.1.1,y21.1.1.1.2),(y21.1.1.2.1.1,y21.1.1.2.1.2),y21.1.1.2.2.1,y21.1.1.2.2.2.1,y21.1.1.2.2.2.2.1,y21.1.1.2.2.2.2.2),(y21.1.2.1.1,y21.1.2.1.2.1,y21.1.2.1.2.2.1,y21.1.2.1.2.2.2),y21.1.2.2.1,y21.1.2.2.2.1,y21.1.2.2.2.2.1,y21.1.2.2.2.2.2),y19.1.2.2.2.1,())) (
    some ((((y19.2.1.2.2.1.1,y19.2.1.2.2.1.2.1),(y19.2.1.2.2.1.2.2.1,y19.2.1.2.2.1.2.2.2.1),y19.2.1.2.2.1.2.2.2.2.1,y19.2.1.2.2.1.2.2.2.2.2.1,y19.2.1.2.2.1.2.2.2.2.2.2.1,y19.2.1.2.2.1.2.2.2.2.2.2.2.1),(y19.2.1.2.2.1.2.2.2.2.2.2.2.2.1,y19.2.1.2.2.1.2.2.2.2.2.2.2.2.2.1,y19.2.1.2.2.1.2.2.2.2.2.2.2.2.2.2.1,y19.2.1.2.2.1.2.2.2.2.2.2.2.2.2.2.2.1),y19.2.1.2.2.1.2.2.2.2.2.2.2.2.2.2.2.2.1,y19.2.1.2.2.1.2.2.2.2.2.2.2.2.2.2.2.2.2.1,y19.2.1.2.2.1.2.2.2.2.2.2.2.2.2.2.2.2.2.2.1,y19.2.1.2.2.1.2.2.2.2.2.2.2.2.2.2.2.2.2.2.2.1),0,()))
 | .inr z20=>
   none
abbrev A6:Type:=E8×((Unit×Unit×Unit×Unit×Unit×Unit×Unit×Unit)×(Int×aT×Int×Int×Int×Int×Int×Int×Int×Int×Bool×Bool×Unit)×Unit)×vX×Unit
abbrev OO:Type:=(Unit)×(Unit)×vX×Unit
abbrev Pb:Type:=bq×(Unit)×vX×Unit
noncomputable def MP (v1:Int)(v2:aT)(v3 v4 v5 v6 v7 v8 v9 v10:Int)(v11 v12:Bool)(v13:vX):Option (R3 A6 OO Pb):=
 cond (decide (0<(v2.length:Int))) (
  cond (decide ((v2.length:Int)=0)) (
   cond (decide ((v2.length:Int)=0)) (
    some (R3.ret ((false,()),(),[],()))) (
    cond (decide (0<(v2.length:Int))) (
     cond ((decide (1≤(v2.length:Int)))&&(decide ((v2.length:Int)≤(v2.length:Int)))) (
      some (R3.ret ((false,()),(),[],()))) (
      none)) (
     none))) (
   cond (decide (0<(v2.length:Int))) (
    cond ((decide (1≤(v2.length:Int)))&&(decide ((v2.length:Int)≤(v2.length:Int)))) (
     cond (decide (7≤(Int.tmod (rd aW v2 0) 16))) (
      some (R3.ret ((false,()),(),[],()))) (
      cond (decide ((Int.tmod (rd aW v2 0) 16)=0)) (
       cond (decide ((((List.drop 1 (List.take (Int.toNat (v2.length:Int)) v2)).length:Nat):Int)=0)) (
        some (R3.ret ((false,()),(),[],()))) (
        cond (decide (0<(((List.drop 1 (List.take (Int.toNat (v2.length:Int)) v2)).length:Nat):Int))) (
         cond ((decide (1≤(((List.drop 1 (List.take (Int.toNat (v2.length:Int)) v2)).length:Nat):Int)))&&(decide ((((List.drop 1 (List.take (Int.toNat (v2.length:Int)) v2)).length:Nat):Int)≤(((List.drop 1 (List.take (Int.toNat (v2.length:Int)) v2)).length:Nat):Int)))) (
          cond v12 (
           some (R3.ret ((false,()),(),[],()))) (
           ((f98 (Int.tmod (rd aW v2 0) 16) (IntKind.wrap .i64 (v1+(IntKind.wrap .i64 (Int.tdiv (rd aW v2 0) 16)))) (Int.fdiv (rd aW (List.drop 1 (List.take (Int.toNat (v2.length:Int)) v2)) 0) 32) (aG .and .i64 (Int.fdiv (rd aW (List.drop 1 (List.take (Int.toNat (v2.length:Int)) v2)) 0) 8) 3) (aG .and .i64 (rd aW (List.drop 1 (List.take (Int.toNat (v2.length:Int)) v2)) 0) 7) 0 0 0 false)).bind fun y14=>
           cond (!y14.1) (
            some (R3.ret ((false,()),(),[],()))) (
            cond ((decide (((v13.length+1) * 72)≤140737488355328))&&(decide ((v13.length+1)≤9223372036854775807))) (
             some (R3.next (((),(),()),(((),(),(),(),(),(),(),()),((IntKind.wrap .i64 (v1+(IntKind.wrap .i64 (Int.tdiv (rd aW v2 0) 16)))),(List.drop 1 (List.take (Int.toNat (((List.drop 1 (List.take (Int.toNat (v2.length:Int)) v2)).length:Nat):Int)) (List.drop 1 (List.take (Int.toNat (v2.length:Int)) v2)))),(Int.tmod (rd aW v2 0) 16),(IntKind.wrap .i64 (v1+(IntKind.wrap .i64 (Int.tdiv (rd aW v2 0) 16)))),(Int.fdiv (rd aW (List.drop 1 (List.take (Int.toNat (v2.length:Int)) v2)) 0) 32),(aG .and .i64 (Int.fdiv (rd aW (List.drop 1 (List.take (Int.toNat (v2.length:Int)) v2)) 0) 8) 3),(aG .and .i64 (rd aW (List.drop 1 (List.take (Int.toNat (v2.length:Int)) v2)) 0) 7),0,0,0,false,v12,()),()),(v13++[((Int.tmod (rd aW v2 0) 16),(IntKind.wrap .i64 (v1+(IntKind.wrap .i64 (Int.tdiv (rd aW v2 0) 16)))),(Int.fdiv (rd aW (List.drop 1 (List.take (Int.toNat (v2.length:Int)) v2)) 0) 32),(aG .and .i64 (Int.fdiv (rd aW (List.drop 1 (List.take (Int.toNat (v2.length:Int)) v2)) 0) 8) 3),(aG .and .i64 (rd aW (List.drop 1 (List.take (Int.toNat (v2.length:Int)) v2)) 0) 7),0,0,0,false)]),()))) (
             none)))) (
          none)) (
         none))) (
       cond (decide ((Int.tmod (rd aW v2 0) 16)=1)) (
        cond (decide ((((List.drop 1 (List.take (Int.toNat (v2.length:Int)) v2)).length:Nat):Int)=0)) (
         some (R3.ret ((false,()),(),[],()))) (
         cond (decide (0<(((List.drop 1 (List.take (Int.toNat (v2.length:Int)) v2)).length:Nat):Int))) (
          cond ((decide (1≤(((List.drop 1 (List.take (Int.toNat (v2.length:Int)) v2)).length:Nat):Int)))&&(decide ((((List.drop 1 (List.take (Int.toNat (v2.length:Int)) v2)).length:Nat):Int)≤(((List.drop 1 (List.take (Int.toNat (v2.length:Int)) v2)).length:Nat):Int)))) (
           cond v12 (
            some (R3.ret ((false,()),(),[],()))) (
            ((f98 (Int.tmod (rd aW v2 0) 16) (IntKind.wrap .i64 (v1+(IntKind.wrap .i64 (Int.tdiv (rd aW v2 0) 16)))) (Int.fdiv (rd aW (List.drop 1 (List.take (Int.toNat (v2.length:Int)) v2)) 0) 32) (aG .and .i64 (Int.fdiv (rd aW (List.drop 1 (List.take (Int.toNat (v2.length:Int)) v2)) 0) 8) 3) (aG .and .i64 (rd aW (List.drop 1 (List.take (Int.toNat (v2.length:Int)) v2)) 0) 7) 0 0 0 false)).bind fun y15=>
            cond (!y15.1) (
             some (R3.ret ((false,()),(),[],()))) (
             cond ((decide (((v13.length+1) * 72)≤140737488355328))&&(decide ((v13.length+1)≤9223372036854775807))) (
              some (R3.next (((),(),()),(((),(),(),(),(),(),(),()),((IntKind.wrap .i64 (v1+(IntKind.wrap .i64 (Int.tdiv (rd aW v2 0) 16)))),(List.drop 1 (List.take (Int.toNat (((List.drop 1 (List.take (Int.toNat (v2.length:Int)) v2)).length:Nat):Int)) (List.drop 1 (List.take (Int.toNat (v2.length:Int)) v2)))),(Int.tmod (rd aW v2 0) 16),(IntKind.wrap .i64 (v1+(IntKind.wrap .i64 (Int.tdiv (rd aW v2 0) 16)))),(Int.fdiv (rd aW (List.drop 1 (List.take (Int.toNat (v2.length:Int)) v2)) 0) 32),(aG .and .i64 (Int.fdiv (rd aW (List.drop 1 (List.take (Int.toNat (v2.length:Int)) v2)) 0) 8) 3),(aG .and .i64 (rd aW (List.drop 1 (List.take (Int.toNat (v2.length:Int)) v2)) 0) 7),0,0,0,false,v12,()),()),(v13++[((Int.tmod (rd aW v2 0) 16),(IntKind.wrap .i64 (v1+(IntKind.wrap .i64 (Int.tdiv (rd aW v2 0) 16)))),(Int.fdiv (rd aW (List.drop 1 (List.take (Int.toNat (v2.length:Int)) v2)) 0) 32),(aG .and .i64 (Int.fdiv (rd aW (List.drop 1 (List.take (Int.toNat (v2.length:Int)) v2)) 0) 8) 3),(aG .and .i64 (rd aW (List.drop 1 (List.take (Int.toNat (v2.length:Int)) v2)) 0) 7),0,0,0,false)]),()))) (
              none)))) (
           none)) (
          none))) (
        cond (decide ((Int.tmod (rd aW v2 0) 16)=2)) (
         cond (decide ((((List.drop 1 (List.take (Int.toNat (v2.length:Int)) v2)).length:Nat):Int)=0)) (
          some (R3.ret ((false,()),(),[],()))) (
          cond (decide (0<(((List.drop 1 (List.take (Int.toNat (v2.length:Int)) v2)).length:Nat):Int))) (
           cond ((decide (1≤(((List.drop 1 (List.take (Int.toNat (v2.length:Int)) v2)).length:Nat):Int)))&&(decide ((((List.drop 1 (List.take (Int.toNat (v2.length:Int)) v2)).length:Nat):Int)≤(((List.drop 1 (List.take (Int.toNat (v2.length:Int)) v2)).length:Nat):Int)))) (
            cond v12 (
             some (R3.ret ((false,()),(),[],()))) (
             ((f98 (Int.tmod (rd aW v2 0) 16) (IntKind.wrap .i64 (v1+(IntKind.wrap .i64 (Int.tdiv (rd aW v2 0) 16)))) (Int.fdiv (rd aW (List.drop 1 (List.take (Int.toNat (v2.length:Int)) v2)) 0) 8) (aG .and .i64 (rd aW (List.drop 1 (List.take (Int.toNat (v2.length:Int)) v2)) 0) 7) 0 0 0 0 false)).bind fun y16=>
             cond (!y16.1) (
              some (R3.ret ((false,()),(),[],()))) (
              cond ((decide (((v13.length+1) * 72)≤140737488355328))&&(decide ((v13.length+1)≤9223372036854775807))) (
               some (R3.next (((),(),()),(((),(),(),(),(),(),(),()),((IntKind.wrap .i64 (v1+(IntKind.wrap .i64 (Int.tdiv (rd aW v2 0) 16)))),(List.drop 1 (List.take (Int.toNat (((List.drop 1 (List.take (Int.toNat (v2.length:Int)) v2)).length:Nat):Int)) (List.drop 1 (List.take (Int.toNat (v2.length:Int)) v2)))),(Int.tmod (rd aW v2 0) 16),(IntKind.wrap .i64 (v1+(IntKind.wrap .i64 (Int.tdiv (rd aW v2 0) 16)))),(Int.fdiv (rd aW (List.drop 1 (List.take (Int.toNat (v2.length:Int)) v2)) 0) 8),(aG .and .i64 (rd aW (List.drop 1 (List.take (Int.toNat (v2.length:Int)) v2)) 0) 7),0,0,0,0,false,v12,()),()),(v13++[((Int.tmod (rd aW v2 0) 16),(IntKind.wrap .i64 (v1+(IntKind.wrap .i64 (Int.tdiv (rd aW v2 0) 16)))),(Int.fdiv (rd aW (List.drop 1 (List.take (Int.toNat (v2.length:Int)) v2)) 0) 8),(aG .and .i64 (rd aW (List.drop 1 (List.take (Int.toNat (v2.length:Int)) v2)) 0) 7),0,0,0,0,false)]),()))) (
               none)))) (
            none)) (
           none))) (
         cond (decide ((Int.tmod (rd aW v2 0) 16)=3)) (
          cond (decide ((((List.drop 1 (List.take (Int.toNat (v2.length:Int)) v2)).length:Nat):Int)=0)) (
           some (R3.ret ((false,()),(),[],()))) (
           cond (decide (0<(((List.drop 1 (List.take (Int.toNat (v2.length:Int)) v2)).length:Nat):Int))) (
            cond ((decide (1≤(((List.drop 1 (List.take (Int.toNat (v2.length:Int)) v2)).length:Nat):Int)))&&(decide ((((List.drop 1 (List.take (Int.toNat (v2.length:Int)) v2)).length:Nat):Int)≤(((List.drop 1 (List.take (Int.toNat (v2.length:Int)) v2)).length:Nat):Int)))) (
             cond v12 (
              some (R3.ret ((false,()),(),[],()))) (
              ((f98 (Int.tmod (rd aW v2 0) 16) (IntKind.wrap .i64 (v1+(IntKind.wrap .i64 (Int.tdiv (rd aW v2 0) 16)))) (rd aW (List.drop 1 (List.take (Int.toNat (v2.length:Int)) v2)) 0) 0 0 0 0 0 false)).bind fun y17=>
              cond (!y17.1) (
               some (R3.ret ((false,()),(),[],()))) (
               cond ((decide (((v13.length+1) * 72)≤140737488355328))&&(decide ((v13.length+1)≤9223372036854775807))) (
                some (R3.next (((),(),()),(((),(),(),(),(),(),(),()),((IntKind.wrap .i64 (v1+(IntKind.wrap .i64 (Int.tdiv (rd aW v2 0) 16)))),(List.drop 1 (List.take (Int.toNat (((List.drop 1 (List.take (Int.toNat (v2.length:Int)) v2)).length:Nat):Int)) (List.drop 1 (List.take (Int.toNat (v2.length:Int)) v2)))),(Int.tmod (rd aW v2 0) 16),(IntKind.wrap .i64 (v1+(IntKind.wrap .i64 (Int.tdiv (rd aW v2 0) 16)))),(rd aW (List.drop 1 (List.take (Int.toNat (v2.length:Int)) v2)) 0),0,0,0,0,0,false,v12,()),()),(v13++[((Int.tmod (rd aW v2 0) 16),(IntKind.wrap .i64 (v1+(IntKind.wrap .i64 (Int.tdiv (rd aW v2 0) 16)))),(rd aW (List.drop 1 (List.take (Int.toNat (v2.length:Int)) v2)) 0),0,0,0,0,0,false)]),()))) (
                none)))) (
             none)) (
            none))) (
          cond (decide ((Int.tmod (rd aW v2 0) 16)=4)) (
           cond (decide ((((List.drop 1 (List.take (Int.toNat (v2.length:Int)) v2)).length:Nat):Int)=0)) (
            some (R3.ret ((false,()),(),[],()))) (
            cond (decide (0<(((List.drop 1 (List.take (Int.toNat (v2.length:Int)) v2)).length:Nat):Int))) (
             cond ((decide (1≤(((List.drop 1 (List.take (Int.toNat (v2.length:Int)) v2)).length:Nat):Int)))&&(decide ((((List.drop 1 (List.take (Int.toNat (v2.length:Int)) v2)).length:Nat):Int)≤(((List.drop 1 (List.take (Int.toNat (v2.length:Int)) v2)).length:Nat):Int)))) (
              cond v12 (
               some (R3.ret ((false,()),(),[],()))) (
               ((f98 (Int.tmod (rd aW v2 0) 16) (IntKind.wrap .i64 (v1+(IntKind.wrap .i64 (Int.tdiv (rd aW v2 0) 16)))) (Int.fdiv (rd aW (List.drop 1 (List.take (Int.toNat (v2.length:Int)) v2)) 0) 8) (aG .and .i64 (rd aW (List.drop 1 (List.take (Int.toNat (v2.length:Int)) v2)) 0) 7) 0 0 0 0 false)).bind fun y18=>
               cond (!y18.1) (
                some (R3.ret ((false,()),(),[],()))) (
                cond ((decide (((v13.length+1) * 72)≤140737488355328))&&(decide ((v13.length+1)≤9223372036854775807))) (
                 some (R3.next (((),(),()),(((),(),(),(),(),(),(),()),((IntKind.wrap .i64 (v1+(IntKind.wrap .i64 (Int.tdiv (rd aW v2 0) 16)))),(List.drop 1 (List.take (Int.toNat (((List.drop 1 (List.take (Int.toNat (v2.length:Int)) v2)).length:Nat):Int)) (List.drop 1 (List.take (Int.toNat (v2.length:Int)) v2)))),(Int.tmod (rd aW v2 0) 16),(IntKind.wrap .i64 (v1+(IntKind.wrap .i64 (Int.tdiv (rd aW v2 0) 16)))),(Int.fdiv (rd aW (List.drop 1 (List.take (Int.toNat (v2.length:Int)) v2)) 0) 8),(aG .and .i64 (rd aW (List.drop 1 (List.take (Int.toNat (v2.length:Int)) v2)) 0) 7),0,0,0,0,false,v12,()),()),(v13++[((Int.tmod (rd aW v2 0) 16),(IntKind.wrap .i64 (v1+(IntKind.wrap .i64 (Int.tdiv (rd aW v2 0) 16)))),(Int.fdiv (rd aW (List.drop 1 (List.take (Int.toNat (v2.length:Int)) v2)) 0) 8),(aG .and .i64 (rd aW (List.drop 1 (List.take (Int.toNat (v2.length:Int)) v2)) 0) 7),0,0,0,0,false)]),()))) (
                 none)))) (
              none)) (
             none))) (
           cond (decide ((Int.tmod (rd aW v2 0) 16)=5)) (
            cond (decide ((((List.drop 1 (List.take (Int.toNat (v2.length:Int)) v2)).length:Nat):Int)=0)) (
             some (R3.ret ((false,()),(),[],()))) (
             cond (decide (0<(((List.drop 1 (List.take (Int.toNat (v2.length:Int)) v2)).length:Nat):Int))) (
              cond ((decide (1≤(((List.drop 1 (List.take (Int.toNat (v2.length:Int)) v2)).length:Nat):Int)))&&(decide ((((List.drop 1 (List.take (Int.toNat (v2.length:Int)) v2)).length:Nat):Int)≤(((List.drop 1 (List.take (Int.toNat (v2.length:Int)) v2)).length:Nat):Int)))) (
               cond v12 (
                some (R3.ret ((false,()),(),[],()))) (
                ((f98 (Int.tmod (rd aW v2 0) 16) (IntKind.wrap .i64 (v1+(IntKind.wrap .i64 (Int.tdiv (rd aW v2 0) 16)))) (rd aW (List.drop 1 (List.take (Int.toNat (v2.length:Int)) v2)) 0) 0 0 0 0 0 false)).bind fun y19=>
                cond (!y19.1) (
                 some (R3.ret ((false,()),(),[],()))) (
                 cond ((decide (((v13.length+1) * 72)≤140737488355328))&&(decide ((v13.length+1)≤9223372036854775807))) (
                  some (R3.next (((),(),()),(((),(),(),(),(),(),(),()),((IntKind.wrap .i64 (v1+(IntKind.wrap .i64 (Int.tdiv (rd aW v2 0) 16)))),(List.drop 1 (List.take (Int.toNat (((List.drop 1 (List.take (Int.toNat (v2.length:Int)) v2)).length:Nat):Int)) (List.drop 1 (List.take (Int.toNat (v2.length:Int)) v2)))),(Int.tmod (rd aW v2 0) 16),(IntKind.wrap .i64 (v1+(IntKind.wrap .i64 (Int.tdiv (rd aW v2 0) 16)))),(rd aW (List.drop 1 (List.take (Int.toNat (v2.length:Int)) v2)) 0),0,0,0,0,0,false,v12,()),()),(v13++[((Int.tmod (rd aW v2 0) 16),(IntKind.wrap .i64 (v1+(IntKind.wrap .i64 (Int.tdiv (rd aW v2 0) 16)))),(rd aW (List.drop 1 (List.take (Int.toNat (v2.length:Int)) v2)) 0),0,0,0,0,0,false)]),()))) (
                  none)))) (
               none)) (
              none))) (
            cond (decide ((Int.tmod (rd aW v2 0) 16)=6)) (
             cond (decide ((((List.drop 1 (List.take (Int.toNat (v2.length:Int)) v2)).length:Nat):Int)=0)) (
              cond (decide ((((List.drop 1 (List.take (Int.toNat (v2.length:Int)) v2)).length:Nat):Int)=0)) (
               cond (decide ((((List.drop 1 (List.take (Int.toNat (v2.length:Int)) v2)).length:Nat):Int)=0)) (
                cond (decide ((((List.drop 1 (List.take (Int.toNat (v2.length:Int)) v2)).length:Nat):Int)=0)) (
                 some (R3.ret ((false,()),(),[],()))) (
                 cond (decide (0<(((List.drop 1 (List.take (Int.toNat (v2.length:Int)) v2)).length:Nat):Int))) (
                  cond ((decide (1≤(((List.drop 1 (List.take (Int.toNat (v2.length:Int)) v2)).length:Nat):Int)))&&(decide ((((List.drop 1 (List.take (Int.toNat (v2.length:Int)) v2)).length:Nat):Int)≤(((List.drop 1 (List.take (Int.toNat (v2.length:Int)) v2)).length:Nat):Int)))) (
                   some (R3.ret ((false,()),(),[],()))) (
                   none)) (
                  none))) (
                cond (decide (0<(((List.drop 1 (List.take (Int.toNat (v2.length:Int)) v2)).length:Nat):Int))) (
                 cond ((decide (1≤(((List.drop 1 (List.take (Int.toNat (v2.length:Int)) v2)).length:Nat):Int)))&&(decide ((((List.drop 1 (List.take (Int.toNat (v2.length:Int)) v2)).length:Nat):Int)≤(((List.drop 1 (List.take (Int.toNat (v2.length:Int)) v2)).length:Nat):Int)))) (
                  cond (decide ((((List.drop 1 (List.take (Int.toNat (((List.drop 1 (List.take (Int.toNat (v2.length:Int)) v2)).length:Nat):Int)) (List.drop 1 (List.take (Int.toNat (v2.length:Int)) v2)))).length:Nat):Int)=0)) (
                   some (R3.ret ((false,()),(),[],()))) (
                   cond (decide (0<(((List.drop 1 (List.take (Int.toNat (((List.drop 1 (List.take (Int.toNat (v2.length:Int)) v2)).length:Nat):Int)) (List.drop 1 (List.take (Int.toNat (v2.length:Int)) v2)))).length:Nat):Int))) (
                    cond ((decide (1≤(((List.drop 1 (List.take (Int.toNat (((List.drop 1 (List.take (Int.toNat (v2.length:Int)) v2)).length:Nat):Int)) (List.drop 1 (List.take (Int.toNat (v2.length:Int)) v2)))).length:Nat):Int)))&&(decide ((((List.drop 1 (List.take (Int.toNat (((List.drop 1 (List.take (Int.toNat (v2.length:Int)) v2)).length:Nat):Int)) (List.drop 1 (List.take (Int.toNat (v2.length:Int)) v2)))).length:Nat):Int)≤(((List.drop 1 (List.take (Int.toNat (((List.drop 1 (List.take (Int.toNat (v2.length:Int)) v2)).length:Nat):Int)) (List.drop 1 (List.take (Int.toNat (v2.length:Int)) v2)))).length:Nat):Int)))) (
                     some (R3.ret ((false,()),(),[],()))) (
                     none)) (
                    none))) (
                  none)) (
                 none))) (
               cond (decide (0<(((List.drop 1 (List.take (Int.toNat (v2.length:Int)) v2)).length:Nat):Int))) (
                cond ((decide (1≤(((List.drop 1 (List.take (Int.toNat (v2.length:Int)) v2)).length:Nat):Int)))&&(decide ((((List.drop 1 (List.take (Int.toNat (v2.length:Int)) v2)).length:Nat):Int)≤(((List.drop 1 (List.take (Int.toNat (v2.length:Int)) v2)).length:Nat):Int)))) (
                 cond (decide ((((List.drop 1 (List.take (Int.toNat (((List.drop 1 (List.take (Int.toNat (v2.length:Int)) v2)).length:Nat):Int)) (List.drop 1 (List.take (Int.toNat (v2.length:Int)) v2)))).length:Nat):Int)=0)) (
                  cond (decide ((((List.drop 1 (List.take (Int.toNat (((List.drop 1 (List.take (Int.toNat (v2.length:Int)) v2)).length:Nat):Int)) (List.drop 1 (List.take (Int.toNat (v2.length:Int)) v2)))).length:Nat):Int)=0)) (
                   some (R3.ret ((false,()),(),[],()))) (
                   cond (decide (0<(((List.drop 1 (List.take (Int.toNat (((List.drop 1 (List.take (Int.toNat (v2.length:Int)) v2)).length:Nat):Int)) (List.drop 1 (List.take (Int.toNat (v2.length:Int)) v2)))).length:Nat):Int))) (
                    cond ((decide (1≤(((List.drop 1 (List.take (Int.toNat (((List.drop 1 (List.take (Int.toNat (v2.length:Int)) v2)).length:Nat):Int)) (List.drop 1 (List.take (Int.toNat (v2.length:Int)) v2)))).length:Nat):Int)))&&(decide ((((List.drop 1 (List.take (Int.toNat (((List.drop 1 (List.take (Int.toNat (v2.length:Int)) v2)).length:Nat):Int)) (List.drop 1 (List.take (Int.toNat (v2.length:Int)) v2)))).length:Nat):Int)≤(((List.drop 1 (List.take (Int.toNat (((List.drop 1 (List.take (Int.toNat (v2.length:Int)) v2)).length:Nat):Int)) (List.drop 1 (List.take (Int.toNat (v2.length:Int)) v2)))).length:Nat):Int)))) (
                     some (R3.ret ((false,()),(),[],()))) (
                     none)) (
                    none))) (
                  cond (decide (0<(((List.drop 1 (List.take (Int.toNat (((List.drop 1 (List.take (Int.toNat (v2.length:Int)) v2)).length:Nat):Int)) (List.drop 1 (List.take (Int.toNat (v2.length:Int)) v2)))).length:Nat):Int))) (
                   cond ((decide (1≤(((List.drop 1 (List.take (Int.toNat (((List.drop 1 (List.take (Int.toNat (v2.length:Int)) v2)).length:Nat):Int)) (List.drop 1 (List.take (Int.toNat (v2.length:Int)) v2)))).length:Nat):Int)))&&(decide ((((List.drop 1 (List.take (Int.toNat (((List.drop 1 (List.take (Int.toNat (v2.length:Int)) v2)).length:Nat):Int)) (List.drop 1 (List.take (Int.toNat (v2.length:Int)) v2)))).length:Nat):Int)≤(((List.drop 1 (List.take (Int.toNat (((List.drop 1 (List.take (Int.toNat (v2.length:Int)) v2)).length:Nat):Int)) (List.drop 1 (List.take (Int.toNat (v2.length:Int)) v2)))).length:Nat):Int)))) (
                    cond (decide ((((List.drop 1 (List.take (Int.toNat (((List.drop 1 (List.take (Int.toNat (((List.drop 1 (List.take (Int.toNat (v2.length:Int)) v2)).length:Nat):Int)) (List.drop 1 (List.take (Int.toNat (v2.length:Int)) v2)))).length:Nat):Int)) (List.drop 1 (List.take (Int.toNat (((List.drop 1 (List.take (Int.toNat (v2.length:Int)) v2)).length:Nat):Int)) (List.drop 1 (List.take (Int.toNat (v2.length:Int)) v2)))))).length:Nat):Int)=0)) (
                     some (R3.ret ((false,()),(),[],()))) (
                     cond (decide (0<(((List.drop 1 (List.take (Int.toNat (((List.drop 1 (List.take (Int.toNat (((List.drop 1 (List.take (Int.toNat (v2.length:Int)) v2)).length:Nat):Int)) (List.drop 1 (List.take (Int.toNat (v2.length:Int)) v2)))).length:Nat):Int)) (List.drop 1 (List.take (Int.toNat (((List.drop 1 (List.take (Int.toNat (v2.length:Int)) v2)).length:Nat):Int)) (List.drop 1 (List.take (Int.toNat (v2.length:Int)) v2)))))).length:Nat):Int))) (
                      cond ((decide (1≤(((List.drop 1 (List.take (Int.toNat (((List.drop 1 (List.take (Int.toNat (((List.drop 1 (List.take (Int.toNat (v2.length:Int)) v2)).length:Nat):Int)) (List.drop 1 (List.take (Int.toNat (v2.length:Int)) v2)))).length:Nat):Int)) (List.drop 1 (List.take (Int.toNat (((List.drop 1 (List.take (Int.toNat (v2.length:Int)) v2)).length:Nat):Int)) (List.drop 1 (List.take (Int.toNat (v2.length:Int)) v2)))))).length:Nat):Int)))&&(decide ((((List.drop 1 (List.take (Int.toNat (((List.drop 1 (List.take (Int.toNat (((List.drop 1 (List.take (Int.toNat (v2.length:Int)) v2)).length:Nat):Int)) (List.drop 1 (List.take (Int.toNat (v2.length:Int)) v2)))).length:Nat):Int)) (List.drop 1 (List.take (Int.toNat (((List.drop 1 (List.take (Int.toNat (v2.length:Int)) v2)).length:Nat):Int)) (List.drop 1 (List.take (Int.toNat (v2.length:Int)) v2)))))).length:Nat):Int)≤(((List.drop 1 (List.take (Int.toNat (((List.drop 1 (List.take (Int.toNat (((List.drop 1 (List.take (Int.toNat (v2.length:Int)) v2)).length:Nat):Int)) (List.drop 1 (List.take (Int.toNat (v2.length:Int)) v2)))).length:Nat):Int)) (List.drop 1 (List.take (Int.toNat (((List.drop 1 (List.take (Int.toNat (v2.length:Int)) v2)).length:Nat):Int)) (List.drop 1 (List.take (Int.toNat (v2.length:Int)) v2)))))).length:Nat):Int)))) (
                       some (R3.ret ((false,()),(),[],()))) (
                       none)) (
                      none))) (
                    none)) (
                   none))) (
                 none)) (
                none))) (
              cond (decide (0<(((List.drop 1 (List.take (Int.toNat (v2.length:Int)) v2)).length:Nat):Int))) (
               cond ((decide (1≤(((List.drop 1 (List.take (Int.toNat (v2.length:Int)) v2)).length:Nat):Int)))&&(decide ((((List.drop 1 (List.take (Int.toNat (v2.length:Int)) v2)).length:Nat):Int)≤(((List.drop 1 (List.take (Int.toNat (v2.length:Int)) v2)).length:Nat):Int)))) (
                cond (decide ((((List.drop 1 (List.take (Int.toNat (((List.drop 1 (List.take (Int.toNat (v2.length:Int)) v2)).length:Nat):Int)) (List.drop 1 (List.take (Int.toNat (v2.length:Int)) v2)))).length:Nat):Int)=0)) (
                 cond (decide ((((List.drop 1 (List.take (Int.toNat (((List.drop 1 (List.take (Int.toNat (v2.length:Int)) v2)).length:Nat):Int)) (List.drop 1 (List.take (Int.toNat (v2.length:Int)) v2)))).length:Nat):Int)=0)) (
                  cond (decide ((((List.drop 1 (List.take (Int.toNat (((List.drop 1 (List.take (Int.toNat (v2.length:Int)) v2)).length:Nat):Int)) (List.drop 1 (List.take (Int.toNat (v2.length:Int)) v2)))).length:Nat):Int)=0)) (
                   some (R3.ret ((false,()),(),[],()))) (
                   cond (decide (0<(((List.drop 1 (List.take (Int.toNat (((List.drop 1 (List.take (Int.toNat (v2.length:Int)) v2)).length:Nat):Int)) (List.drop 1 (List.take (Int.toNat (v2.length:Int)) v2)))).length:Nat):Int))) (
                    cond ((decide (1≤(((List.drop 1 (List.take (Int.toNat (((List.drop 1 (List.take (Int.toNat (v2.length:Int)) v2)).length:Nat):Int)) (List.drop 1 (List.take (Int.toNat (v2.length:Int)) v2)))).length:Nat):Int)))&&(decide ((((List.drop 1 (List.take (Int.toNat (((List.drop 1 (List.take (Int.toNat (v2.length:Int)) v2)).length:Nat):Int)) (List.drop 1 (List.take (Int.toNat (v2.length:Int)) v2)))).length:Nat):Int)≤(((List.drop 1 (List.take (Int.toNat (((List.drop 1 (List.take (Int.toNat (v2.length:Int)) v2)).length:Nat):Int)) (List.drop 1 (List.take (Int.toNat (v2.length:Int)) v2)))).length:Nat):Int)))) (
                     some (R3.ret ((false,()),(),[],()))) (
                     none)) (
                    none))) (
                  cond (decide (0<(((List.drop 1 (List.take (Int.toNat (((List.drop 1 (List.take (Int.toNat (v2.length:Int)) v2)).length:Nat):Int)) (List.drop 1 (List.take (Int.toNat (v2.length:Int)) v2)))).length:Nat):Int))) (
                   cond ((decide (1≤(((List.drop 1 (List.take (Int.toNat (((List.drop 1 (List.take (Int.toNat (v2.length:Int)) v2)).length:Nat):Int)) (List.drop 1 (List.take (Int.toNat (v2.length:Int)) v2)))).length:Nat):Int)))&&(decide ((((List.drop 1 (List.take (Int.toNat (((List.drop 1 (List.take (Int.toNat (v2.length:Int)) v2)).length:Nat):Int)) (List.drop 1 (List.take (Int.toNat (v2.length:Int)) v2)))).length:Nat):Int)≤(((List.drop 1 (List.take (Int.toNat (((List.drop 1 (List.take (Int.toNat (v2.length:Int)) v2)).length:Nat):Int)) (List.drop 1 (List.take (Int.toNat (v2.length:Int)) v2)))).length:Nat):Int)))) (
                    cond (decide ((((List.drop 1 (List.take (Int.toNat (((List.drop 1 (List.take (Int.toNat (((List.drop 1 (List.take (Int.toNat (v2.length:Int)) v2)).length:Nat):Int)) (List.drop 1 (List.take (Int.toNat (v2.length:Int)) v2)))).length:Nat):Int)) (List.drop 1 (List.take (Int.toNat (((List.drop 1 (List.take (Int.toNat (v2.length:Int)) v2)).length:Nat):Int)) (List.drop 1 (List.take (Int.toNat (v2.length:Int)) v2)))))).length:Nat):Int)=0)) (
                     some (R3.ret ((false,()),(),[],()))) (
                     cond (decide (0<(((List.drop 1 (List.take (Int.toNat (((List.drop 1 (List.take (Int.toNat (((List.drop 1 (List.take (Int.toNat (v2.length:Int)) v2)).length:Nat):Int)) (List.drop 1 (List.take (Int.toNat (v2.length:Int)) v2)))).length:Nat):Int)) (List.drop 1 (List.take (Int.toNat (((List.drop 1 (List.take (Int.toNat (v2.length:Int)) v2)).length:Nat):Int)) (List.drop 1 (List.take (Int.toNat (v2.length:Int)) v2)))))).length:Nat):Int))) (
                      cond ((decide (1≤(((List.drop 1 (List.take (Int.toNat (((List.drop 1 (List.take (Int.toNat (((List.drop 1 (List.take (Int.toNat (v2.length:Int)) v2)).length:Nat):Int)) (List.drop 1 (List.take (Int.toNat (v2.length:Int)) v2)))).length:Nat):Int)) (List.drop 1 (List.take (Int.toNat (((List.drop 1 (List.take (Int.toNat (v2.length:Int)) v2)).length:Nat):Int)) (List.drop 1 (List.take (Int.toNat (v2.length:Int)) v2)))))).length:Nat):Int)))&&(decide ((((List.drop 1 (List.take (Int.toNat (((List.drop 1 (List.take (Int.toNat (((List.drop 1 (List.take (Int.toNat (v2.length:Int)) v2)).length:Nat):Int)) (List.drop 1 (List.take (Int.toNat (v2.length:Int)) v2)))).length:Nat):Int)) (List.drop 1 (List.take (Int.toNat (((List.drop 1 (List.take (Int.toNat (v2.length:Int)) v2)).length:Nat):Int)) (List.drop 1 (List.take (Int.toNat (v2.length:Int)) v2)))))).length:Nat):Int)≤(((List.drop 1 (List.take (Int.toNat (((List.drop 1 (List.take (Int.toNat (((List.drop 1 (List.take (Int.toNat (v2.length:Int)) v2)).length:Nat):Int)) (List.drop 1 (List.take (Int.toNat (v2.length:Int)) v2)))).length:Nat):Int)) (List.drop 1 (List.take (Int.toNat (((List.drop 1 (List.take (Int.toNat (v2.length:Int)) v2)).length:Nat):Int)) (List.drop 1 (List.take (Int.toNat (v2.length:Int)) v2)))))).length:Nat):Int)))) (
                       some (R3.ret ((false,()),(),[],()))) (
                       none)) (
                      none))) (
                    none)) (
                   none))) (
                 cond (decide (0<(((List.drop 1 (List.take (Int.toNat (((List.drop 1 (List.take (Int.toNat (v2.length:Int)) v2)).length:Nat):Int)) (List.drop 1 (List.take (Int.toNat (v2.length:Int)) v2)))).length:Nat):Int))) (
                  cond ((decide (1≤(((List.drop 1 (List.take (Int.toNat (((List.drop 1 (List.take (Int.toNat (v2.length:Int)) v2)).length:Nat):Int)) (List.drop 1 (List.take (Int.toNat (v2.length:Int)) v2)))).length:Nat):Int)))&&(decide ((((List.drop 1 (List.take (Int.toNat (((List.drop 1 (List.take (Int.toNat (v2.length:Int)) v2)).length:Nat):Int)) (List.drop 1 (List.take (Int.toNat (v2.length:Int)) v2)))).length:Nat):Int)≤(((List.drop 1 (List.take (Int.toNat (((List.drop 1 (List.take (Int.toNat (v2.length:Int)) v2)).length:Nat):Int)) (List.drop 1 (List.take (Int.toNat (v2.length:Int)) v2)))).length:Nat):Int)))) (
                   cond (decide ((((List.drop 1 (List.take (Int.toNat (((List.drop 1 (List.take (Int.toNat (((List.drop 1 (List.take (Int.toNat (v2.length:Int)) v2)).length:Nat):Int)) (List.drop 1 (List.take (Int.toNat (v2.length:Int)) v2)))).length:Nat):Int)) (List.drop 1 (List.take (Int.toNat (((List.drop 1 (List.take (Int.toNat (v2.length:Int)) v2)).length:Nat):Int)) (List.drop 1 (List.take (Int.toNat (v2.length:Int)) v2)))))).length:Nat):Int)=0)) (
                    cond (decide ((((List.drop 1 (List.take (Int.toNat (((List.drop 1 (List.take (Int.toNat (((List.drop 1 (List.take (Int.toNat (v2.length:Int)) v2)).length:Nat):Int)) (List.drop 1 (List.take (Int.toNat (v2.length:Int)) v2)))).length:Nat):Int)) (List.drop 1 (List.take (Int.toNat (((List.drop 1 (List.take (Int.toNat (v2.length:Int)) v2)).length:Nat):Int)) (List.drop 1 (List.take (Int.toNat (v2.length:Int)) v2)))))).length:Nat):Int)=0)) (
                     some (R3.ret ((false,()),(),[],()))) (
                     cond (decide (0<(((List.drop 1 (List.take (Int.toNat (((List.drop 1 (List.take (Int.toNat (((List.drop 1 (List.take (Int.toNat (v2.length:Int)) v2)).length:Nat):Int)) (List.drop 1 (List.take (Int.toNat (v2.length:Int)) v2)))).length:Nat):Int)) (List.drop 1 (List.take (Int.toNat (((List.drop 1 (List.take (Int.toNat (v2.length:Int)) v2)).length:Nat):Int)) (List.drop 1 (List.take (Int.toNat (v2.length:Int)) v2)))))).length:Nat):Int))) (
                      cond ((decide (1≤(((List.drop 1 (List.take (Int.toNat (((List.drop 1 (List.take (Int.toNat (((List.drop 1 (List.take (Int.toNat (v2.length:Int)) v2)).length:Nat):Int)) (List.drop 1 (List.take (Int.toNat (v2.length:Int)) v2)))).length:Nat):Int)) (List.drop 1 (List.take (Int.toNat (((List.drop 1 (List.take (Int.toNat (v2.length:Int)) v2)).length:Nat):Int)) (List.drop 1 (List.take (Int.toNat (v2.length:Int)) v2)))))).length:Nat):Int)))&&(decide ((((List.drop 1 (List.take (Int.toNat (((List.drop 1 (List.take (Int.toNat (((List.drop 1 (List.take (Int.toNat (v2.length:Int)) v2)).length:Nat):Int)) (List.drop 1 (List.take (Int.toNat (v2.length:Int)) v2)))).length:Nat):Int)) (List.drop 1 (List.take (Int.toNat (((List.drop 1 (List.take (Int.toNat (v2.length:Int)) v2)).length:Nat):Int)) (List.drop 1 (List.take (Int.toNat (v2.length:Int)) v2)))))).length:Nat):Int)≤(((List.drop 1 (List.take (Int.toNat (((List.drop 1 (List.take (Int.toNat (((List.drop 1 (List.take (Int.toNat (v2.length:Int)) v2)).length:Nat):Int)) (List.drop 1 (List.take (Int.toNat (v2.length:Int)) v2)))).length:Nat):Int)) (List.drop 1 (List.take (Int.toNat (((List.drop 1 (List.take (Int.toNat (v2.length:Int)) v2)).length:Nat):Int)) (List.drop 1 (List.take (Int.toNat (v2.length:Int)) v2)))))).length:Nat):Int)))) (
                       some (R3.ret ((false,()),(),[],()))) (
                       none)) (
                      none))) (
                    cond (decide (0<(((List.drop 1 (List.take (Int.toNat (((List.drop 1 (List.take (Int.toNat (((List.drop 1 (List.take (Int.toNat (v2.length:Int)) v2)).length:Nat):Int)) (List.drop 1 (List.take (Int.toNat (v2.length:Int)) v2)))).length:Nat):Int)) (List.drop 1 (List.take (Int.toNat (((List.drop 1 (List.take (Int.toNat (v2.length:Int)) v2)).length:Nat):Int)) (List.drop 1 (List.take (Int.toNat (v2.length:Int)) v2)))))).length:Nat):Int))) (
                     cond ((decide (1≤(((List.drop 1 (List.take (Int.toNat (((List.drop 1 (List.take (Int.toNat (((List.drop 1 (List.take (Int.toNat (v2.length:Int)) v2)).length:Nat):Int)) (List.drop 1 (List.take (Int.toNat (v2.length:Int)) v2)))).length:Nat):Int)) (List.drop 1 (List.take (Int.toNat (((List.drop 1 (List.take (Int.toNat (v2.length:Int)) v2)).length:Nat):Int)) (List.drop 1 (List.take (Int.toNat (v2.length:Int)) v2)))))).length:Nat):Int)))&&(decide ((((List.drop 1 (List.take (Int.toNat (((List.drop 1 (List.take (Int.toNat (((List.drop 1 (List.take (Int.toNat (v2.length:Int)) v2)).length:Nat):Int)) (List.drop 1 (List.take (Int.toNat (v2.length:Int)) v2)))).length:Nat):Int)) (List.drop 1 (List.take (Int.toNat (((List.drop 1 (List.take (Int.toNat (v2.length:Int)) v2)).length:Nat):Int)) (List.drop 1 (List.take (Int.toNat (v2.length:Int)) v2)))))).length:Nat):Int)≤(((List.drop 1 (List.take (Int.toNat (((List.drop 1 (List.take (Int.toNat (((List.drop 1 (List.take (Int.toNat (v2.length:Int)) v2)).length:Nat):Int)) (List.drop 1 (List.take (Int.toNat (v2.length:Int)) v2)))).length:Nat):Int)) (List.drop 1 (List.take (Int.toNat (((List.drop 1 (List.take (Int.toNat (v2.length:Int)) v2)).length:Nat):Int)) (List.drop 1 (List.take (Int.toNat (v2.length:Int)) v2)))))).length:Nat):Int)))) (
                      cond (decide ((((List.drop 1 (List.take (Int.toNat (((List.drop 1 (List.take (Int.toNat (((List.drop 1 (List.take (Int.toNat (((List.drop 1 (List.take (Int.toNat (v2.length:Int)) v2)).length:Nat):Int)) (List.drop 1 (List.take (Int.toNat (v2.length:Int)) v2)))).length:Nat):Int)) (List.drop 1 (List.take (Int.toNat (((List.drop 1 (List.take (Int.toNat (v2.length:Int)) v2)).length:Nat):Int)) (List.drop 1 (List.take (Int.toNat (v2.length:Int)) v2)))))).length:Nat):Int)) (List.drop 1 (List.take (Int.toNat (((List.drop 1 (List.take (Int.toNat (((List.drop 1 (List.take (Int.toNat (v2.length:Int)) v2)).length:Nat):Int)) (List.drop 1 (List.take (Int.toNat (v2.length:Int)) v2)))).length:Nat):Int)) (List.drop 1 (List.take (Int.toNat (((List.drop 1 (List.take (Int.toNat (v2.length:Int)) v2)).length:Nat):Int)) (List.drop 1 (List.take (Int.toNat (v2.length:Int)) v2)))))))).length:Nat):Int)=0)) (
                       some (R3.ret ((false,()),(),[],()))) (
                       cond (decide (0<(((List.drop 1 (List.take (Int.toNat (((List.drop 1 (List.take (Int.toNat (((List.drop 1 (List.take (Int.toNat (((List.drop 1 (List.take (Int.toNat (v2.length:Int)) v2)).length:Nat):Int)) (List.drop 1 (List.take (Int.toNat (v2.length:Int)) v2)))).length:Nat):Int)) (List.drop 1 (List.take (Int.toNat (((List.drop 1 (List.take (Int.toNat (v2.length:Int)) v2)).length:Nat):Int)) (List.drop 1 (List.take (Int.toNat (v2.length:Int)) v2)))))).length:Nat):Int)) (List.drop 1 (List.take (Int.toNat (((List.drop 1 (List.take (Int.toNat (((List.drop 1 (List.take (Int.toNat (v2.length:Int)) v2)).length:Nat):Int)) (List.drop 1 (List.take (Int.toNat (v2.length:Int)) v2)))).length:Nat):Int)) (List.drop 1 (List.take (Int.toNat (((List.drop 1 (List.take (Int.toNat (v2.length:Int)) v2)).length:Nat):Int)) (List.drop 1 (List.take (Int.toNat (v2.length:Int)) v2)))))))).length:Nat):Int))) (
                        cond ((decide (1≤(((List.drop 1 (List.take (Int.toNat (((List.drop 1 (List.take (Int.toNat (((List.drop 1 (List.take (Int.toNat (((List.drop 1 (List.take (Int.toNat (v2.length:Int)) v2)).length:Nat):Int)) (List.drop 1 (List.take (Int.toNat (v2.length:Int)) v2)))).length:Nat):Int)) (List.drop 1 (List.take (Int.toNat (((List.drop 1 (List.take (Int.toNat (v2.length:Int)) v2)).length:Nat):Int)) (List.drop 1 (List.take (Int.toNat (v2.length:Int)) v2)))))).length:Nat):Int)) (List.drop 1 (List.take (Int.toNat (((List.drop 1 (List.take (Int.toNat (((List.drop 1 (List.take (Int.toNat (v2.length:Int)) v2)).length:Nat):Int)) (List.drop 1 (List.take (Int.toNat (v2.length:Int)) v2)))).length:Nat):Int)) (List.drop 1 (List.take (Int.toNat (((List.drop 1 (List.take (Int.toNat (v2.length:Int)) v2)).length:Nat):Int)) (List.drop 1 (List.take (Int.toNat (v2.length:Int)) v2)))))))).length:Nat):Int)))&&(decide ((((List.drop 1 (List.take (Int.toNat (((List.drop 1 (List.take (Int.toNat (((List.drop 1 (List.take (Int.toNat (((List.drop 1 (List.take (Int.toNat (v2.length:Int)) v2)).length:Nat):Int)) (List.drop 1 (List.take (Int.toNat (v2.length:Int)) v2)))).length:Nat):Int)) (List.drop 1 (List.take (Int.toNat (((List.drop 1 (List.take (Int.toNat (v2.length:Int)) v2)).length:Nat):Int)) (List.drop 1 (List.take (Int.toNat (v2.length:Int)) v2)))))).length:Nat):Int)) (List.drop 1 (List.take (Int.toNat (((List.drop 1 (List.take (Int.toNat (((List.drop 1 (List.take (Int.toNat (v2.length:Int)) v2)).length:Nat):Int)) (List.drop 1 (List.take (Int.toNat (v2.length:Int)) v2)))).length:Nat):Int)) (List.drop 1 (List.take (Int.toNat (((List.drop 1 (List.take (Int.toNat (v2.length:Int)) v2)).length:Nat):Int)) (List.drop 1 (List.take (Int.toNat (v2.length:Int)) v2)))))))).length:Nat):Int)≤(((List.drop 1 (List.take (Int.toNat (((List.drop 1 (List.take (Int.toNat (((List.drop 1 (List.take (Int.toNat (((List.drop 1 (List.take (Int.toNat (v2.length:Int)) v2)).length:Nat):Int)) (List.drop 1 (List.take (Int.toNat (v2.length:Int)) v2)))).length:Nat):Int)) (List.drop 1 (List.take (Int.toNat (((List.drop 1 (List.take (Int.toNat (v2.length:Int)) v2)).length:Nat):Int)) (List.drop 1 (List.take (Int.toNat (v2.length:Int)) v2)))))).length:Nat):Int)) (List.drop 1 (List.take (Int.toNat (((List.drop 1 (List.take (Int.toNat (((List.drop 1 (List.take (Int.toNat (v2.length:Int)) v2)).length:Nat):Int)) (List.drop 1 (List.take (Int.toNat (v2.length:Int)) v2)))).length:Nat):Int)) (List.drop 1 (List.take (Int.toNat (((List.drop 1 (List.take (Int.toNat (v2.length:Int)) v2)).length:Nat):Int)) (List.drop 1 (List.take (Int.toNat (v2.length:Int)) v2)))))))).length:Nat):Int)))) (
                         cond v12 (
                          some (R3.ret ((false,()),(),[],()))) (
                          cond (decide (1<(rd aW (List.drop 1 (List.take (Int.toNat (((List.drop 1 (List.take (Int.toNat (((List.drop 1 (List.take (Int.toNat (((List.drop 1 (List.take (Int.toNat (v2.length:Int)) v2)).length:Nat):Int)) (List.drop 1 (List.take (Int.toNat (v2.length:Int)) v2)))).length:Nat):Int)) (List.drop 1 (List.take (Int.toNat (((List.drop 1 (List.take (Int.toNat (v2.length:Int)) v2)).length:Nat):Int)) (List.drop 1 (List.take (Int.toNat (v2.length:Int)) v2)))))).length:Nat):Int)) (List.drop 1 (List.take (Int.toNat (((List.drop 1 (List.take (Int.toNat (((List.drop 1 (List.take (Int.toNat (v2.length:Int)) v2)).length:Nat):Int)) (List.drop 1 (List.take (Int.toNat (v2.length:Int)) v2)))).length:Nat):Int)) (List.drop 1 (List.take (Int.toNat (((List.drop 1 (List.take (Int.toNat (v2.length:Int)) v2)).length:Nat):Int)) (List.drop 1 (List.take (Int.toNat (v2.length:Int)) v2)))))))) 0))) (
                           some (R3.ret ((false,()),(),[],()))) (
                           ((f98 (Int.tmod (rd aW v2 0) 16) (IntKind.wrap .i64 (v1+(IntKind.wrap .i64 (Int.tdiv (rd aW v2 0) 16)))) 0 0 0 (rd aW (List.drop 1 (List.take (Int.toNat (v2.length:Int)) v2)) 0) (rd aW (List.drop 1 (List.take (Int.toNat (((List.drop 1 (List.take (Int.toNat (v2.length:Int)) v2)).length:Nat):Int)) (List.drop 1 (List.take (Int.toNat (v2.length:Int)) v2)))) 0) (rd aW (List.drop 1 (List.take (Int.toNat (((List.drop 1 (List.take (Int.toNat (((List.drop 1 (List.take (Int.toNat (v2.length:Int)) v2)).length:Nat):Int)) (List.drop 1 (List.take (Int.toNat (v2.length:Int)) v2)))).length:Nat):Int)) (List.drop 1 (List.take (Int.toNat (((List.drop 1 (List.take (Int.toNat (v2.length:Int)) v2)).length:Nat):Int)) (List.drop 1 (List.take (Int.toNat (v2.length:Int)) v2)))))) 0) (decide ((rd aW (List.drop 1 (List.take (Int.toNat (((List.drop 1 (List.take (Int.toNat (((List.drop 1 (List.take (Int.toNat (((List.drop 1 (List.take (Int.toNat (v2.length:Int)) v2)).length:Nat):Int)) (List.drop 1 (List.take (Int.toNat (v2.length:Int)) v2)))).length:Nat):Int)) (List.drop 1 (List.take (Int.toNat (((List.drop 1 (List.take (Int.toNat (v2.length:Int)) v2)).length:Nat):Int)) (List.drop 1 (List.take (Int.toNat (v2.length:Int)) v2)))))).length:Nat):Int)) (List.drop 1 (List.take (Int.toNat (((List.drop 1 (List.take (Int.toNat (((List.drop 1 (List.take (Int.toNat (v2.length:Int)) v2)).length:Nat):Int)) (List.drop 1 (List.take (Int.toNat (v2.length:Int)) v2)))).length:Nat):Int)) (List.drop 1 (List.take (Int.toNat (((List.drop 1 (List.take (Int.toNat (v2.length:Int)) v2)).length:Nat):Int)) (List.drop 1 (List.take (Int.toNat (v2.length:Int)) v2)))))))) 0)=1)))).bind fun y20=>
                           cond (!y20.1) (
                            some (R3.ret ((false,()),(),[],()))) (
                            cond ((decide (((v13.length+1) * 72)≤140737488355328))&&(decide ((v13.length+1)≤9223372036854775807))) (
                             some (R3.next (((),(),()),(((),(),(),(),(),(),(),()),((IntKind.wrap .i64 (v1+(IntKind.wrap .i64 (Int.tdiv (rd aW v2 0) 16)))),(List.drop 1 (List.take (Int.toNat (((List.drop 1 (List.take (Int.toNat (((List.drop 1 (List.take (Int.toNat (((List.drop 1 (List.take (Int.toNat (((List.drop 1 (List.take (Int.toNat (v2.length:Int)) v2)).length:Nat):Int)) (List.drop 1 (List.take (Int.toNat (v2.length:Int)) v2)))).length:Nat):Int)) (List.drop 1 (List.take (Int.toNat (((List.drop 1 (List.take (Int.toNat (v2.length:Int)) v2)).length:Nat):Int)) (List.drop 1 (List.take (Int.toNat (v2.length:Int)) v2)))))).length:Nat):Int)) (List.drop 1 (List.take (Int.toNat (((List.drop 1 (List.take (Int.toNat (((List.drop 1 (List.take (Int.toNat (v2.length:Int)) v2)).length:Nat):Int)) (List.drop 1 (List.take (Int.toNat (v2.length:Int)) v2)))).length:Nat):Int)) (List.drop 1 (List.take (Int.toNat (((List.drop 1 (List.take (Int.toNat (v2.length:Int)) v2)).length:Nat):Int)) (List.drop 1 (List.take (Int.toNat (v2.length:Int)) v2)))))))).length:Nat):Int)) (List.drop 1 (List.take (Int.toNat (((List.drop 1 (List.take (Int.toNat (((List.drop 1 (List.take (Int.toNat (((List.drop 1 (List.take (Int.toNat (v2.length:Int)) v2)).length:Nat):Int)) (List.drop 1 (List.take (Int.toNat (v2.length:Int)) v2)))).length:Nat):Int)) (List.drop 1 (List.take (Int.toNat (((List.drop 1 (List.take (Int.toNat (v2.length:Int)) v2)).length:Nat):Int)) (List.drop 1 (List.take (Int.toNat (v2.length:Int)) v2)))))).length:Nat):Int)) (List.drop 1 (List.take (Int.toNat (((List.drop 1 (List.take (Int.toNat (((List.drop 1 (List.take (Int.toNat (v2.length:Int)) v2)).length:Nat):Int)) (List.drop 1 (List.take (Int.toNat (v2.length:Int)) v2)))).length:Nat):Int)) (List.drop 1 (List.take (Int.toNat (((List.drop 1 (List.take (Int.toNat (v2.length:Int)) v2)).length:Nat):Int)) (List.drop 1 (List.take (Int.toNat (v2.length:Int)) v2)))))))))),(Int.tmod (rd aW v2 0) 16),(IntKind.wrap .i64 (v1+(IntKind.wrap .i64 (Int.tdiv (rd aW v2 0) 16)))),0,0,0,(rd aW (List.drop 1 (List.take (Int.toNat (v2.length:Int)) v2)) 0),(rd aW (List.drop 1 (List.take (Int.toNat (((List.drop 1 (List.take (Int.toNat (v2.length:Int)) v2)).length:Nat):Int)) (List.drop 1 (List.take (Int.toNat (v2.length:Int)) v2)))) 0),(rd aW (List.drop 1 (List.take (Int.toNat (((List.drop 1 (List.take (Int.toNat (((List.drop 1 (List.take (Int.toNat (v2.length:Int)) v2)).length:Nat):Int)) (List.drop 1 (List.take (Int.toNat (v2.length:Int)) v2)))).length:Nat):Int)) (List.drop 1 (List.take (Int.toNat (((List.drop 1 (List.take (Int.toNat (v2.length:Int)) v2)).length:Nat):Int)) (List.drop 1 (List.take (Int.toNat (v2.length:Int)) v2)))))) 0),(decide ((rd aW (List.drop 1 (List.take (Int.toNat (((List.drop 1 (List.take (Int.toNat (((List.drop 1 (List.take (Int.toNat (((List.drop 1 (List.take (Int.toNat (v2.length:Int)) v2)).length:Nat):Int)) (List.drop 1 (List.take (Int.toNat (v2.length:Int)) v2)))).length:Nat):Int)) (List.drop 1 (List.take (Int.toNat (((List.drop 1 (List.take (Int.toNat (v2.length:Int)) v2)).length:Nat):Int)) (List.drop 1 (List.take (Int.toNat (v2.length:Int)) v2)))))).length:Nat):Int)) (List.drop 1 (List.take (Int.toNat (((List.drop 1 (List.take (Int.toNat (((List.drop 1 (List.take (Int.toNat (v2.length:Int)) v2)).length:Nat):Int)) (List.drop 1 (List.take (Int.toNat (v2.length:Int)) v2)))).length:Nat):Int)) (List.drop 1 (List.take (Int.toNat (((List.drop 1 (List.take (Int.toNat (v2.length:Int)) v2)).length:Nat):Int)) (List.drop 1 (List.take (Int.toNat (v2.length:Int)) v2)))))))) 0)=1)),(decide (1<(rd aW (List.drop 1 (List.take (Int.toNat (((List.drop 1 (List.take (Int.toNat (((List.drop 1 (List.take (Int.toNat (((List.drop 1 (List.take (Int.toNat (v2.length:Int)) v2)).length:Nat):Int)) (List.drop 1 (List.take (Int.toNat (v2.length:Int)) v2)))).length:Nat):Int)) (List.drop 1 (List.take (Int.toNat (((List.drop 1 (List.take (Int.toNat (v2.length:Int)) v2)).length:Nat):Int)) (List.drop 1 (List.take (Int.toNat (v2.length:Int)) v2)))))).length:Nat):Int)) (List.drop 1 (List.take (Int.toNat (((List.drop 1 (List.take (Int.toNat (((List.drop 1 (List.take (Int.toNat (v2.length:Int)) v2)).length:Nat):Int)) (List.drop 1 (List.take (Int.toNat (v2.length:Int)) v2)))).length:Nat):Int)) (List.drop 1 (List.take (Int.toNat (((List.drop 1 (List.take (Int.toNat (v2.length:Int)) v2)).length:Nat):Int)) (List.drop 1 (List.take (Int.toNat (v2.length:Int)) v2)))))))) 0))),()),()),(v13++[((Int.tmod (rd aW v2 0) 16),(IntKind.wrap .i64 (v1+(IntKind.wrap .i64 (Int.tdiv (rd aW v2 0) 16)))),0,0,0,(rd aW (List.drop 1 (List.take (Int.toNat (v2.length:Int)) v2)) 0),(rd aW (List.drop 1 (List.take (Int.toNat (((List.drop 1 (List.take (Int.toNat (v2.length:Int)) v2)).length:Nat):Int)) (List.drop 1 (List.take (Int.toNat (v2.length:Int)) v2)))) 0),(rd aW (List.drop 1 (List.take (Int.toNat (((List.drop 1 (List.take (Int.toNat (((List.drop 1 (List.take (Int.toNat (v2.length:Int)) v2)).length:Nat):Int)) (List.drop 1 (List.take (Int.toNat (v2.length:Int)) v2)))).length:Nat):Int)) (List.drop 1 (List.take (Int.toNat (((List.drop 1 (List.take (Int.toNat (v2.length:Int)) v2)).length:Nat):Int)) (List.drop 1 (List.take (Int.toNat (v2.length:Int)) v2)))))) 0),(decide ((rd aW (List.drop 1 (List.take (Int.toNat (((List.drop 1 (List.take (Int.toNat (((List.drop 1 (List.take (Int.toNat (((List.drop 1 (List.take (Int.toNat (v2.length:Int)) v2)).length:Nat):Int)) (List.drop 1 (List.take (Int.toNat (v2.length:Int)) v2)))).length:Nat):Int)) (List.drop 1 (List.take (Int.toNat (((List.drop 1 (List.take (Int.toNat (v2.length:Int)) v2)).length:Nat):Int)) (List.drop 1 (List.take (Int.toNat (v2.length:Int)) v2)))))).length:Nat):Int)) (List.drop 1 (List.take (Int.toNat (((List.drop 1 (List.take (Int.toNat (((List.drop 1 (List.take (Int.toNat (v2.length:Int)) v2)).length:Nat):Int)) (List.drop 1 (List.take (Int.toNat (v2.length:Int)) v2)))).length:Nat):Int)) (List.drop 1 (List.take (Int.toNat (((List.drop 1 (List.take (Int.toNat (v2.length:Int)) v2)).length:Nat):Int)) (List.drop 1 (List.take (Int.toNat (v2.length:Int)) v2)))))))) 0)=1)))]),()))) (
                             none))))) (
                         none)) (
                        none))) (
                      none)) (
                     none))) (
                   none)) (
                  none))) (
                none)) (
               none))) (
             none))))))))) (
     none)) (
    none))) (
  some (R3.out ((),(),v13,())))
noncomputable def q8 (z:A6):Option (R3 A6 OO Pb):=MP z.2.1.2.1.1 z.2.1.2.1.2.1 z.2.1.2.1.2.2.1 z.2.1.2.1.2.2.2.1 z.2.1.2.1.2.2.2.2.1 z.2.1.2.1.2.2.2.2.2.1 z.2.1.2.1.2.2.2.2.2.2.1 z.2.1.2.1.2.2.2.2.2.2.2.1 z.2.1.2.1.2.2.2.2.2.2.2.2.1 z.2.1.2.1.2.2.2.2.2.2.2.2.2.1 z.2.1.2.1.2.2.2.2.2.2.2.2.2.2.1 z.2.1.2.1.2.2.2.2.2.2.2.2.2.2.2.1 z.2.2.1
noncomputable def f111 (v1:Int)(v2:aT):Option (vX×Bool×Unit):=
 ((f91 v2)).bind fun y3=>
 cond (!y3.2.1) (
  some ([],false,())) (
  ((f104 v1 0 1073741824)).bind fun y4=>
  cond (!y4.1) (
   some ([],false,())) (
   ((iter aA q8 (((),(),()),(((),(),(),(),(),(),(),()),(v1,y3.1,0,0,0,0,0,0,0,0,false,false,()),()),[],()))).bind fun r=>match r with
   | .inl y5=>
     some (y5.2.2.1,true,())
   | .inr z6=>
     some (z6.2.2.1,z6.1.1,())))
abbrev di:Type:=(Unit×Unit×Unit×Unit)×(Wt×Tz×CS×rM×sZ×CS×YP×CS×Unit)×aP×bT×aP×vX×Unit
abbrev sM:Type:=Unit×(Unit×Unit×Unit×Unit×Unit×Unit×Unit×Unit)×Unit
abbrev iK:Type:=(Unit)×(Wt×Tz×CS×rM×sZ×CS×YP×Unit)×aP×bT×aP×vX×Unit
noncomputable def sy (v1 v2 v3 v4 v5 v6 v7 v8 v9 v10 v11:Int)(v12:Bool)(v13 v14 v15 v16 v17 v18 v19 v20 v21 v22 v23 v24 v25 v26:Int)(v27:Bool)(v28:Int)(v29:aP)(v30:bT)(v31:aP)(v32 v33 v34 v35 v36 v37 v38 v39 v40 v41 v42:Int)(v43:Bool)(v44:Int)(v45:aP)(v46:bT)(v47:aP)(v48 v49:Int)(v50:aT)(v51 v52 v53 v54 v55 v56 v57 v58 v59 v60 v61:Int)(v62:Bool)(v63:Int)(v64:aP)(v65:bT)(v66:aP)(v67 v68 v69 v70 v71 v72 v73 v74 v75 v76 v77 v78 v79:Int)(v80:Bool)(v81:Int)(v82:aP)(v83:bT)(v84:aP)(v85 v86:Int)(v87:aP)(v88:bT)(v89:aP)(v90:vX):Option (R3 di sM iK):=
 ((f40 v50 v86)).bind fun y91=>
 cond (!(decide (y91.2.2.1=0))) (
  some (R3.ret ((),((v1,v2,v3,v4,v5,v6,v7,v8,v9,v10,v11,v12,v13,(),(),(),v14,v15,()),(v16,v17,v18,v19,v20,v21,v22,v23,v24,v25,v26,v27,v28,v29,v30,v31,()),(v32,v33,v34,v35,v36,v37,v38,v39,v40,v41,v42,v43,v44,v45,v46,v47,v48,v49,()),((),()),(v50,()),(v51,v52,v53,v54,v55,v56,v57,v58,v59,v60,v61,v62,v63,v64,v65,v66,v67,v68,()),((),(),(),(),(),(),(),(),(),(),(),(),(),(),(),(),(),(),(),(),(),(),(),(),(),(),(),(),(),(),(),(),(),(),(),(),(),()),()),v87,v88,v89,v90,()))) (
  cond (!(decide (y91.1.1=2))) (
   some (R3.ret ((),((v1,v2,v3,v4,v5,v6,v7,v8,v9,v10,v11,v12,v13,(),(),(),v14,v15,()),(v16,v17,v18,v19,v20,v21,v22,v23,v24,v25,v26,v27,v28,v29,v30,v31,()),(v32,v33,v34,v35,v36,v37,v38,v39,v40,v41,v42,v43,v44,v45,v46,v47,v48,v49,()),((),()),(v50,()),(v51,v52,v53,v54,v55,v56,v57,v58,v59,v60,v61,v62,v63,v64,v65,v66,v67,v68,()),((),(),(),(),(),(),(),(),(),(),(),(),(),(),(),(),(),(),(),(),(),(),(),(),(),(),(),(),(),(),(),(),(),(),(),(),(),()),()),v87,v88,v89,v90,()))) (
   ((f111 v85 y91.1.2)).bind fun y92=>
   ((f17 v69 v70 v71 v72 v73 v74 v75 v76 v77 v78 v79 v80 v81 v82 v83 v84 y92.1)).bind fun y93=>
   cond (!y92.2.1) (
    some (R3.ret ((),((v1,v2,v3,v4,v5,v6,v7,v8,v9,v10,v11,v12,v13,(),(),(),v14,v15,()),(v16,v17,v18,v19,v20,v21,v22,v23,v24,v25,v26,v27,v28,v29,v30,v31,()),(v32,v33,v34,v35,v36,v37,v38,v39,v40,v41,v42,v43,v44,v45,v46,v47,v48,v49,()),((),()),(v50,()),(v51,v52,v53,v54,v55,v56,v57,v58,v59,v60,v61,v62,v63,v64,v65,v66,v67,v68,()),((),(),(),(),(),(),(),(),(),(),(),(),(),(),(),(),(),(),(),(),(),(),(),(),(),(),(),(),(),(),(),(),(),(),(),(),(),()),()),v87,v88,v89,v90,()))) (
    cond (!(decide (y93.2.1=0))) (
     some (R3.ret ((),((v1,v2,v3,v4,v5,v6,v7,v8,v9,v10,v11,v12,v13,(),(),(),v14,v15,()),(v16,v17,v18,v19,v20,v21,v22,v23,v24,v25,v26,v27,v28,v29,v30,v31,()),(v32,v33,v34,v35,v36,v37,v38,v39,v40,v41,v42,v43,v44,v45,v46,v47,v48,v49,()),((),()),(v50,()),(v51,v52,v53,v54,v55,v56,v57,v58,v59,v60,v61,v62,v63,v64,v65,v66,v67,v68,()),((),(),(),(),(),(),(),(),(),(),(),(),(),(),(),(),(),(),(),(),(),(),(),(),(),(),(),(),(),(),(),(),(),(),(),(),(),()),()),v87,v88,v89,v90,()))) (
     cond (decide (0<(y92.1.length:Int))) (
      cond ((decide (0≤(IntKind.wrap .i64 ((y92.1.length:Int)-1))))&&(decide ((IntKind.wrap .i64 ((y92.1.length:Int)-1))<(y92.1.length:Int)))) (
       cond ((decide (((v90.length+y92.1.length) * 72)≤140737488355328))&&(decide ((v90.length+y92.1.length)≤9223372036854775807))) (
        some (R3.next (((),(),(),()),((v1,v2,v3,v4,v5,v6,v7,v8,v9,v10,v11,v12,v13,(),(),(),v14,v15,()),(v16,v17,v18,v19,v20,v21,v22,v23,v24,v25,v26,v27,v28,v29,v30,v31,()),(y93.1.1.1.1,y93.1.1.1.2,y93.1.1.2.1.1,y93.1.1.2.1.2,y93.1.1.2.2.1,y93.1.1.2.2.2.1,y93.1.1.2.2.2.2.1,y93.1.1.2.2.2.2.2,y93.1.2.1.1,y93.1.2.1.2.1,y93.1.2.1.2.2.1,y93.1.2.1.2.2.2,y93.1.2.2.1,y93.1.2.2.2.1,y93.1.2.2.2.2.1,y93.1.2.2.2.2.2,(rd ff y92.1 (Int.toNat (IntKind.wrap .i64 ((y92.1.length:Int)-1)))).2.1,y91.2.1,()),((),()),(v50,()),(v51,v52,v53,v54,v55,v56,v57,v58,v59,v60,v61,v62,v63,v64,v65,v66,v67,v68,()),((),(),(),(),(),(),(),(),(),(),(),(),(),(),(),(),(),(),(),(),(),(),(),(),(),(),(),(),(),(),(),(),(),(),(),(),(),()),(y93.1.1.1.1,y93.1.1.1.2,y93.1.1.2.1.1,y93.1.1.2.1.2,y93.1.1.2.2.1,y93.1.1.2.2.2.1,y93.1.1.2.2.2.2.1,y93.1.1.2.2.2.2.2,y93.1.2.1.1,y93.1.2.1.2.1,y93.1.2.1.2.2.1,y93.1.2.1.2.2.2,y93.1.2.2.1,y93.1.2.2.2.1,y93.1.2.2.2.2.1,y93.1.2.2.2.2.2,(rd ff y92.1 (Int.toNat (IntKind.wrap .i64 ((y92.1.length:Int)-1)))).2.1,y91.2.1,()),()),v87,v88,v89,(v90++y92.1),()))) (
        none)) (
       none)) (
      cond ((decide (((v90.length+y92.1.length) * 72)≤140737488355328))&&(decide ((v90.length+y92.1.length)≤9223372036854775807))) (
       some (R3.next (((),(),(),()),((v1,v2,v3,v4,v5,v6,v7,v8,v9,v10,v11,v12,v13,(),(),(),v14,v15,()),(v16,v17,v18,v19,v20,v21,v22,v23,v24,v25,v26,v27,v28,v29,v30,v31,()),(y93.1.1.1.1,y93.1.1.1.2,y93.1.1.2.1.1,y93.1.1.2.1.2,y93.1.1.2.2.1,y93.1.1.2.2.2.1,y93.1.1.2.2.2.2.1,y93.1.1.2.2.2.2.2,y93.1.2.1.1,y93.1.2.1.2.1,y93.1.2.1.2.2.1,y93.1.2.1.2.2.2,y93.1.2.2.1,y93.1.2.2.2.1,y93.1.2.2.2.2.1,y93.1.2.2.2.2.2,v85,y91.2.1,()),((),()),(v50,()),(v51,v52,v53,v54,v55,v56,v57,v58,v59,v60,v61,v62,v63,v64,v65,v66,v67,v68,()),((),(),(),(),(),(),(),(),(),(),(),(),(),(),(),(),(),(),(),(),(),(),(),(),(),(),(),(),(),(),(),(),(),(),(),(),(),()),(y93.1.1.1.1,y93.1.1.1.2,y93.1.1.2.1.1,y93.1.1.2.1.2,y93.1.1.2.2.1,y93.1.1.2.2.2.1,y93.1.1.2.2.2.2.1,y93.1.1.2.2.2.2.2,y93.1.2.1.1,y93.1.2.1.2.1,y93.1.2.1.2.2.1,y93.1.2.1.2.2.2,y93.1.2.2.1,y93.1.2.2.2.1,y93.1.2.2.2.2.1,y93.1.2.2.2.2.2,v85,y91.2.1,()),()),v87,v88,v89,(v90++y92.1),()))) (
       none))))))
noncomputable def cE (z:di):Option (R3 di sM iK):=sy z.2.1.1.1 z.2.1.1.2.1 z.2.1.1.2.2.1 z.2.1.1.2.2.2.1 z.2.1.1.2.2.2.2.1 z.2.1.1.2.2.2.2.2.1 z.2.1.1.2.2.2.2.2.2.1 z.2.1.1.2.2.2.2.2.2.2.1 z.2.1.1.2.2.2.2.2.2.2.2.1 z.2.1.1.2.2.2.2.2.2.2.2.2.1 z.2.1.1.2.2.2.2.2.2.2.2.2.2.1 z.2.1.1.2.2.2.2.2.2.2.2.2.2.2.1 z.2.1.1.2.2.2.2.2.2.2.2.2.2.2.2.1 z.2.1.1.2.2.2.2.2.2.2.2.2.2.2.2.2.2.2.2.1 z.2.1.1.2.2.2.2.2.2.2.2.2.2.2.2.2.2.2.2.2.1 z.2.1.2.1.1 z.2.1.2.1.2.1 z.2.1.2.1.2.2.1 z.2.1.2.1.2.2.2.1 z.2.1.2.1.2.2.2.2.1 z.2.1.2.1.2.2.2.2.2.1 z.2.1.2.1.2.2.2.2.2.2.1 z.2.1.2.1.2.2.2.2.2.2.2.1 z.2.1.2.1.2.2.2.2.2.2.2.2.1 z.2.1.2.1.2.2.2.2.2.2.2.2.2.1 z.2.1.2.1.2.2.2.2.2.2.2.2.2.2.1 z.2.1.2.1.2.2.2.2.2.2.2.2.2.2.2.1 z.2.1.2.1.2.2.2.2.2.2.2.2.2.2.2.2.1 z.2.1.2.1.2.2.2.2.2.2.2.2.2.2.2.2.2.1 z.2.1.2.1.2.2.2.2.2.2.2.2.2.2.2.2.2.2.1 z.2.1.2.1.2.2.2.2.2.2.2.2.2.2.2.2.2.2.2.1 z.2.1.2.2.1.1 z.2.1.2.2.1.2.1 z.2.1.2.2.1.2.2.1 z.2.1.2.2.1.2.2.2.1 z.2.1.2.2.1.2.2.2.2.1 z.2.1.2.2.1.2.2.2.2.2.1 z.2.1.2.2.1.2.2.2.2.2.2.1 z.2.1.2.2.1.2.2.2.2.2.2.2.1 z.2.1.2.2.1.2.2.2.2.2.2.2.2.1 z.2.1.2.2.1.2.2.2.2.2.2.2.2.2.1 z.2.1.2.2.1.2.2.2.2.2.2.2.2.2.2.1 z.2.1.2.2.1.2.2.2.2.2.2.2.2.2.2.2.1 z.2.1.2.2.1.2.2.2.2.2.2.2.2.2.2.2.2.1 z.2.1.2.2.1.2.2.2.2.2.2.2.2.2.2.2.2.2.1 z.2.1.2.2.1.2.2.2.2.2.2.2.2.2.2.2.2.2.2.1 z.2.1.2.2.1.2.2.2.2.2.2.2.2.2.2.2.2.2.2.2.1 z.2.1.2.2.1.2.2.2.2.2.2.2.2.2.2.2.2.2.2.2.2.1 z.2.1.2.2.1.2.2.2.2.2.2.2.2.2.2.2.2.2.2.2.2.2.1 z.2.1.2.2.2.2.1.1 z.2.1.2.2.2.2.2.1.1 z.2.1.2.2.2.2.2.1.2.1 z.2.1.2.2.2.2.2.1.2.2.1 z.2.1.2.2.2.2.2.1.2.2.2.1 z.2.1.2.2.2.2.2.1.2.2.2.2.1 z.2.1.2.2.2.2.2.1.2.2.2.2.2.1 z.2.1.2.2.2.2.2.1.2.2.2.2.2.2.1 z.2.1.2.2.2.2.2.1.2.2.2.2.2.2.2.1 z.2.1.2.2.2.2.2.1.2.2.2.2.2.2.2.2.1 z.2.1.2.2.2.2.2.1.2.2.2.2.2.2.2.2.2.1 z.2.1.2.2.2.2.2.1.2.2.2.2.2.2.2.2.2.2.1 z.2.1.2.2.2.2.2.1.2.2.2.2.2.2.2.2.2.2.2.1 z.2.1.2.2.2.2.2.1.2.2.2.2.2.2.2.2.2.2.2.2.1 z.2.1.2.2.2.2.2.1.2.2.2.2.2.2.2.2.2.2.2.2.2.1 z.2.1.2.2.2.2.2.1.2.2.2.2.2.2.2.2.2.2.2.2.2.2.1 z.2.1.2.2.2.2.2.1.2.2.2.2.2.2.2.2.2.2.2.2.2.2.2.1 z.2.1.2.2.2.2.2.1.2.2.2.2.2.2.2.2.2.2.2.2.2.2.2.2.1 z.2.1.2.2.2.2.2.1.2.2.2.2.2.2.2.2.2.2.2.2.2.2.2.2.2.1 z.2.1.2.2.2.2.2.2.2.1.1 z.2.1.2.2.2.2.2.2.2.1.2.1 z.2.1.2.2.2.2.2.2.2.1.2.2.1 z.2.1.2.2.2.2.2.2.2.1.2.2.2.1 z.2.1.2.2.2.2.2.2.2.1.2.2.2.2.1 z.2.1.2.2.2.2.2.2.2.1.2.2.2.2.2.1 z.2.1.2.2.2.2.2.2.2.1.2.2.2.2.2.2.1 z.2.1.2.2.2.2.2.2.2.1.2.2.2.2.2.2.2.1 z.2.1.2.2.2.2.2.2.2.1.2.2.2.2.2.2.2.2.1 z.2.1.2.2.2.2.2.2.2.1.2.2.2.2.2.2.2.2.2.1 z.2.1.2.2.2.2.2.2.2.1.2.2.2.2.2.2.2.2.2.2.1 z.2.1.2.2.2.2.2.2.2.1.2.2.2.2.2.2.2.2.2.2.2.1 z.2.1.2.2.2.2.2.2.2.1.2.2.2.2.2.2.2.2.2.2.2.2.1 z.2.1.2.2.2.2.2.2.2.1.2.2.2.2.2.2.2.2.2.2.2.2.2.1 z.2.1.2.2.2.2.2.2.2.1.2.2.2.2.2.2.2.2.2.2.2.2.2.2.1 z.2.1.2.2.2.2.2.2.2.1.2.2.2.2.2.2.2.2.2.2.2.2.2.2.2.1 z.2.1.2.2.2.2.2.2.2.1.2.2.2.2.2.2.2.2.2.2.2.2.2.2.2.2.1 z.2.1.2.2.2.2.2.2.2.1.2.2.2.2.2.2.2.2.2.2.2.2.2.2.2.2.2.1 z.2.2.1 z.2.2.2.1 z.2.2.2.2.1 z.2.2.2.2.2.1
noncomputable def f25 (v1:aT):Option ((Ov×Int×Int)×vX×Bool×Unit):=
 ((f14 v1)).bind fun y2=>
 cond (!y2.2.2.1) (
  some (((((0,0),(0,0),0,0,0,0),(0,0,0,false),0,[],[],[]),0,0),[],false,())) (
  ((iter aA cE (((),(),(),()),((0,0,0,0,0,0,0,0,0,0,0,false,0,(),(),(),0,0,()),(y2.1.1.1.1,y2.1.1.1.2,y2.1.1.2.1.1,y2.1.1.2.1.2,y2.1.1.2.2.1,y2.1.1.2.2.2.1,y2.1.1.2.2.2.2.1,y2.1.1.2.2.2.2.2,y2.1.2.1.1,y2.1.2.1.2.1,y2.1.2.1.2.2.1,y2.1.2.1.2.2.2,y2.1.2.2.1,y2.1.2.2.2.1,y2.1.2.2.2.2.1,y2.1.2.2.2.2.2,()),(y2.1.1.1.1,y2.1.1.1.2,y2.1.1.2.1.1,y2.1.1.2.1.2,y2.1.1.2.2.1,y2.1.1.2.2.2.1,y2.1.1.2.2.2.2.1,y2.1.1.2.2.2.2.2,y2.1.2.1.1,y2.1.2.1.2.1,y2.1.2.1.2.2.1,y2.1.2.1.2.2.2,y2.1.2.2.1,y2.1.2.2.2.1,y2.1.2.2.2.2.1,y2.1.2.2.2.2.2,y2.1.2.2.1,y2.2.1,()),((),()),(v1,()),(y2.1.1.1.1,y2.1.1.1.2,y2.1.1.2.1.1,y2.1.1.2.1.2,y2.1.1.2.2.1,y2.1.1.2.2.2.1,y2.1.1.2.2.2.2.1,y2.1.1.2.2.2.2.2,y2.1.2.1.1,y2.1.2.1.2.1,y2.1.2.1.2.2.1,y2.1.2.1.2.2.2,y2.1.2.2.1,y2.1.2.2.2.1,y2.1.2.2.2.2.1,y2.1.2.2.2.2.2,y2.1.2.2.1,y2.2.1,()),((),(),(),(),(),(),(),(),(),(),(),(),(),(),(),(),(),(),(),(),(),(),(),(),(),(),(),(),(),(),(),(),(),(),(),(),(),()),(y2.1.1.1.1,y2.1.1.1.2,y2.1.1.2.1.1,y2.1.1.2.1.2,y2.1.1.2.2.1,y2.1.1.2.2.2.1,y2.1.1.2.2.2.2.1,y2.1.1.2.2.2.2.2,y2.1.2.1.1,y2.1.2.1.2.1,y2.1.2.1.2.2.1,y2.1.2.1.2.2.2,y2.1.2.2.1,y2.1.2.2.2.1,y2.1.2.2.2.2.1,y2.1.2.2.2.2.2,y2.1.2.2.1,y2.2.1,()),()),[],[],[],[],()))).bind fun r=>match r with
  | .inl y3=>
    none
  | .inr z4=>
    some (((((z4.2.1.2.2.1.1,z4.2.1.2.2.1.2.1),(z4.2.1.2.2.1.2.2.1,z4.2.1.2.2.1.2.2.2.1),z4.2.1.2.2.1.2.2.2.2.1,z4.2.1.2.2.1.2.2.2.2.2.1,z4.2.1.2.2.1.2.2.2.2.2.2.1,z4.2.1.2.2.1.2.2.2.2.2.2.2.1),(z4.2.1.2.2.1.2.2.2.2.2.2.2.2.1,z4.2.1.2.2.1.2.2.2.2.2.2.2.2.2.1,z4.2.1.2.2.1.2.2.2.2.2.2.2.2.2.2.1,z4.2.1.2.2.1.2.2.2.2.2.2.2.2.2.2.2.1),z4.2.1.2.2.1.2.2.2.2.2.2.2.2.2.2.2.2.1,z4.2.1.2.2.1.2.2.2.2.2.2.2.2.2.2.2.2.2.1,z4.2.1.2.2.1.2.2.2.2.2.2.2.2.2.2.2.2.2.2.1,z4.2.1.2.2.1.2.2.2.2.2.2.2.2.2.2.2.2.2.2.2.1),z4.2.1.2.2.1.2.2.2.2.2.2.2.2.2.2.2.2.2.2.2.2.1,z4.2.1.2.2.1.2.2.2.2.2.2.2.2.2.2.2.2.2.2.2.2.2.1),z4.2.2.2.2.2.1,true,()))
abbrev EJ:Type:=Iy×(wg×wg×Unit)×cZ×cZ×Unit
abbrev Ko:Type:=E8×(wg×wg×Unit)×cZ×cZ×Unit
abbrev KX:Type:=Unit×Unit×Unit
noncomputable def Eg (v1 v2 v3 v4:Int)(v5 v6:cZ):Option (R3 EJ Ko KX):=
 cond (decide (v2<v1)) (
  cond ((decide (0≤v2))&&(decide (v2<(v5.length:Int)))) (
   cond (decide ((Int.toNat v2)<v5.length)) (
    ((dO (rd bw v5 (Int.toNat v2)).2.1)).bind fun y7=>
    cond ((decide (0≤v2))&&(decide (v2<(v5.length:Int)))) (
     cond (decide ((Int.toNat v2)<v5.length)) (
      some (R3.next (((),(),v1,(IntKind.wrap .i64 (v2+1)),()),((v3,(),()),(v4,(),()),()),(v5.set (Int.toNat v2) ((rd bw v5 (Int.toNat v2)).1,y7.1,(rd bw v5 (Int.toNat v2)).2.2)),v6,()))) (
      none)) (
     none)) (
    none)) (
   none)) (
  some (R3.out (((),(),()),((v3,(),()),(v4,(),()),()),v5,v6,())))
noncomputable def qT (z:EJ):Option (R3 EJ Ko KX):=Eg z.1.2.2.1 z.1.2.2.2.1 z.2.1.1.1 z.2.1.2.1.1 z.2.2.1 z.2.2.2.1
noncomputable def f112 (v1:Int)(v2:cZ):Option ((Int×cZ)×Unit):=
 ((gQ v2)).bind fun y3=>
 ((iter aA qT (((),(),(y3.1.length:Int),0,()),((v1,(),()),(0,(),()),()),y3.1,[],()))).bind fun r=>match r with
 | .inl y4=>
   some ((y4.2.1.1.1,y4.2.2.1),())
 | .inr z5=>
   none
abbrev AG:Type:=Iy×(wg×((List (Int×List Int×Int))×Nat)×wg×Unit)×cZ×Unit
abbrev G9:Type:=E8×(wg×((List (Int×List Int×Int))×Nat)×wg×Unit)×cZ×Unit
abbrev Hr:Type:=Unit×Unit×Unit
noncomputable def Qz (v1 v2 v3:Int)(v4:cZ)(v5:Nat)(v6:Int)(v7:cZ):Option (R3 AG G9 Hr):=
 cond (decide (v2<v1)) (
  cond ((decide (0≤v2))&&(decide (v2<(v4.length:Int)))) (
   cond ((decide ((Int.toNat v2)<v4.length))&&(decide (v5≤(Int.toNat v2)))) (
    ((SB (rd bw v4 (Int.toNat v2)).2.1)).bind fun y8=>
    cond (decide (v5<v4.length)) (
     cond ((decide (0≤v2))&&(decide (v2<(((v4.set v5 ((rd bw v4 v5).1,(rd bw v4 (Int.toNat v2)).2.1,(rd bw v4 v5).2.2)).length:Nat):Int)))) (
      cond ((((decide ((Int.toNat v2)<(v4.set v5 ((rd bw v4 v5).1,(rd bw v4 (Int.toNat v2)).2.1,(rd bw v4 v5).2.2)).length))&&(decide (v5=(Int.toNat v2))))&&(decide (v5=(Int.toNat v2))))&&(decide ((rd bw v4 (Int.toNat v2)).2.1.length≤(rd bw (v4.set v5 ((rd bw v4 v5).1,(rd bw v4 (Int.toNat v2)).2.1,(rd bw v4 v5).2.2)) (Int.toNat v2)).2.1.length))) (
       some (R3.next (((),(),v1,(IntKind.wrap .i64 (v2+1)),()),((v3,(),()),(((v4.set v5 ((rd bw v4 v5).1,(rd bw v4 (Int.toNat v2)).2.1,(rd bw v4 v5).2.2)).set (Int.toNat v2) ((rd bw (v4.set v5 ((rd bw v4 v5).1,(rd bw v4 (Int.toNat v2)).2.1,(rd bw v4 v5).2.2)) (Int.toNat v2)).1,(List.take (rd bw v4 (Int.toNat v2)).2.1.length (rd bw (v4.set v5 ((rd bw v4 v5).1,(rd bw v4 (Int.toNat v2)).2.1,(rd bw v4 v5).2.2)) (Int.toNat v2)).2.1),(rd bw (v4.set v5 ((rd bw v4 v5).1,(rd bw v4 (Int.toNat v2)).2.1,(rd bw v4 v5).2.2)) (Int.toNat v2)).2.2)),(v5+1)),(v6,(),()),()),v7,()))) (
       none)) (
      none)) (
     none)) (
    none)) (
   none)) (
  some (R3.out (((),(),()),((v3,(),()),(v4,v5),(v6,(),()),()),v7,())))
noncomputable def GO (z:AG):Option (R3 AG G9 Hr):=Qz z.1.2.2.1 z.1.2.2.2.1 z.2.1.1.1 z.2.1.2.1.1 z.2.1.2.1.2 z.2.1.2.2.1.1 z.2.2.1
noncomputable def DY (v1:Int)(v2:cZ):Option ((Int×cZ)×Unit):=
 ((gQ v2)).bind fun y3=>
 ((iter aA GO (((),(),(y3.1.length:Int),0,()),((v1,(),()),(y3.1,0),(0,(),()),()),[],()))).bind fun r=>match r with
 | .inl y4=>
   cond ((decide (y4.2.1.2.1.1.length≤y4.2.1.2.1.2))&&true) (
    some ((y4.2.1.1.1,y4.2.1.2.1.1),())) (
    none)
 | .inr z5=>
   none
abbrev jW:Type:=(Unit×Int×Int×Unit)×(nh×bx×Unit)×(Unit)
abbrev p8:Type:=bx×(nh×bx×Unit)×(Unit)
abbrev pP:Type:=Unit×E8×Unit
noncomputable def kG (v1 v2 v3:Int)(v4:cZ)(v5:Int):Option (R3 jW p8 pP):=
 cond (decide (v1<v2)) (
  cond ((decide (0≤(IntKind.wrap .i64 (Int.fdiv (IntKind.wrap .u64 (IntKind.wrap .i64 (v1+v2))) 2))))&&(decide ((IntKind.wrap .i64 (Int.fdiv (IntKind.wrap .u64 (IntKind.wrap .i64 (v1+v2))) 2))<(v4.length:Int)))) (
   cond (!(decide (v5≤(rd bw v4 (Int.toNat (IntKind.wrap .i64 (Int.fdiv (IntKind.wrap .u64 (IntKind.wrap .i64 (v1+v2))) 2)))).1))) (
    some (R3.next (((),(IntKind.wrap .i64 ((IntKind.wrap .i64 (Int.fdiv (IntKind.wrap .u64 (IntKind.wrap .i64 (v1+v2))) 2))+1)),v2,()),((v3,v4,()),(v5,()),()),()))) (
    some (R3.next (((),v1,(IntKind.wrap .i64 (Int.fdiv (IntKind.wrap .u64 (IntKind.wrap .i64 (v1+v2))) 2)),()),((v3,v4,()),(v5,()),()),())))) (
   none)) (
  some (R3.out ((v1,()),((v3,v4,()),(v5,()),()),())))
noncomputable def eX (z:jW):Option (R3 jW p8 pP):=kG z.1.2.1 z.1.2.2.1 z.2.1.1.1 z.2.1.1.2.1 z.2.1.2.1.1
noncomputable def f149 (v1:Int)(v2:cZ)(v3:Int):Option bx:=
 ((iter aA eX (((),0,(v2.length:Int),()),((v1,v2,()),(v3,()),()),()))).bind fun r=>match r with
 | .inl y4=>
   some (y4.1.1,())
 | .inr z5=>
   none
noncomputable def f113 (v1:Int)(v2:cZ)(v3:Int):Option bx:=
 ((f23 v1 v2)).bind fun y4=>
 cond (!y4.1) (
  some ((-1),())) (
  ((f149 v1 v2 v3)).bind fun y5=>
  cond (decide (y5.1<(v2.length:Int))) (
   cond ((decide (0≤y5.1))&&(decide (y5.1<(v2.length:Int)))) (
    cond (decide ((rd bw v2 (Int.toNat y5.1)).1=v3)) (
     some (y5.1,())) (
     some ((-1),()))) (
    none)) (
   some ((-1),())))
noncomputable def f26 (v1:Int)(v2:cZ)(v3:Int):Option Jw:=
 ((f23 v1 v2)).bind fun y4=>
 cond (!y4.1) (
  ((f112 v1 v2)).bind fun y5=>
  some ((y5.1.1,y5.1.2),1,())) (
  ((f113 v1 v2 v3)).bind fun y6=>
  cond (decide (y6.1=(-1))) (
   ((f112 v1 v2)).bind fun y7=>
   some ((y7.1.1,y7.1.2),5,())) (
   ((f112 v1 v2)).bind fun y8=>
   cond ((((decide (0≤y6.1))&&(decide (y6.1≤(IntKind.wrap .i64 (y6.1+1)))))&&(decide ((IntKind.wrap .i64 (y6.1+1))≤(y8.1.2.length:Int))))&&(decide ((0+(y8.1.2.length:Int))≤(y8.1.2.length:Int)))) (
    cond (decide (y6.1=(IntKind.wrap .i64 (y6.1+1)))) (
     some ((y8.1.1,y8.1.2),0,())) (
     cond ((decide (0≤y6.1))&&(decide ((0+y6.1)≤(y8.1.2.length:Int)))) (
      cond (((decide (0≤(IntKind.wrap .i64 (y6.1+1))))&&(decide ((IntKind.wrap .i64 (y6.1+1))≤(((y8.1.2.length-0):Nat):Int))))&&(decide ((0+(((y8.1.2.length-0):Nat):Int))≤(y8.1.2.length:Int)))) (
       cond (decide (((0+(Int.toNat y6.1))+(List.drop (0+(Int.toNat (IntKind.wrap .i64 (y6.1+1)))) (List.take (0+(Int.toNat (((y8.1.2.length-0):Nat):Int))) y8.1.2)).length)≤y8.1.2.length)) (
        cond (((decide (0≤(((((0+(Int.toNat y6.1))+(List.drop (0+(Int.toNat (IntKind.wrap .i64 (y6.1+1)))) (List.take (0+(Int.toNat (((y8.1.2.length-0):Nat):Int))) y8.1.2)).length)-0):Nat):Int)))&&(decide ((((((0+(Int.toNat y6.1))+(List.drop (0+(Int.toNat (IntKind.wrap .i64 (y6.1+1)))) (List.take (0+(Int.toNat (((y8.1.2.length-0):Nat):Int))) y8.1.2)).length)-0):Nat):Int)≤(y8.1.2.length:Int))))&&(decide ((0+(y8.1.2.length:Int))≤(((((List.take (0+(Int.toNat y6.1)) y8.1.2)++(List.drop (0+(Int.toNat (IntKind.wrap .i64 (y6.1+1)))) (List.take (0+(Int.toNat (((y8.1.2.length-0):Nat):Int))) y8.1.2)))++(List.drop ((0+(Int.toNat y6.1))+(List.drop (0+(Int.toNat (IntKind.wrap .i64 (y6.1+1)))) (List.take (0+(Int.toNat (((y8.1.2.length-0):Nat):Int))) y8.1.2)).length) y8.1.2)).length:Nat):Int)))) (
         some ((y8.1.1,(List.drop 0 (List.take ((0+(Int.toNat y6.1))+(List.drop (0+(Int.toNat (IntKind.wrap .i64 (y6.1+1)))) (List.take (0+(Int.toNat (((y8.1.2.length-0):Nat):Int))) y8.1.2)).length) (((List.take (0+(Int.toNat (((((0+(Int.toNat y6.1))+(List.drop (0+(Int.toNat (IntKind.wrap .i64 (y6.1+1)))) (List.take (0+(Int.toNat (((y8.1.2.length-0):Nat):Int))) y8.1.2)).length)-0):Nat):Int))) (((List.take (0+(Int.toNat y6.1)) y8.1.2)++(List.drop (0+(Int.toNat (IntKind.wrap .i64 (y6.1+1)))) (List.take (0+(Int.toNat (((y8.1.2.length-0):Nat):Int))) y8.1.2)))++(List.drop ((0+(Int.toNat y6.1))+(List.drop (0+(Int.toNat (IntKind.wrap .i64 (y6.1+1)))) (List.take (0+(Int.toNat (((y8.1.2.length-0):Nat):Int))) y8.1.2)).length) y8.1.2)))++(List.replicate ((0+(Int.toNat (y8.1.2.length:Int)))-(0+(Int.toNat (((((0+(Int.toNat y6.1))+(List.drop (0+(Int.toNat (IntKind.wrap .i64 (y6.1+1)))) (List.take (0+(Int.toNat (((y8.1.2.length-0):Nat):Int))) y8.1.2)).length)-0):Nat):Int)))) (0,[],0)))++(List.drop ((0+(Int.toNat (((((0+(Int.toNat y6.1))+(List.drop (0+(Int.toNat (IntKind.wrap .i64 (y6.1+1)))) (List.take (0+(Int.toNat (((y8.1.2.length-0):Nat):Int))) y8.1.2)).length)-0):Nat):Int)))+((0+(Int.toNat (y8.1.2.length:Int)))-(0+(Int.toNat (((((0+(Int.toNat y6.1))+(List.drop (0+(Int.toNat (IntKind.wrap .i64 (y6.1+1)))) (List.take (0+(Int.toNat (((y8.1.2.length-0):Nat):Int))) y8.1.2)).length)-0):Nat):Int))))) (((List.take (0+(Int.toNat y6.1)) y8.1.2)++(List.drop (0+(Int.toNat (IntKind.wrap .i64 (y6.1+1)))) (List.take (0+(Int.toNat (((y8.1.2.length-0):Nat):Int))) y8.1.2)))++(List.drop ((0+(Int.toNat y6.1))+(List.drop (0+(Int.toNat (IntKind.wrap .i64 (y6.1+1)))) (List.take (0+(Int.toNat (((y8.1.2.length-0):Nat):Int))) y8.1.2)).length) y8.1.2))))))),0,())) (
         none)) (
        none)) (
       none)) (
      none))) (
    none)))
noncomputable def f27 (v1:Int)(v2:cZ)(v3 v4:Int):Option Jw:=
 ((f23 v1 v2)).bind fun y5=>
 cond (!y5.1) (
  ((f112 v1 v2)).bind fun y6=>
  some ((y6.1.1,y6.1.2),1,())) (
  ((f113 v1 v2 v3)).bind fun y7=>
  cond (decide (y7.1=(-1))) (
   ((f112 v1 v2)).bind fun y8=>
   some ((y8.1.1,y8.1.2),5,())) (
   ((f112 v1 v2)).bind fun y9=>
   cond ((decide (0≤y7.1))&&(decide (y7.1<(y9.1.2.length:Int)))) (
    cond (decide (v4<0)) (
     ((f112 v1 v2)).bind fun y10=>
     some ((y10.1.1,y10.1.2),1,())) (
     cond (decide ((Int.toNat y7.1)<y9.1.2.length)) (
      cond (decide ((((rd bw y9.1.2 (Int.toNat y7.1)).2.1.length:Nat):Int)<v4)) (
       ((f112 v1 v2)).bind fun y11=>
       some ((y11.1.1,y11.1.2),1,())) (
       cond (decide ((Int.toNat y7.1)<y9.1.2.length)) (
        cond (((decide (0≤v4))&&(decide (v4≤v4)))&&(decide (v4≤(((rd bw y9.1.2 (Int.toNat y7.1)).2.1.length:Nat):Int)))) (
         cond (decide ((Int.toNat y7.1)<y9.1.2.length)) (
          cond (decide ((Int.toNat y7.1)<(y9.1.2.set (Int.toNat y7.1) ((rd bw y9.1.2 (Int.toNat y7.1)).1,(List.drop 0 (List.take (Int.toNat v4) (rd bw y9.1.2 (Int.toNat y7.1)).2.1)),(rd bw y9.1.2 (Int.toNat y7.1)).2.2)).length)) (
           some ((y9.1.1,((y9.1.2.set (Int.toNat y7.1) ((rd bw y9.1.2 (Int.toNat y7.1)).1,(List.drop 0 (List.take (Int.toNat v4) (rd bw y9.1.2 (Int.toNat y7.1)).2.1)),(rd bw y9.1.2 (Int.toNat y7.1)).2.2)).set (Int.toNat y7.1) ((rd bw (y9.1.2.set (Int.toNat y7.1) ((rd bw y9.1.2 (Int.toNat y7.1)).1,(List.drop 0 (List.take (Int.toNat v4) (rd bw y9.1.2 (Int.toNat y7.1)).2.1)),(rd bw y9.1.2 (Int.toNat y7.1)).2.2)) (Int.toNat y7.1)).1,(rd bw (y9.1.2.set (Int.toNat y7.1) ((rd bw y9.1.2 (Int.toNat y7.1)).1,(List.drop 0 (List.take (Int.toNat v4) (rd bw y9.1.2 (Int.toNat y7.1)).2.1)),(rd bw y9.1.2 (Int.toNat y7.1)).2.2)) (Int.toNat y7.1)).2.1,v4))),0,())) (
           none)) (
          none)) (
         none)) (
        none))) (
      none))) (
    none)))
abbrev dY:Type:=(Unit×Unit×Int×Unit)×Ya×cZ×aP×bT×aP×aP×bT×aP×aT×Unit
abbrev xU:Type:=(Unit)×Ya×cZ×aP×bT×aP×aP×bT×aP×aT×Unit
abbrev rR:Type:=(Unit)×(nh×Jh×Pe×CS×rM×bx×(cZ×Unit)×DT8×Unit)×cZ×aP×bT×aP×aT×Unit
noncomputable def qD (v1 v2:Int)(v3:cZ)(v4 v5 v6 v7 v8 v9 v10 v11 v12 v13 v14 v15 v16 v17:Int)(v18:Bool)(v19 v20 v21 v22 v23 v24 v25 v26 v27 v28 v29 v30:Int)(v31:Bool)(v32 v33 v34 v35:Int)(v36 v37:cZ)(v38:aP)(v39:bT)(v40 v41:aP)(v42:bT)(v43:aP)(v44:aT):Option (R3 dY xU rR):=
 cond (decide (0≤v1)) (
  cond ((decide (0≤v1))&&(decide (v1<(v36.length:Int)))) (
   ((f25 (rd bw v36 (Int.toNat v1)).2.1)).bind fun y45=>
   cond y45.2.2.1 (
    some (R3.ret ((),((v2,v3,()),(v4,(),v5,v6,()),(v7,v8,v9,v10,v11,v12,v13,v14,v15,v16,v17,v18,v19,(),(),(),()),(y45.1.1.1.1.1,y45.1.1.1.1.2,y45.1.1.1.2.1.1,y45.1.1.1.2.1.2,y45.1.1.1.2.2.1,y45.1.1.1.2.2.2.1,y45.1.1.1.2.2.2.2.1,y45.1.1.1.2.2.2.2.2,y45.1.1.2.1.1,y45.1.1.2.1.2.1,y45.1.1.2.1.2.2.1,y45.1.1.2.1.2.2.2,y45.1.1.2.2.1,y45.1.1.2.2.2.1,y45.1.1.2.2.2.2.1,y45.1.1.2.2.2.2.2,y45.1.2.1,y45.1.2.2,()),((),()),((rd bw v36 (Int.toNat v1)).1,()),(v36,()),((),(),(),(),(),(),(),(),(),(),(),(),(),(),(),(),(),(),(),(),(),(),(),(),(),(),(),(),(),(),(),(),(),(),(),(),(),(),(),(),(),(),(),(),(),(),(),(),(),(),(),(),(),(),(),(),(),(),(),(),(),(),(),(),(),(),(),(),(),(),(),(),(),()),()),v37,v38,v39,v40,v44,()))) (
    cond ((decide (((v44.length+1) * 8)≤140737488355328))&&(decide ((v44.length+1)≤9223372036854775807))) (
     some (R3.next (((),(),(IntKind.wrap .i64 (v1-1)),()),((v2,v3,()),(v4,(),v5,v6,()),(v7,v8,v9,v10,v11,v12,v13,v14,v15,v16,v17,v18,v19,(),(),(),()),(v20,v21,v22,v23,v24,v25,v26,v27,v28,v29,v30,v31,v32,(),(),(),v33,v34,()),((),()),(v35,()),(v36,()),((),(),(),(),(),(),(),(),(),(),(),(),(),(),(),(),(),(),(),(),(),(),(),(),(),(),(),(),(),(),(),(),(),(),(),(),(),(),(),(),(),(),(),(),(),(),(),(),(),(),(),(),(),(),(),(),(),(),(),(),(),(),(),(),(),(),(),(),(),(),(),(),(),()),()),v37,v38,v39,v40,v41,v42,v43,(v44++[(rd bw v36 (Int.toNat v1)).1]),()))) (
     none))) (
   none)) (
  some (R3.out ((),((v2,v3,()),(v4,(),v5,v6,()),(v7,v8,v9,v10,v11,v12,v13,v14,v15,v16,v17,v18,v19,(),(),(),()),(v20,v21,v22,v23,v24,v25,v26,v27,v28,v29,v30,v31,v32,(),(),(),v33,v34,()),((),()),(v35,()),(v36,()),((),(),(),(),(),(),(),(),(),(),(),(),(),(),(),(),(),(),(),(),(),(),(),(),(),(),(),(),(),(),(),(),(),(),(),(),(),(),(),(),(),(),(),(),(),(),(),(),(),(),(),(),(),(),(),(),(),(),(),(),(),(),(),(),(),(),(),(),(),(),(),(),(),()),()),v37,v38,v39,v40,v41,v42,v43,v44,())))
noncomputable def bZ (z:dY):Option (R3 dY xU rR):=qD z.1.2.2.1 z.2.1.1.1 z.2.1.1.2.1 z.2.1.2.1.1 z.2.1.2.1.2.2.1 z.2.1.2.1.2.2.2.1 z.2.1.2.2.1.1 z.2.1.2.2.1.2.1 z.2.1.2.2.1.2.2.1 z.2.1.2.2.1.2.2.2.1 z.2.1.2.2.1.2.2.2.2.1 z.2.1.2.2.1.2.2.2.2.2.1 z.2.1.2.2.1.2.2.2.2.2.2.1 z.2.1.2.2.1.2.2.2.2.2.2.2.1 z.2.1.2.2.1.2.2.2.2.2.2.2.2.1 z.2.1.2.2.1.2.2.2.2.2.2.2.2.2.1 z.2.1.2.2.1.2.2.2.2.2.2.2.2.2.2.1 z.2.1.2.2.1.2.2.2.2.2.2.2.2.2.2.2.1 z.2.1.2.2.1.2.2.2.2.2.2.2.2.2.2.2.2.1 z.2.1.2.2.2.1.1 z.2.1.2.2.2.1.2.1 z.2.1.2.2.2.1.2.2.1 z.2.1.2.2.2.1.2.2.2.1 z.2.1.2.2.2.1.2.2.2.2.1 z.2.1.2.2.2.1.2.2.2.2.2.1 z.2.1.2.2.2.1.2.2.2.2.2.2.1 z.2.1.2.2.2.1.2.2.2.2.2.2.2.1 z.2.1.2.2.2.1.2.2.2.2.2.2.2.2.1 z.2.1.2.2.2.1.2.2.2.2.2.2.2.2.2.1 z.2.1.2.2.2.1.2.2.2.2.2.2.2.2.2.2.1 z.2.1.2.2.2.1.2.2.2.2.2.2.2.2.2.2.2.1 z.2.1.2.2.2.1.2.2.2.2.2.2.2.2.2.2.2.2.1 z.2.1.2.2.2.1.2.2.2.2.2.2.2.2.2.2.2.2.2.2.2.2.1 z.2.1.2.2.2.1.2.2.2.2.2.2.2.2.2.2.2.2.2.2.2.2.2.1 z.2.1.2.2.2.2.2.1.1 z.2.1.2.2.2.2.2.2.1.1 z.2.2.1 z.2.2.2.1 z.2.2.2.2.1 z.2.2.2.2.2.1 z.2.2.2.2.2.2.1 z.2.2.2.2.2.2.2.1 z.2.2.2.2.2.2.2.2.1 z.2.2.2.2.2.2.2.2.2.1
abbrev xa:Type:=(Unit×Unit×Unit×Unit×Unit×Int×Int×Unit)×(nh×Jh×Pe×CS×bx×Unit)×aT×cZ×aP×bT×aP×Unit
abbrev Lm:Type:=(Unit×Unit×Unit×Unit×Unit×Unit)×(nh×Jh×Pe×CS×bx×Unit)×cZ×aP×bT×aP×Unit
abbrev Sv:Type:=Unit×Unit×Unit
noncomputable def Lt (v1 v2 v3:Int)(v4:cZ)(v5 v6 v7 v8 v9 v10 v11 v12 v13 v14 v15 v16 v17 v18:Int)(v19:Bool)(v20 v21 v22 v23 v24 v25 v26 v27 v28 v29 v30 v31:Int)(v32:Bool)(v33:Int)(v34:aP)(v35:bT)(v36:aP)(v37 v38 v39:Int)(v40:aT)(v41:cZ)(v42:aP)(v43:bT)(v44:aP):Option (R3 xa Lm Sv):=
 cond (decide (v2<v1)) (
  cond ((decide (0≤v2))&&(decide (v2<(v40.length:Int)))) (
   cond (decide ((Int.toNat v2)<v40.length)) (
    ((f26 v3 v4 (rd aW v40 (Int.toNat v2)))).bind fun y45=>
    some (R3.next (((),(),(),(),(),v1,(IntKind.wrap .i64 (v2+1)),()),((y45.1.1,y45.1.2,()),(v5,(),v6,v7,()),(v8,v9,v10,v11,v12,v13,v14,v15,v16,v17,v18,v19,v20,(),(),(),()),(v21,v22,v23,v24,v25,v26,v27,v28,v29,v30,v31,v32,v33,v34,v35,v36,v37,v38,()),(v39,()),()),v40,v41,v42,v43,v44,()))) (
    none)) (
   none)) (
  some (R3.out (((),(),(),(),(),()),((v3,v4,()),(v5,(),v6,v7,()),(v8,v9,v10,v11,v12,v13,v14,v15,v16,v17,v18,v19,v20,(),(),(),()),(v21,v22,v23,v24,v25,v26,v27,v28,v29,v30,v31,v32,v33,v34,v35,v36,v37,v38,()),(v39,()),()),v41,v42,v43,v44,())))
noncomputable def lM (z:xa):Option (R3 xa Lm Sv):=Lt z.1.2.2.2.2.2.1 z.1.2.2.2.2.2.2.1 z.2.1.1.1 z.2.1.1.2.1 z.2.1.2.1.1 z.2.1.2.1.2.2.1 z.2.1.2.1.2.2.2.1 z.2.1.2.2.1.1 z.2.1.2.2.1.2.1 z.2.1.2.2.1.2.2.1 z.2.1.2.2.1.2.2.2.1 z.2.1.2.2.1.2.2.2.2.1 z.2.1.2.2.1.2.2.2.2.2.1 z.2.1.2.2.1.2.2.2.2.2.2.1 z.2.1.2.2.1.2.2.2.2.2.2.2.1 z.2.1.2.2.1.2.2.2.2.2.2.2.2.1 z.2.1.2.2.1.2.2.2.2.2.2.2.2.2.1 z.2.1.2.2.1.2.2.2.2.2.2.2.2.2.2.1 z.2.1.2.2.1.2.2.2.2.2.2.2.2.2.2.2.1 z.2.1.2.2.1.2.2.2.2.2.2.2.2.2.2.2.2.1 z.2.1.2.2.2.1.1 z.2.1.2.2.2.1.2.1 z.2.1.2.2.2.1.2.2.1 z.2.1.2.2.2.1.2.2.2.1 z.2.1.2.2.2.1.2.2.2.2.1 z.2.1.2.2.2.1.2.2.2.2.2.1 z.2.1.2.2.2.1.2.2.2.2.2.2.1 z.2.1.2.2.2.1.2.2.2.2.2.2.2.1 z.2.1.2.2.2.1.2.2.2.2.2.2.2.2.1 z.2.1.2.2.2.1.2.2.2.2.2.2.2.2.2.1 z.2.1.2.2.2.1.2.2.2.2.2.2.2.2.2.2.1 z.2.1.2.2.2.1.2.2.2.2.2.2.2.2.2.2.2.1 z.2.1.2.2.2.1.2.2.2.2.2.2.2.2.2.2.2.2.1 z.2.1.2.2.2.1.2.2.2.2.2.2.2.2.2.2.2.2.2.1 z.2.1.2.2.2.1.2.2.2.2.2.2.2.2.2.2.2.2.2.2.1 z.2.1.2.2.2.1.2.2.2.2.2.2.2.2.2.2.2.2.2.2.2.1 z.2.1.2.2.2.1.2.2.2.2.2.2.2.2.2.2.2.2.2.2.2.2.1 z.2.1.2.2.2.1.2.2.2.2.2.2.2.2.2.2.2.2.2.2.2.2.2.1 z.2.1.2.2.2.2.1.1 z.2.2.1 z.2.2.2.1 z.2.2.2.2.1 z.2.2.2.2.2.1 z.2.2.2.2.2.2.1
noncomputable def f9 (v1:Int)(v2:cZ):Option (LJ×Ov×Int×Unit):=
 ((f23 v1 v2)).bind fun y3=>
 cond (!y3.1) (
  some (((0,[]),0,0),(((0,0),(0,0),0,0,0,0),(0,0,0,false),0,[],[],[]),1,())) (
  ((iter aA bZ (((),(),(IntKind.wrap .i64 ((v2.length:Int)-1)),()),((v1,v2,()),(0,(),0,0,()),(0,0,0,0,0,0,0,0,0,0,0,false,0,(),(),(),()),(0,0,0,0,0,0,0,0,0,0,0,false,0,(),(),(),0,0,()),((),()),(0,()),(v2,()),((),(),(),(),(),(),(),(),(),(),(),(),(),(),(),(),(),(),(),(),(),(),(),(),(),(),(),(),(),(),(),(),(),(),(),(),(),(),(),(),(),(),(),(),(),(),(),(),(),(),(),(),(),(),(),(),(),(),(),(),(),(),(),(),(),(),(),(),(),(),(),(),(),()),()),[],[],[],[],[],[],[],[],()))).bind fun r=>match r with
  | .inl y4=>
    cond (decide (y4.2.1.2.2.2.2.2.1.1=0)) (
     some (((0,[]),0,0),(((0,0),(0,0),0,0,0,0),(0,0,0,false),0,[],[],[]),5,())) (
     none)
  | .inr z5=>
    cond (decide (z5.2.1.2.2.2.2.2.1.1=0)) (
     some (((0,[]),0,0),(((0,0),(0,0),0,0,0,0),(0,0,0,false),0,[],[],[]),5,())) (
     ((iter aA lM (((),(),(),(),(),(z5.2.2.2.2.2.2.1.length:Int),0,()),((z5.2.1.1.1,z5.2.1.1.2.1,()),(z5.2.1.2.1.1,(),z5.2.1.2.1.2.2.1,z5.2.1.2.1.2.2.2.1,()),(z5.2.1.2.2.1.1,z5.2.1.2.2.1.2.1,z5.2.1.2.2.1.2.2.1,z5.2.1.2.2.1.2.2.2.1,z5.2.1.2.2.1.2.2.2.2.1,z5.2.1.2.2.1.2.2.2.2.2.1,z5.2.1.2.2.1.2.2.2.2.2.2.1,z5.2.1.2.2.1.2.2.2.2.2.2.2.1,z5.2.1.2.2.1.2.2.2.2.2.2.2.2.1,z5.2.1.2.2.1.2.2.2.2.2.2.2.2.2.1,z5.2.1.2.2.1.2.2.2.2.2.2.2.2.2.2.1,z5.2.1.2.2.1.2.2.2.2.2.2.2.2.2.2.2.1,z5.2.1.2.2.1.2.2.2.2.2.2.2.2.2.2.2.2.1,(),(),(),()),(z5.2.1.2.2.2.1.1,z5.2.1.2.2.2.1.2.1,z5.2.1.2.2.2.1.2.2.1,z5.2.1.2.2.2.1.2.2.2.1,z5.2.1.2.2.2.1.2.2.2.2.1,z5.2.1.2.2.2.1.2.2.2.2.2.1,z5.2.1.2.2.2.1.2.2.2.2.2.2.1,z5.2.1.2.2.2.1.2.2.2.2.2.2.2.1,z5.2.1.2.2.2.1.2.2.2.2.2.2.2.2.1,z5.2.1.2.2.2.1.2.2.2.2.2.2.2.2.2.1,z5.2.1.2.2.2.1.2.2.2.2.2.2.2.2.2.2.1,z5.2.1.2.2.2.1.2.2.2.2.2.2.2.2.2.2.2.1,z5.2.1.2.2.2.1.2.2.2.2.2.2.2.2.2.2.2.2.1,z5.2.1.2.2.2.1.2.2.2.2.2.2.2.2.2.2.2.2.2.1,z5.2.1.2.2.2.1.2.2.2.2.2.2.2.2.2.2.2.2.2.2.1,z5.2.1.2.2.2.1.2.2.2.2.2.2.2.2.2.2.2.2.2.2.2.1,z5.2.1.2.2.2.1.2.2.2.2.2.2.2.2.2.2.2.2.2.2.2.2.1,z5.2.1.2.2.2.1.2.2.2.2.2.2.2.2.2.2.2.2.2.2.2.2.2.1,()),(z5.2.1.2.2.2.2.2.1.1,()),()),z5.2.2.2.2.2.2.1,z5.2.2.1,z5.2.2.2.1,z5.2.2.2.2.1,z5.2.2.2.2.2.1,()))).bind fun r=>match r with
     | .inl y6=>
       ((f27 y6.2.1.1.1 y6.2.1.1.2.1 y6.2.1.2.2.2.2.1.1 y6.2.1.2.2.2.1.2.2.2.2.2.2.2.2.2.2.2.2.2.2.2.2.2.1)).bind fun y8=>
       some (((y8.1.1,y8.1.2),y6.2.1.2.2.2.2.1.1,y6.2.1.2.2.2.1.2.2.2.2.2.2.2.2.2.2.2.2.2.2.2.2.1),(((y6.2.1.2.2.2.1.1,y6.2.1.2.2.2.1.2.1),(y6.2.1.2.2.2.1.2.2.1,y6.2.1.2.2.2.1.2.2.2.1),y6.2.1.2.2.2.1.2.2.2.2.1,y6.2.1.2.2.2.1.2.2.2.2.2.1,y6.2.1.2.2.2.1.2.2.2.2.2.2.1,y6.2.1.2.2.2.1.2.2.2.2.2.2.2.1),(y6.2.1.2.2.2.1.2.2.2.2.2.2.2.2.1,y6.2.1.2.2.2.1.2.2.2.2.2.2.2.2.2.1,y6.2.1.2.2.2.1.2.2.2.2.2.2.2.2.2.2.1,y6.2.1.2.2.2.1.2.2.2.2.2.2.2.2.2.2.2.1),y6.2.1.2.2.2.1.2.2.2.2.2.2.2.2.2.2.2.2.1,y6.2.1.2.2.2.1.2.2.2.2.2.2.2.2.2.2.2.2.2.1,y6.2.1.2.2.2.1.2.2.2.2.2.2.2.2.2.2.2.2.2.2.1,y6.2.1.2.2.2.1.2.2.2.2.2.2.2.2.2.2.2.2.2.2.2.1),0,())
     | .inr z7=>
       none))
noncomputable def f81 (v1:Int)(v2:aT)(v3 v4:Int)(v5:aT)(v6:Int):Option bq:=
 cond (decide (v1=v4)) (
  cond (decide (v3=v6)) (
   ((f82 v2 v5)).bind fun y7=>
   some (y7.1,())) (
   some (false,()))) (
  some (false,()))
abbrev nP:Type:=(cZ×Unit×cZ×Int×Int×Unit)×(nh×nh×Unit)×(Unit)
abbrev ud:Type:=(Unit)×(nh×nh×Unit)×(Unit)
abbrev uh:Type:=bq×(nh×nh×Unit)×(Unit)
noncomputable def oa (v1 v2:cZ)(v3 v4 v5:Int)(v6:cZ)(v7:Int)(v8:cZ):Option (R3 nP ud uh):=
 cond (decide (v4<v3)) (
  cond ((decide (0≤v4))&&(decide (v4<(v2.length:Int)))) (
   cond ((decide (0≤v4))&&(decide (v4<(v1.length:Int)))) (
    ((f81 (rd bw v2 (Int.toNat v4)).1 (rd bw v2 (Int.toNat v4)).2.1 (rd bw v2 (Int.toNat v4)).2.2 (rd bw v1 (Int.toNat v4)).1 (rd bw v1 (Int.toNat v4)).2.1 (rd bw v1 (Int.toNat v4)).2.2)).bind fun y9=>
    cond (!y9.1) (
     some (R3.ret ((false,()),((v5,v6,()),(v7,v8,()),()),()))) (
     some (R3.next ((v1,(),v2,v3,(IntKind.wrap .i64 (v4+1)),()),((v5,v6,()),(v7,v8,()),()),())))) (
    none)) (
   none)) (
  some (R3.out ((),((v5,v6,()),(v7,v8,()),()),())))
noncomputable def dS (z:nP):Option (R3 nP ud uh):=oa z.1.1 z.1.2.2.1 z.1.2.2.2.1 z.1.2.2.2.2.1 z.2.1.1.1 z.2.1.1.2.1 z.2.1.2.1.1 z.2.1.2.1.2.1
noncomputable def f36 (v1:Int)(v2:cZ)(v3:Int)(v4:cZ):Option bq:=
 cond (decide (v1=v3)) (
  cond (!(decide ((v2.length:Int)=(v4.length:Int)))) (
   some (false,())) (
   ((iter aA dS ((v4,(),v2,(v2.length:Int),0,()),((v1,v2,()),(v3,v4,()),()),()))).bind fun r=>match r with
   | .inl y5=>
     some (true,())
   | .inr z6=>
     some (z6.1.1,()))) (
  some (false,()))
noncomputable def f12 (v1:Int)(v2:cZ)(v3 v4 v5:Int)(v6:cZ)(v7 v8:Int):Option bq:=
 cond (decide (v3=v7)) (
  cond (decide (v4=v8)) (
   ((f36 v1 v2 v5 v6)).bind fun y9=>
   some (y9.1,())) (
   some (false,()))) (
  some (false,()))
abbrev OX:Type:=(aP×aP×Int×Int×Unit)×(Unit)×(Unit)
abbrev Tr:Type:=(Unit)×(Unit)×(Unit)
abbrev Su:Type:=bq×(Unit)×(Unit)
noncomputable def Kp (v1 v2:aP)(v3 v4:Int):Option (R3 OX Tr Su):=
 cond (decide (v4<v3)) (
  cond ((decide (0≤v4))&&(decide (v4<(v1.length:Int)))) (
   cond ((decide (0≤v4))&&(decide (v4<(v2.length:Int)))) (
    cond (!((decide ((rd ck v1 (Int.toNat v4)).1=(rd ck v2 (Int.toNat v4)).1))&&((decide ((rd ck v1 (Int.toNat v4)).2.1=(rd ck v2 (Int.toNat v4)).2.1))&&((decide ((rd ck v1 (Int.toNat v4)).2.2=(rd ck v2 (Int.toNat v4)).2.2))&&true)))) (
     some (R3.ret ((false,()),(),()))) (
     some (R3.next ((v1,v2,v3,(IntKind.wrap .i64 (v4+1)),()),(),())))) (
    none)) (
   none)) (
  some (R3.out ((),(),())))
noncomputable def Dm (z:OX):Option (R3 OX Tr Su):=Kp z.1.1 z.1.2.1 z.1.2.2.1 z.1.2.2.2.1
noncomputable def f84 (v1 v2:aP):Option bq:=
 cond (!(decide ((v1.length:Int)=(v2.length:Int)))) (
  some (false,())) (
  ((iter aA Dm ((v1,v2,(v1.length:Int),0,()),(),()))).bind fun r=>match r with
  | .inl y3=>
    some (true,())
  | .inr z4=>
    some (z4.1.1,()))
noncomputable def f37 (v1 v2:aP):Option bq:=
 ((f84 v1 v2)).bind fun y3=>
 some (y3.1,())
abbrev OE:Type:=(bT×bT×Int×Int×Unit)×(Unit)×(Unit)
abbrev RZ:Type:=(Unit)×(Unit)×(Unit)
abbrev TG:Type:=bq×(Unit)×(Unit)
noncomputable def Mn (v1 v2:bT)(v3 v4:Int):Option (R3 OE RZ TG):=
 cond (decide (v4<v3)) (
  cond ((decide (0≤v4))&&(decide (v4<(v1.length:Int)))) (
   cond ((decide (0≤v4))&&(decide (v4<(v2.length:Int)))) (
    cond (!((decide ((rd cQ v1 (Int.toNat v4)).1=(rd cQ v2 (Int.toNat v4)).1))&&((decide ((rd cQ v1 (Int.toNat v4)).2.1=(rd cQ v2 (Int.toNat v4)).2.1))&&((decide ((rd cQ v1 (Int.toNat v4)).2.2.1=(rd cQ v2 (Int.toNat v4)).2.2.1))&&((decide ((rd cQ v1 (Int.toNat v4)).2.2.2.1=(rd cQ v2 (Int.toNat v4)).2.2.2.1))&&((decide ((rd cQ v1 (Int.toNat v4)).2.2.2.2=(rd cQ v2 (Int.toNat v4)).2.2.2.2))&&true)))))) (
     some (R3.ret ((false,()),(),()))) (
     some (R3.next ((v1,v2,v3,(IntKind.wrap .i64 (v4+1)),()),(),())))) (
    none)) (
   none)) (
  some (R3.out ((),(),())))
noncomputable def BV (z:OE):Option (R3 OE RZ TG):=Mn z.1.1 z.1.2.1 z.1.2.2.1 z.1.2.2.2.1
noncomputable def f85 (v1 v2:bT):Option bq:=
 cond (!(decide ((v1.length:Int)=(v2.length:Int)))) (
  some (false,())) (
  ((iter aA BV ((v1,v2,(v1.length:Int),0,()),(),()))).bind fun r=>match r with
  | .inl y3=>
    some (true,())
  | .inr z4=>
    some (z4.1.1,()))
noncomputable def f38 (v1 v2:bT):Option bq:=
 ((f85 v1 v2)).bind fun y3=>
 some (y3.1,())
abbrev N2:Type:=(aP×aP×Int×Int×Unit)×(Unit)×(Unit)
abbrev SP:Type:=(Unit)×(Unit)×(Unit)
abbrev S8:Type:=bq×(Unit)×(Unit)
noncomputable def MX (v1 v2:aP)(v3 v4:Int):Option (R3 N2 SP S8):=
 cond (decide (v4<v3)) (
  cond ((decide (0≤v4))&&(decide (v4<(v1.length:Int)))) (
   cond ((decide (0≤v4))&&(decide (v4<(v2.length:Int)))) (
    cond (!((decide ((rd ck v1 (Int.toNat v4)).1=(rd ck v2 (Int.toNat v4)).1))&&((decide ((rd ck v1 (Int.toNat v4)).2.1=(rd ck v2 (Int.toNat v4)).2.1))&&((decide ((rd ck v1 (Int.toNat v4)).2.2=(rd ck v2 (Int.toNat v4)).2.2))&&true)))) (
     some (R3.ret ((false,()),(),()))) (
     some (R3.next ((v1,v2,v3,(IntKind.wrap .i64 (v4+1)),()),(),())))) (
    none)) (
   none)) (
  some (R3.out ((),(),())))
noncomputable def DX (z:N2):Option (R3 N2 SP S8):=MX z.1.1 z.1.2.1 z.1.2.2.1 z.1.2.2.2.1
noncomputable def f86 (v1 v2:aP):Option bq:=
 cond (!(decide ((v1.length:Int)=(v2.length:Int)))) (
  some (false,())) (
  ((iter aA DX ((v1,v2,(v1.length:Int),0,()),(),()))).bind fun r=>match r with
  | .inl y3=>
    some (true,())
  | .inr z4=>
    some (z4.1.1,()))
noncomputable def f39 (v1 v2:aP):Option bq:=
 ((f86 v1 v2)).bind fun y3=>
 some (y3.1,())
noncomputable def f13 (v1 v2 v3 v4 v5 v6 v7 v8 v9 v10 v11:Int)(v12:Bool)(v13:Int)(v14:aP)(v15:bT)(v16:aP)(v17 v18 v19 v20 v21 v22 v23 v24 v25 v26 v27:Int)(v28:Bool)(v29:Int)(v30:aP)(v31:bT)(v32:aP):Option bq:=
 cond (((decide (v1=v17))&&((decide (v2=v18))&&true))&&(((decide (v3=v19))&&((decide (v4=v20))&&true))&&((decide (v5=v21))&&((decide (v6=v22))&&((decide (v7=v23))&&((decide (v8=v24))&&true)))))) (
  cond ((decide (v9=v25))&&((decide (v10=v26))&&((decide (v11=v27))&&((v12 == v28)&&true)))) (
   cond (decide (v13=v29)) (
    ((f37 v14 v30)).bind fun y33=>
    cond y33.1 (
     ((f38 v15 v31)).bind fun y34=>
     cond y34.1 (
      ((f39 v16 v32)).bind fun y35=>
      some (y35.1,())) (
      some (false,()))) (
     some (false,()))) (
    some (false,()))) (
   some (false,()))) (
  some (false,()))
noncomputable def f15 (v1:aT):Option (Ov×Bool×Unit):=
 ((f25 v1)).bind fun y2=>
 some ((((y2.1.1.1.1.1,y2.1.1.1.1.2),(y2.1.1.1.2.1.1,y2.1.1.1.2.1.2),y2.1.1.1.2.2.1,y2.1.1.1.2.2.2.1,y2.1.1.1.2.2.2.2.1,y2.1.1.1.2.2.2.2.2),(y2.1.1.2.1.1,y2.1.1.2.1.2.1,y2.1.1.2.1.2.2.1,y2.1.1.2.1.2.2.2),y2.1.1.2.2.1,y2.1.1.2.2.2.1,y2.1.1.2.2.2.2.1,y2.1.1.2.2.2.2.2),y2.2.2.1,())
noncomputable def f16 (v1:aT):Option (Int×Bool×Unit):=
 ((f25 v1)).bind fun y2=>
 some (y2.1.2.2,y2.2.2.1,())
noncomputable def f18 (v1:aT):Option (vX×Unit):=
 ((f25 v1)).bind fun y2=>
 some (y2.2.1,())
noncomputable def f46 (v1 v2 v3 v4 v5 v6 v7 v8 v9 v10 v11:Int)(v12:Bool):Option (Ov×Bool×Unit):=
 ((f11 v1 v2 v3 v4 v5 v6 v7 v8 v9 v10 v11 v12 0 [] [] [])).bind fun y13=>
 cond (!y13.1) (
  some ((((0,0),(0,0),0,0,0,0),(0,0,0,false),0,[],[],[]),false,())) (
  some ((((v1,v2),(v3,v4),v5,v6,v7,v8),(v9,v10,v11,v12),0,[],[],[]),true,()))
noncomputable def f47  : Option (((Int×Int)×(Int×Int)×Int×Int×Int×Int)×Unit):=
 some (((167772160,31),(184549376,32),1000,1099,20,10),())
noncomputable def f48 (v1:Int):Option ((Int×cZ)×Bool×Unit):=
 ((f23 v1 [])).bind fun y2=>
 cond (!y2.1) (
  some ((0,[]),false,())) (
  some ((v1,[]),true,()))
noncomputable def f28 (v1:Int)(v2:cZ):Option (Int×Int×Unit):=
 cond (decide ((IntKind.wrap .i64 ((v2.length:Int)-1))<0)) (
  some (0,(IntKind.wrap .i64 ((v2.length:Int)-1)),())) (
  cond ((decide (0≤(IntKind.wrap .i64 ((v2.length:Int)-1))))&&(decide ((IntKind.wrap .i64 ((v2.length:Int)-1))<(v2.length:Int)))) (
   some ((rd bw v2 (Int.toNat (IntKind.wrap .i64 ((v2.length:Int)-1)))).1,(IntKind.wrap .i64 ((v2.length:Int)-1)),())) (
   none))
abbrev Fe:Type:=bx×(Unit)×aT×Unit
abbrev Od:Type:=bx×(Unit)×aT×Unit
abbrev Nk:Type:=Unit×Unit×Unit
noncomputable def VL (v1:Int)(v2:aT):Option (R3 Fe Od Nk):=
 cond (decide (128≤v1)) (
  cond ((decide (((v2.length+1) * 1)≤140737488355328))&&(decide ((v2.length+1)≤9223372036854775807))) (
   some (R3.next (((Int.fdiv v1 128),()),(),(v2++[(aG .or .u8 (IntKind.wrap .u8 v1) 128)]),()))) (
   none)) (
  some (R3.out ((v1,()),(),v2,())))
noncomputable def La (z:Fe):Option (R3 Fe Od Nk):=VL z.1.1 z.2.2.1
noncomputable def f150 (v1:aT)(v2:Int):Option sZ:=
 ((iter aA La ((v2,()),(),v1,()))).bind fun r=>match r with
 | .inl y3=>
   cond ((decide (((y3.2.2.1.length+1) * 1)≤140737488355328))&&(decide ((y3.2.2.1.length+1)≤9223372036854775807))) (
    some ((y3.2.2.1++[(IntKind.wrap .u8 y3.1.1)]),())) (
    none)
 | .inr z4=>
   none
noncomputable def W8 (v1:aT)(v2:Int):Option (List (Ty.T wM)):=(f150 v1 v2).map (·.1)
abbrev jI:Type:=bx×(Unit)×aT×Unit
abbrev pz:Type:=bx×(Unit)×aT×Unit
abbrev oI:Type:=Unit×Unit×Unit
noncomputable def zH (v1:Int)(v2:aT):Option (R3 jI pz oI):=
 cond (decide (128≤v1)) (
  cond ((decide (((v2.length+1) * 1)≤140737488355328))&&(decide ((v2.length+1)≤9223372036854775807))) (
   some (R3.next (((Int.fdiv v1 128),()),(),(v2++[(aG .or .u8 (IntKind.wrap .u8 v1) 128)]),()))) (
   none)) (
  some (R3.out ((v1,()),(),v2,())))
noncomputable def qn (z:jI):Option (R3 jI pz oI):=zH z.1.1 z.2.2.1
noncomputable def f147 (v1:Int):Option sZ:=
 ((f126 v1)).bind fun y2=>
 cond (!y2.1) (
  some ([],())) (
  ((iter aA qn ((v1,()),(),[],()))).bind fun r=>match r with
  | .inl y3=>
    cond ((decide (((y3.2.2.1.length+1) * 1)≤140737488355328))&&(decide ((y3.2.2.1.length+1)≤9223372036854775807))) (
     some ((y3.2.2.1++[(IntKind.wrap .u8 y3.1.1)]),())) (
     none)
  | .inr z4=>
    none)
abbrev Gg:Type:=((List aT)×Int×(List aT)×Int×Int×Unit)×(Unit)×(Unit)
abbrev K2:Type:=((List aT)×Int×Unit)×(Unit)×(Unit)
abbrev MJ:Type:=Unit×Unit×Unit
noncomputable def T3 (v1:(List aT))(v2:Int)(v3:(List aT))(v4 v5:Int):Option (R3 Gg K2 MJ):=
 cond (decide (v5<v4)) (
  cond ((decide (0≤v5))&&(decide (v5<(v3.length:Int)))) (
   cond (decide ((IntKind.wrap .i64 (v2+(((rd (.row wM) v3 (Int.toNat v5)).length:Nat):Int)))<0)) (
    none) (
    some (R3.next ((v1,(IntKind.wrap .i64 (v2+(((rd (.row wM) v3 (Int.toNat v5)).length:Nat):Int))),v3,v4,(IntKind.wrap .i64 (v5+1)),()),(),())))) (
   none)) (
  some (R3.out ((v1,v2,()),(),())))
noncomputable def NY (z:Gg):Option (R3 Gg K2 MJ):=T3 z.1.1 z.1.2.1 z.1.2.2.1 z.1.2.2.2.1 z.1.2.2.2.2.1
abbrev zU:Type:=((List aT)×Int×Int×Unit)×(Unit)×aT×Unit
abbrev Im:Type:=(Unit)×(Unit)×aT×Unit
abbrev G6:Type:=Unit×Unit×Unit
noncomputable def Qf (v1:(List aT))(v2 v3:Int)(v4:aT):Option (R3 zU Im G6):=
 cond (decide (v3<v2)) (
  cond ((decide (0≤v3))&&(decide (v3<(v1.length:Int)))) (
   cond ((decide (((v4.length+(rd (.row wM) v1 (Int.toNat v3)).length) * 1)≤140737488355328))&&(decide ((v4.length+(rd (.row wM) v1 (Int.toNat v3)).length)≤9223372036854775807))) (
    some (R3.next ((v1,v2,(IntKind.wrap .i64 (v3+1)),()),(),(v4++(rd (.row wM) v1 (Int.toNat v3))),()))) (
    none)) (
   none)) (
  some (R3.out ((),(),v4,())))
noncomputable def Ih (z:zU):Option (R3 zU Im G6):=Qf z.1.1 z.1.2.1 z.1.2.2.1 z.2.2.1
noncomputable def f152 (v1:(List aT)):Option sZ:=
 ((iter aA NY ((v1,0,v1,(v1.length:Int),0,()),(),()))).bind fun r=>match r with
 | .inl y2=>
   ((KG y2.1.2.1)).bind fun y4=>
   ((iter aA Ih ((y2.1.1,(y2.1.1.length:Int),0,()),(),y4.1,()))).bind fun r=>match r with
   | .inl y5=>
     some (y5.2.2.1,())
   | .inr z6=>
     none
 | .inr z3=>
   none
noncomputable def f151 (v1:aT):Option sZ:=
 ((f128 v1)).bind fun y2=>
 ((f127 y2.1)).bind fun y3=>
 ((f152 [v1,y3.1])).bind fun y4=>
 some (y4.1,())
noncomputable def f107 (v1:Int)(v2:aT):Option wo:=
 cond (decide (v1<0)) (
  some ([],false,())) (
  cond (decide (255<v1)) (
   some ([],false,())) (
   cond (decide (1000<(v2.length:Int))) (
    some ([],false,())) (
    ((f147 (v2.length:Int))).bind fun y3=>
    ((f152 [[(IntKind.wrap .u8 v1)],y3.1,v2])).bind fun y4=>
    ((f151 y4.1)).bind fun y5=>
    some (y5.1,true,()))))
noncomputable def f153 (v1:Int)(v2:cZ)(v3:Int)(v4:aT):Option Jw:=
 ((f23 v1 v2)).bind fun y5=>
 cond (!y5.1) (
  ((DY v1 v2)).bind fun y6=>
  some ((y6.1.1,y6.1.2),1,())) (
  ((f113 v1 v2 v3)).bind fun y7=>
  cond (decide (y7.1=(-1))) (
   ((DY v1 v2)).bind fun y8=>
   some ((y8.1.1,y8.1.2),5,())) (
   ((DY v1 v2)).bind fun y9=>
   ((f53 y9.1.2)).bind fun y10=>
   cond (decide ((IntKind.wrap .i64 (y9.1.1-y10.1))<(v4.length:Int))) (
    ((DY v1 v2)).bind fun y11=>
    some ((y11.1.1,y11.1.2),9,())) (
    cond ((decide (0≤y7.1))&&(decide (y7.1<(y9.1.2.length:Int)))) (
     cond (decide ((Int.toNat y7.1)<y9.1.2.length)) (
      cond (((decide ((Int.toNat y7.1)<y9.1.2.length))&&(decide ((rd bw y9.1.2 (Int.toNat y7.1)).2.1.length=(rd bw y9.1.2 (Int.toNat y7.1)).2.1.length)))&&(decide (((rd bw y9.1.2 (Int.toNat y7.1)).2.1.length+v4.length)≤140737488355328))) (
       cond ((decide (0≤y7.1))&&(decide (y7.1<(((y9.1.2.set (Int.toNat y7.1) ((rd bw y9.1.2 (Int.toNat y7.1)).1,((rd bw y9.1.2 (Int.toNat y7.1)).2.1++v4),(rd bw y9.1.2 (Int.toNat y7.1)).2.2)).length:Nat):Int)))) (
        cond ((((decide ((Int.toNat y7.1)<(y9.1.2.set (Int.toNat y7.1) ((rd bw y9.1.2 (Int.toNat y7.1)).1,((rd bw y9.1.2 (Int.toNat y7.1)).2.1++v4),(rd bw y9.1.2 (Int.toNat y7.1)).2.2)).length))&&(decide ((Int.toNat y7.1)=(Int.toNat y7.1))))&&(decide ((Int.toNat y7.1)=(Int.toNat y7.1))))&&(decide (((rd bw y9.1.2 (Int.toNat y7.1)).2.1.length+v4.length)≤(rd bw (y9.1.2.set (Int.toNat y7.1) ((rd bw y9.1.2 (Int.toNat y7.1)).1,((rd bw y9.1.2 (Int.toNat y7.1)).2.1++v4),(rd bw y9.1.2 (Int.toNat y7.1)).2.2)) (Int.toNat y7.1)).2.1.length))) (
         some ((y9.1.1,((y9.1.2.set (Int.toNat y7.1) ((rd bw y9.1.2 (Int.toNat y7.1)).1,((rd bw y9.1.2 (Int.toNat y7.1)).2.1++v4),(rd bw y9.1.2 (Int.toNat y7.1)).2.2)).set (Int.toNat y7.1) ((rd bw (y9.1.2.set (Int.toNat y7.1) ((rd bw y9.1.2 (Int.toNat y7.1)).1,((rd bw y9.1.2 (Int.toNat y7.1)).2.1++v4),(rd bw y9.1.2 (Int.toNat y7.1)).2.2)) (Int.toNat y7.1)).1,(List.take ((rd bw y9.1.2 (Int.toNat y7.1)).2.1.length+v4.length) (rd bw (y9.1.2.set (Int.toNat y7.1) ((rd bw y9.1.2 (Int.toNat y7.1)).1,((rd bw y9.1.2 (Int.toNat y7.1)).2.1++v4),(rd bw y9.1.2 (Int.toNat y7.1)).2.2)) (Int.toNat y7.1)).2.1),(rd bw (y9.1.2.set (Int.toNat y7.1) ((rd bw y9.1.2 (Int.toNat y7.1)).1,((rd bw y9.1.2 (Int.toNat y7.1)).2.1++v4),(rd bw y9.1.2 (Int.toNat y7.1)).2.2)) (Int.toNat y7.1)).2.2))),0,())) (
         none)) (
        none)) (
       none)) (
      none)) (
     none))))
noncomputable def f108 (v1:aT)(v2:Int)(v3:cZ)(v4:Int):Option Jw:=
 ((f153 v2 v3 v4 v1)).bind fun y5=>
 some ((y5.1.1,y5.1.2),y5.2.1,())
noncomputable def f109 (v1:Int)(v2:cZ)(v3:Int):Option Jw:=
 ((f23 v1 v2)).bind fun y4=>
 cond (!y4.1) (
  ((f112 v1 v2)).bind fun y5=>
  some ((y5.1.1,y5.1.2),1,())) (
  ((f113 v1 v2 v3)).bind fun y6=>
  cond (decide (y6.1=(-1))) (
   ((f112 v1 v2)).bind fun y7=>
   some ((y7.1.1,y7.1.2),5,())) (
   ((f112 v1 v2)).bind fun y8=>
   cond ((decide (0≤y6.1))&&(decide (y6.1<(y8.1.2.length:Int)))) (
    cond (decide ((Int.toNat y6.1)<y8.1.2.length)) (
     cond ((decide (0≤y6.1))&&(decide (y6.1<(y8.1.2.length:Int)))) (
      cond (decide ((Int.toNat y6.1)<y8.1.2.length)) (
       some ((y8.1.1,(y8.1.2.set (Int.toNat y6.1) ((rd bw y8.1.2 (Int.toNat y6.1)).1,(rd bw y8.1.2 (Int.toNat y6.1)).2.1,(((rd bw y8.1.2 (Int.toNat y6.1)).2.1.length:Nat):Int)))),0,())) (
       none)) (
      none)) (
     none)) (
    none)))
abbrev Gl:Type:=(aT×Int×Int×Unit)×(Unit)×aT×Unit
abbrev N1:Type:=(Unit)×(Unit)×aT×Unit
abbrev Kj:Type:=bq×(Unit)×aT×Unit
noncomputable def Wz (v1:aT)(v2 v3:Int)(v4:aT):Option (R3 Gl N1 Kj):=
 cond (decide (v3<v2)) (
  cond ((decide (0≤v3))&&(decide (v3<(v1.length:Int)))) (
   ((f126 (rd aW v1 (Int.toNat v3)))).bind fun y5=>
   cond (!y5.1) (
    some (R3.ret ((false,()),(),[],()))) (
    ((W8 v4 (rd aW v1 (Int.toNat v3)))).bind fun y6=>
    some (R3.next ((v1,v2,(IntKind.wrap .i64 (v3+1)),()),(),y6,())))) (
   none)) (
  some (R3.out ((),(),v4,())))
noncomputable def MB (z:Gl):Option (R3 Gl N1 Kj):=Wz z.1.1 z.1.2.1 z.1.2.2.1 z.2.2.1
noncomputable def f106 (v1:aT):Option wo:=
 cond (decide (400<(v1.length:Int))) (
  some ([],false,())) (
  ((iter aA MB ((v1,(v1.length:Int),0,()),(),[],()))).bind fun r=>match r with
  | .inl y2=>
    some (y2.2.2.1,true,())
  | .inr z3=>
    some (z3.2.2.1,z3.1.1,()))
noncomputable def f143 (v1 v2:Int):Option bx:=
 some ((IntKind.wrap .i64 ((IntKind.wrap .i64 (v1 * 8))+v2)),())
abbrev En:Type:=(aP×Int×Int×Unit)×(Unit)×aT×Unit
abbrev MS:Type:=(Unit)×(Unit)×aT×Unit
abbrev O0:Type:=Unit×Unit×Unit
noncomputable def UM (v1:aP)(v2 v3:Int)(v4:aT):Option (R3 En MS O0):=
 cond (decide (v3<v2)) (
  cond ((decide (0≤v3))&&(decide (v3<(v1.length:Int)))) (
   cond ((decide (((v4.length+3) * 8)≤140737488355328))&&(decide ((v4.length+3)≤9223372036854775807))) (
    some (R3.next ((v1,v2,(IntKind.wrap .i64 (v3+1)),()),(),(v4++[(rd ck v1 (Int.toNat v3)).1,(rd ck v1 (Int.toNat v3)).2.1,(rd ck v1 (Int.toNat v3)).2.2]),()))) (
    none)) (
   none)) (
  some (R3.out ((),(),v4,())))
noncomputable def Fz (z:En):Option (R3 En MS O0):=UM z.1.1 z.1.2.1 z.1.2.2.1 z.2.2.1
noncomputable def f144 (v1 v2 v3 v4 v5 v6 v7 v8 v9 v10 v11:Int)(v12:Bool)(v13:Int)(v14:aP)(v15:bT)(v16:aP):Option sZ:=
 cond v12 (
  cond (decide (11<15)) (
   cond (decide (11<15)) (
    ((iter aA Fz ((v14,(v14.length:Int),0,()),(),[v1,v2,v3,v4,v5,v6,v7,v8,v9,v10,v11,1,v13,(v15.length:Int),(v16.length:Int)],()))).bind fun r=>match r with
    | .inl y17=>
      some (y17.2.2.1,())
    | .inr z18=>
      none) (
    none)) (
   none)) (
  ((iter aA Fz ((v14,(v14.length:Int),0,()),(),[v1,v2,v3,v4,v5,v6,v7,v8,v9,v10,v11,0,v13,(v15.length:Int),(v16.length:Int)],()))).bind fun r=>match r with
  | .inl y19=>
    some (y19.2.2.1,())
  | .inr z20=>
    none)
abbrev jH:Type:=Pd×ow×(Unit)
abbrev qd:Type:=(Unit)×ow×(Unit)
abbrev qm:Type:=bx×ow×(Unit)
noncomputable def Ao (v1:aT)(v2 v3 v4:Int):Option (R3 jH qd qm):=
 cond (decide (v3<v2)) (
  cond ((decide (0≤v3))&&(decide (v3<(v1.length:Int)))) (
   cond (decide ((rd aW v1 (Int.toNat v3))<0)) (
    some (R3.ret ((v3,()),((v4,()),()),()))) (
    cond (!(decide (v4<0))) (
     cond (!(decide ((Int.fdiv (rd aW v1 (Int.toNat v3)) ((2:Int) ^ ((min (Int.toNat v4) 64):Nat)))=0))) (
      some (R3.ret ((v3,()),((v4,()),()),()))) (
      some (R3.next ((v1,(),v2,(IntKind.wrap .i64 (v3+1)),()),((v4,()),()),())))) (
     none))) (
   none)) (
  some (R3.out ((),((v4,()),()),())))
noncomputable def pS (z:jH):Option (R3 jH qd qm):=Ao z.1.1 z.1.2.2.1 z.1.2.2.2.1 z.2.1.1.1
abbrev Fu:Type:=WJ×ow×aT×Unit
abbrev zP:Type:=WJ×ow×aT×Unit
abbrev HC:Type:=WJ×ow×aT×Unit
abbrev Gt:Type:=Unit×Unit×Unit
noncomputable def QO (v1 v2:Int)(v3:aT)(v4 v5 v6:Int)(v7:aT):Option (R3 zP HC Gt):=
 cond (decide (8≤v2)) (
  cond ((decide (((v7.length+1) * 1)≤140737488355328))&&(decide ((v7.length+1)≤9223372036854775807))) (
   some (R3.next (((),(Int.fdiv v1 256),(IntKind.wrap .i64 (v2-8)),v3,v4,v5,()),((v6,()),()),(v7++[(IntKind.wrap .u8 v1)]),()))) (
   none)) (
  some (R3.out (((),v1,v2,v3,v4,v5,()),((v6,()),()),v7,())))
noncomputable def HM (z:zP):Option (R3 zP HC Gt):=QO z.1.2.1 z.1.2.2.1 z.1.2.2.2.1 z.1.2.2.2.2.1 z.1.2.2.2.2.2.1 z.2.1.1.1 z.2.2.1
abbrev NX:Type:=(Int×Int×Unit)×(Unit)×aT×Unit
abbrev Oo:Type:=Unit×Unit×Unit
noncomputable def V8 (v1 v2:Int)(v3:aT)(v4 v5 v6:Int)(v7:aT):Option (R3 Fu NX Oo):=
 cond (decide (v5<v4)) (
  cond ((decide (0≤v5))&&(decide (v5<(v3.length:Int)))) (
   cond (!(decide (v2<0))) (
    ((iter aA HM (((),(aG .or .u64 v1 (IntKind.wrap .u64 ((IntKind.wrap .u64 (rd aW v3 (Int.toNat v5))) * ((2:Int) ^ ((min (Int.toNat v2) 64):Nat))))),(IntKind.wrap .i64 (v2+v6)),v3,v4,v5,()),((v6,()),()),v7,()))).bind fun r=>match r with
    | .inl y8=>
      some (R3.next (((),y8.1.2.1,y8.1.2.2.1,y8.1.2.2.2.1,y8.1.2.2.2.2.1,(IntKind.wrap .i64 (y8.1.2.2.2.2.2.1+1)),()),((y8.2.1.1.1,()),()),y8.2.2.1,()))
    | .inr z9=>
      some (R3.ret ((),(),()))) (
    none)) (
   none)) (
  some (R3.out ((v1,v2,()),(),v7,())))
noncomputable def EP (z:Fu):Option (R3 Fu NX Oo):=V8 z.1.2.1 z.1.2.2.1 z.1.2.2.2.1 z.1.2.2.2.2.1 z.1.2.2.2.2.2.1 z.2.1.1.1 z.2.2.1
noncomputable def f145 (v1:aT)(v2:Int):Option wo:=
 ((f133 (v1.length:Int) v2)).bind fun y3=>
 cond (decide (y3.1=(-1))) (
  some ([],false,())) (
  ((iter aA pS ((v1,(),(v1.length:Int),0,()),((v2,()),()),()))).bind fun r=>match r with
  | .inl y4=>
    cond ((decide (0≤y3.1))&&(decide ((y3.1 * 1)≤140737488355328))) (
     ((iter aA EP (((),0,0,v1,(v1.length:Int),0,()),((y4.2.1.1.1,()),()),[],()))).bind fun r=>match r with
     | .inl y6=>
       cond (decide (0<y6.1.2.1)) (
        cond ((decide (((y6.2.2.1.length+1) * 1)≤140737488355328))&&(decide ((y6.2.2.1.length+1)≤9223372036854775807))) (
         some ((y6.2.2.1++[(IntKind.wrap .u8 y6.1.1)]),true,())) (
         none)) (
        some (y6.2.2.1,true,()))
     | .inr z7=>
       none) (
     none)
  | .inr z5=>
    cond (decide (0≤z5.1.1)) (
     some ([],false,())) (
     cond ((decide (0≤y3.1))&&(decide ((y3.1 * 1)≤140737488355328))) (
      ((iter aA EP (((),0,0,v1,(v1.length:Int),0,()),((z5.2.1.1.1,()),()),[],()))).bind fun r=>match r with
      | .inl y8=>
        cond (decide (0<y8.1.2.1)) (
         cond ((decide (((y8.2.2.1.length+1) * 1)≤140737488355328))&&(decide ((y8.2.2.1.length+1)≤9223372036854775807))) (
          some ((y8.2.2.1++[(IntKind.wrap .u8 y8.1.1)]),true,())) (
          none)) (
         some (y8.2.2.1,true,()))
      | .inr z9=>
        none) (
      none)))
noncomputable def f178 (v1:Int):Option bx:=
 cond (decide (v1<(-274877906944))) (
  some ((-1),())) (
  cond (decide (274877906944<v1)) (
   some ((-1),())) (
   cond (decide (v1<0)) (
    some ((aG .xor .i64 (-1) (IntKind.wrap .i64 (v1 * 2))),())) (
    some ((IntKind.wrap .i64 (v1 * 2)),()))))
abbrev ER:Type:=Pd×ow×aT×Unit
abbrev NN:Type:=(Unit)×(Unit)×aT×Unit
abbrev L7:Type:=bq×(Unit)×aT×Unit
noncomputable def VY (v1:aT)(v2 v3 v4:Int)(v5:aT):Option (R3 ER NN L7):=
 cond (decide (v3<v2)) (
  cond ((decide (0≤v3))&&(decide (v3<(v1.length:Int)))) (
   ((f136 (rd aW v1 (Int.toNat v3)))).bind fun y6=>
   cond (!y6.1) (
    some (R3.ret ((false,()),(),[],()))) (
    cond ((decide (0≤v3))&&(decide (v3<(v1.length:Int)))) (
     ((f178 (IntKind.wrap .i64 ((rd aW v1 (Int.toNat v3))-v4)))).bind fun y7=>
     cond ((decide (0≤v3))&&(decide (v3<(v5.length:Int)))) (
      cond (decide ((Int.toNat v3)<v5.length)) (
       some (R3.next ((v1,(),v2,(IntKind.wrap .i64 (v3+1)),()),(((rd aW v1 (Int.toNat v3)),()),()),(v5.set (Int.toNat v3) y7.1),()))) (
       none)) (
      none)) (
     none))) (
   none)) (
  some (R3.out ((),(),v5,())))
noncomputable def LS (z:ER):Option (R3 ER NN L7):=VY z.1.1 z.1.2.2.1 z.1.2.2.2.1 z.2.1.1.1 z.2.2.1
noncomputable def f146 (v1:aT):Option wo:=
 cond (((decide (0≤(v1.length:Int)))&&(decide ((v1.length:Int)≤(v1.length:Int))))&&(decide (((v1.length:Int) * 8)≤140737488355328))) (
  ((iter aA LS ((v1,(),(v1.length:Int),0,()),((0,()),()),(List.replicate (Int.toNat (v1.length:Int)) 0),()))).bind fun r=>match r with
  | .inl y2=>
    ((f106 y2.2.2.1)).bind fun y4=>
    some (y4.1,y4.2.1,())
  | .inr z3=>
    some (z3.2.2.1,z3.1.1,())) (
  none)
abbrev jU:Type:=(bT×Unit×Int×Int×Unit)×Ap×(Unit)
abbrev pL:Type:=(Unit)×Ap×(Unit)
abbrev oF:Type:=bx×Ap×(Unit)
noncomputable def AF (v1:bT)(v2 v3 v4 v5 v6 v7 v8 v9 v10 v11 v12 v13 v14:Int)(v15:Bool)(v16:Int)(v17:aP)(v18:bT)(v19:aP):Option (R3 jU pL oF):=
 cond (decide (v3<v2)) (
  cond ((decide (0≤v3))&&(decide (v3<(v1.length:Int)))) (
   cond (!(decide ((rd cQ v1 (Int.toNat v3)).2.2.2.2=v16))) (
    some (R3.ret ((v3,()),((v4,v5,v6,v7,v8,v9,v10,v11,v12,v13,v14,v15,v16,v17,v18,v19,()),()),()))) (
    some (R3.next ((v1,(),v2,(IntKind.wrap .i64 (v3+1)),()),((v4,v5,v6,v7,v8,v9,v10,v11,v12,v13,v14,v15,v16,v17,v18,v19,()),()),())))) (
   none)) (
  some (R3.out ((),((v4,v5,v6,v7,v8,v9,v10,v11,v12,v13,v14,v15,v16,v17,v18,v19,()),()),())))
noncomputable def pX (z:jU):Option (R3 jU pL oF):=AF z.1.1 z.1.2.2.1 z.1.2.2.2.1 z.2.1.1.1 z.2.1.1.2.1 z.2.1.1.2.2.1 z.2.1.1.2.2.2.1 z.2.1.1.2.2.2.2.1 z.2.1.1.2.2.2.2.2.1 z.2.1.1.2.2.2.2.2.2.1 z.2.1.1.2.2.2.2.2.2.2.1 z.2.1.1.2.2.2.2.2.2.2.2.1 z.2.1.1.2.2.2.2.2.2.2.2.2.1 z.2.1.1.2.2.2.2.2.2.2.2.2.2.1 z.2.1.1.2.2.2.2.2.2.2.2.2.2.2.1 z.2.1.1.2.2.2.2.2.2.2.2.2.2.2.2.1 z.2.1.1.2.2.2.2.2.2.2.2.2.2.2.2.2.1 z.2.1.1.2.2.2.2.2.2.2.2.2.2.2.2.2.2.1 z.2.1.1.2.2.2.2.2.2.2.2.2.2.2.2.2.2.2.1
abbrev Gh:Type:=(Unit×bT×Int×Int×Unit)×Ap×aT×aT×aT×aT×Unit
abbrev Md:Type:=rM×Ap×aT×aT×aT×aT×Unit
abbrev MV:Type:=Unit×Unit×Unit
noncomputable def UP (v1:bT)(v2 v3 v4 v5 v6 v7 v8 v9 v10 v11 v12 v13 v14:Int)(v15:Bool)(v16:Int)(v17:aP)(v18:bT)(v19:aP)(v20 v21 v22 v23:aT):Option (R3 Gh Md MV):=
 cond (decide (v3<v2)) (
  cond ((decide (0≤v3))&&(decide (v3<(v1.length:Int)))) (
   ((f143 (rd cQ v1 (Int.toNat v3)).2.1 (rd cQ v1 (Int.toNat v3)).2.2.1)).bind fun y24=>
   cond ((decide (((v20.length+1) * 8)≤140737488355328))&&(decide ((v20.length+1)≤9223372036854775807))) (
    cond ((decide (((v21.length+1) * 8)≤140737488355328))&&(decide ((v21.length+1)≤9223372036854775807))) (
     some (R3.next (((),v1,v2,(IntKind.wrap .i64 (v3+1)),()),((v4,v5,v6,v7,v8,v9,v10,v11,v12,v13,v14,v15,v16,v17,v18,v19,()),()),(v20++[(aG .or .i64 (IntKind.wrap .i64 ((rd cQ v1 (Int.toNat v3)).1 * 32)) y24.1)]),(v21++[(rd cQ v1 (Int.toNat v3)).2.2.2.1]),v22,v23,()))) (
     none)) (
    none)) (
   none)) (
  some (R3.out (((),()),((v4,v5,v6,v7,v8,v9,v10,v11,v12,v13,v14,v15,v16,v17,v18,v19,()),()),v20,v21,v22,v23,())))
noncomputable def Fo (z:Gh):Option (R3 Gh Md MV):=UP z.1.2.1 z.1.2.2.1 z.1.2.2.2.1 z.2.1.1.1 z.2.1.1.2.1 z.2.1.1.2.2.1 z.2.1.1.2.2.2.1 z.2.1.1.2.2.2.2.1 z.2.1.1.2.2.2.2.2.1 z.2.1.1.2.2.2.2.2.2.1 z.2.1.1.2.2.2.2.2.2.2.1 z.2.1.1.2.2.2.2.2.2.2.2.1 z.2.1.1.2.2.2.2.2.2.2.2.2.1 z.2.1.1.2.2.2.2.2.2.2.2.2.2.1 z.2.1.1.2.2.2.2.2.2.2.2.2.2.2.1 z.2.1.1.2.2.2.2.2.2.2.2.2.2.2.2.1 z.2.1.1.2.2.2.2.2.2.2.2.2.2.2.2.2.1 z.2.1.1.2.2.2.2.2.2.2.2.2.2.2.2.2.2.1 z.2.1.1.2.2.2.2.2.2.2.2.2.2.2.2.2.2.2.1 z.2.2.1 z.2.2.2.1 z.2.2.2.2.1 z.2.2.2.2.2.1
abbrev Aq:Type:=(Unit×aP×Int×Int×Unit)×Ap×aT×aT×aT×aT×Unit
abbrev GB:Type:=rM×Ap×aT×aT×aT×aT×Unit
abbrev GR:Type:=Unit×Unit×Unit
noncomputable def Rk (v1:aP)(v2 v3 v4 v5 v6 v7 v8 v9 v10 v11 v12 v13 v14:Int)(v15:Bool)(v16:Int)(v17:aP)(v18:bT)(v19:aP)(v20 v21 v22 v23:aT):Option (R3 Aq GB GR):=
 cond (decide (v3<v2)) (
  cond ((decide (0≤v3))&&(decide (v3<(v1.length:Int)))) (
   ((f143 (rd ck v1 (Int.toNat v3)).1 (rd ck v1 (Int.toNat v3)).2.1)).bind fun y24=>
   cond ((decide (((v22.length+1) * 8)≤140737488355328))&&(decide ((v22.length+1)≤9223372036854775807))) (
    cond ((decide (((v23.length+1) * 8)≤140737488355328))&&(decide ((v23.length+1)≤9223372036854775807))) (
     some (R3.next (((),v1,v2,(IntKind.wrap .i64 (v3+1)),()),((v4,v5,v6,v7,v8,v9,v10,v11,v12,v13,v14,v15,v16,v17,v18,v19,()),()),v20,v21,(v22++[y24.1]),(v23++[(rd ck v1 (Int.toNat v3)).2.2]),()))) (
     none)) (
    none)) (
   none)) (
  some (R3.out (((),()),((v4,v5,v6,v7,v8,v9,v10,v11,v12,v13,v14,v15,v16,v17,v18,v19,()),()),v20,v21,v22,v23,())))
noncomputable def yq (z:Aq):Option (R3 Aq GB GR):=Rk z.1.2.1 z.1.2.2.1 z.1.2.2.2.1 z.2.1.1.1 z.2.1.1.2.1 z.2.1.1.2.2.1 z.2.1.1.2.2.2.1 z.2.1.1.2.2.2.2.1 z.2.1.1.2.2.2.2.2.1 z.2.1.1.2.2.2.2.2.2.1 z.2.1.1.2.2.2.2.2.2.2.1 z.2.1.1.2.2.2.2.2.2.2.2.1 z.2.1.1.2.2.2.2.2.2.2.2.2.1 z.2.1.1.2.2.2.2.2.2.2.2.2.2.1 z.2.1.1.2.2.2.2.2.2.2.2.2.2.2.1 z.2.1.1.2.2.2.2.2.2.2.2.2.2.2.2.1 z.2.1.1.2.2.2.2.2.2.2.2.2.2.2.2.2.1 z.2.1.1.2.2.2.2.2.2.2.2.2.2.2.2.2.2.1 z.2.1.1.2.2.2.2.2.2.2.2.2.2.2.2.2.2.2.1 z.2.2.1 z.2.2.2.1 z.2.2.2.2.1 z.2.2.2.2.2.1
noncomputable def f101 (v1 v2 v3 v4 v5 v6 v7 v8 v9 v10 v11:Int)(v12:Bool)(v13:Int)(v14:aP)(v15:bT)(v16:aP):Option wo:=
 ((f11 v1 v2 v3 v4 v5 v6 v7 v8 v9 v10 v11 v12 v13 v14 v15 v16)).bind fun y17=>
 cond (!y17.1) (
  some ([],false,())) (
  ((iter aA pX ((v15,(),(v15.length:Int),0,()),((v1,v2,v3,v4,v5,v6,v7,v8,v9,v10,v11,v12,v13,v14,v15,v16,()),()),()))).bind fun r=>match r with
  | .inl y18=>
    ((iter aA Fo (((),y18.2.1.1.2.2.2.2.2.2.2.2.2.2.2.2.2.2.1,(y18.2.1.1.2.2.2.2.2.2.2.2.2.2.2.2.2.2.1.length:Int),0,()),((y18.2.1.1.1,y18.2.1.1.2.1,y18.2.1.1.2.2.1,y18.2.1.1.2.2.2.1,y18.2.1.1.2.2.2.2.1,y18.2.1.1.2.2.2.2.2.1,y18.2.1.1.2.2.2.2.2.2.1,y18.2.1.1.2.2.2.2.2.2.2.1,y18.2.1.1.2.2.2.2.2.2.2.2.1,y18.2.1.1.2.2.2.2.2.2.2.2.2.1,y18.2.1.1.2.2.2.2.2.2.2.2.2.2.1,y18.2.1.1.2.2.2.2.2.2.2.2.2.2.2.1,y18.2.1.1.2.2.2.2.2.2.2.2.2.2.2.2.1,y18.2.1.1.2.2.2.2.2.2.2.2.2.2.2.2.2.1,y18.2.1.1.2.2.2.2.2.2.2.2.2.2.2.2.2.2.1,y18.2.1.1.2.2.2.2.2.2.2.2.2.2.2.2.2.2.2.1,()),()),[],[],[],[],()))).bind fun r=>match r with
    | .inl y20=>
      ((iter aA yq (((),y20.2.1.1.2.2.2.2.2.2.2.2.2.2.2.2.2.2.2.1,(y20.2.1.1.2.2.2.2.2.2.2.2.2.2.2.2.2.2.2.1.length:Int),0,()),((y20.2.1.1.1,y20.2.1.1.2.1,y20.2.1.1.2.2.1,y20.2.1.1.2.2.2.1,y20.2.1.1.2.2.2.2.1,y20.2.1.1.2.2.2.2.2.1,y20.2.1.1.2.2.2.2.2.2.1,y20.2.1.1.2.2.2.2.2.2.2.1,y20.2.1.1.2.2.2.2.2.2.2.2.1,y20.2.1.1.2.2.2.2.2.2.2.2.2.1,y20.2.1.1.2.2.2.2.2.2.2.2.2.2.1,y20.2.1.1.2.2.2.2.2.2.2.2.2.2.2.1,y20.2.1.1.2.2.2.2.2.2.2.2.2.2.2.2.1,y20.2.1.1.2.2.2.2.2.2.2.2.2.2.2.2.2.1,y20.2.1.1.2.2.2.2.2.2.2.2.2.2.2.2.2.2.1,y20.2.1.1.2.2.2.2.2.2.2.2.2.2.2.2.2.2.2.1,()),()),y20.2.2.1,y20.2.2.2.1,y20.2.2.2.2.1,y20.2.2.2.2.2.1,()))).bind fun r=>match r with
      | .inl y22=>
        ((f144 y22.2.1.1.1 y22.2.1.1.2.1 y22.2.1.1.2.2.1 y22.2.1.1.2.2.2.1 y22.2.1.1.2.2.2.2.1 y22.2.1.1.2.2.2.2.2.1 y22.2.1.1.2.2.2.2.2.2.1 y22.2.1.1.2.2.2.2.2.2.2.1 y22.2.1.1.2.2.2.2.2.2.2.2.1 y22.2.1.1.2.2.2.2.2.2.2.2.2.1 y22.2.1.1.2.2.2.2.2.2.2.2.2.2.1 y22.2.1.1.2.2.2.2.2.2.2.2.2.2.2.1 y22.2.1.1.2.2.2.2.2.2.2.2.2.2.2.2.1 y22.2.1.1.2.2.2.2.2.2.2.2.2.2.2.2.2.1 y22.2.1.1.2.2.2.2.2.2.2.2.2.2.2.2.2.2.1 y22.2.1.1.2.2.2.2.2.2.2.2.2.2.2.2.2.2.2.1)).bind fun y24=>
        ((f106 y24.1)).bind fun y25=>
        ((f145 y22.2.2.1 10)).bind fun y26=>
        ((f146 y22.2.2.2.1)).bind fun y27=>
        ((f145 y22.2.2.2.2.1 5)).bind fun y28=>
        ((f146 y22.2.2.2.2.2.1)).bind fun y29=>
        ((f147 (y25.1.length:Int))).bind fun y30=>
        cond ((decide ((y30.1.length * 1)≤140737488355328))&&(decide (y30.1.length≤9223372036854775807))) (
         cond ((decide (((y30.1.length+y25.1.length) * 1)≤140737488355328))&&(decide ((y30.1.length+y25.1.length)≤9223372036854775807))) (
          ((f147 (y26.1.length:Int))).bind fun y31=>
          cond ((decide ((((y30.1++y25.1).length+y31.1.length) * 1)≤140737488355328))&&(decide (((y30.1++y25.1).length+y31.1.length)≤9223372036854775807))) (
           cond ((decide (((((y30.1++y25.1)++y31.1).length+y26.1.length) * 1)≤140737488355328))&&(decide ((((y30.1++y25.1)++y31.1).length+y26.1.length)≤9223372036854775807))) (
            ((f147 (y27.1.length:Int))).bind fun y32=>
            cond ((decide ((((((y30.1++y25.1)++y31.1)++y26.1).length+y32.1.length) * 1)≤140737488355328))&&(decide (((((y30.1++y25.1)++y31.1)++y26.1).length+y32.1.length)≤9223372036854775807))) (
             cond ((decide (((((((y30.1++y25.1)++y31.1)++y26.1)++y32.1).length+y27.1.length) * 1)≤140737488355328))&&(decide ((((((y30.1++y25.1)++y31.1)++y26.1)++y32.1).length+y27.1.length)≤9223372036854775807))) (
              ((f147 (y28.1.length:Int))).bind fun y33=>
              cond ((decide ((((((((y30.1++y25.1)++y31.1)++y26.1)++y32.1)++y27.1).length+y33.1.length) * 1)≤140737488355328))&&(decide (((((((y30.1++y25.1)++y31.1)++y26.1)++y32.1)++y27.1).length+y33.1.length)≤9223372036854775807))) (
               cond ((decide (((((((((y30.1++y25.1)++y31.1)++y26.1)++y32.1)++y27.1)++y33.1).length+y28.1.length) * 1)≤140737488355328))&&(decide ((((((((y30.1++y25.1)++y31.1)++y26.1)++y32.1)++y27.1)++y33.1).length+y28.1.length)≤9223372036854775807))) (
                ((f147 (y29.1.length:Int))).bind fun y34=>
                cond ((decide ((((((((((y30.1++y25.1)++y31.1)++y26.1)++y32.1)++y27.1)++y33.1)++y28.1).length+y34.1.length) * 1)≤140737488355328))&&(decide (((((((((y30.1++y25.1)++y31.1)++y26.1)++y32.1)++y27.1)++y33.1)++y28.1).length+y34.1.length)≤9223372036854775807))) (
                 cond ((decide (((((((((((y30.1++y25.1)++y31.1)++y26.1)++y32.1)++y27.1)++y33.1)++y28.1)++y34.1).length+y29.1.length) * 1)≤140737488355328))&&(decide ((((((((((y30.1++y25.1)++y31.1)++y26.1)++y32.1)++y27.1)++y33.1)++y28.1)++y34.1).length+y29.1.length)≤9223372036854775807))) (
                  some ((((((((((y30.1++y25.1)++y31.1)++y26.1)++y32.1)++y27.1)++y33.1)++y28.1)++y34.1)++y29.1),true,())) (
                  none)) (
                 none)) (
                none)) (
               none)) (
              none)) (
             none)) (
            none)) (
           none)) (
          none)) (
         none)
      | .inr z23=>
        none
    | .inr z21=>
      none
  | .inr z19=>
    cond (decide (0≤z19.1.1)) (
     some ([],false,())) (
     ((iter aA Fo (((),z19.2.1.1.2.2.2.2.2.2.2.2.2.2.2.2.2.2.1,(z19.2.1.1.2.2.2.2.2.2.2.2.2.2.2.2.2.2.1.length:Int),0,()),((z19.2.1.1.1,z19.2.1.1.2.1,z19.2.1.1.2.2.1,z19.2.1.1.2.2.2.1,z19.2.1.1.2.2.2.2.1,z19.2.1.1.2.2.2.2.2.1,z19.2.1.1.2.2.2.2.2.2.1,z19.2.1.1.2.2.2.2.2.2.2.1,z19.2.1.1.2.2.2.2.2.2.2.2.1,z19.2.1.1.2.2.2.2.2.2.2.2.2.1,z19.2.1.1.2.2.2.2.2.2.2.2.2.2.1,z19.2.1.1.2.2.2.2.2.2.2.2.2.2.2.1,z19.2.1.1.2.2.2.2.2.2.2.2.2.2.2.2.1,z19.2.1.1.2.2.2.2.2.2.2.2.2.2.2.2.2.1,z19.2.1.1.2.2.2.2.2.2.2.2.2.2.2.2.2.2.1,z19.2.1.1.2.2.2.2.2.2.2.2.2.2.2.2.2.2.2.1,()),()),[],[],[],[],()))).bind fun r=>match r with
     | .inl y35=>
       ((iter aA yq (((),y35.2.1.1.2.2.2.2.2.2.2.2.2.2.2.2.2.2.2.1,(y35.2.1.1.2.2.2.2.2.2.2.2.2.2.2.2.2.2.2.1.length:Int),0,()),((y35.2.1.1.1,y35.2.1.1.2.1,y35.2.1.1.2.2.1,y35.2.1.1.2.2.2.1,y35.2.1.1.2.2.2.2.1,y35.2.1.1.2.2.2.2.2.1,y35.2.1.1.2.2.2.2.2.2.1,y35.2.1.1.2.2.2.2.2.2.2.1,y35.2.1.1.2.2.2.2.2.2.2.2.1,y35.2.1.1.2.2.2.2.2.2.2.2.2.1,y35.2.1.1.2.2.2.2.2.2.2.2.2.2.1,y35.2.1.1.2.2.2.2.2.2.2.2.2.2.2.1,y35.2.1.1.2.2.2.2.2.2.2.2.2.2.2.2.1,y35.2.1.1.2.2.2.2.2.2.2.2.2.2.2.2.2.1,y35.2.1.1.2.2.2.2.2.2.2.2.2.2.2.2.2.2.1,y35.2.1.1.2.2.2.2.2.2.2.2.2.2.2.2.2.2.2.1,()),()),y35.2.2.1,y35.2.2.2.1,y35.2.2.2.2.1,y35.2.2.2.2.2.1,()))).bind fun r=>match r with
       | .inl y37=>
         ((f144 y37.2.1.1.1 y37.2.1.1.2.1 y37.2.1.1.2.2.1 y37.2.1.1.2.2.2.1 y37.2.1.1.2.2.2.2.1 y37.2.1.1.2.2.2.2.2.1 y37.2.1.1.2.2.2.2.2.2.1 y37.2.1.1.2.2.2.2.2.2.2.1 y37.2.1.1.2.2.2.2.2.2.2.2.1 y37.2.1.1.2.2.2.2.2.2.2.2.2.1 y37.2.1.1.2.2.2.2.2.2.2.2.2.2.1 y37.2.1.1.2.2.2.2.2.2.2.2.2.2.2.1 y37.2.1.1.2.2.2.2.2.2.2.2.2.2.2.2.1 y37.2.1.1.2.2.2.2.2.2.2.2.2.2.2.2.2.1 y37.2.1.1.2.2.2.2.2.2.2.2.2.2.2.2.2.2.1 y37.2.1.1.2.2.2.2.2.2.2.2.2.2.2.2.2.2.2.1)).bind fun y39=>
         ((f106 y39.1)).bind fun y40=>
         ((f145 y37.2.2.1 10)).bind fun y41=>
         ((f146 y37.2.2.2.1)).bind fun y42=>
         ((f145 y37.2.2.2.2.1 5)).bind fun y43=>
         ((f146 y37.2.2.2.2.2.1)).bind fun y44=>
         ((f147 (y40.1.length:Int))).bind fun y45=>
         cond ((decide ((y45.1.length * 1)≤140737488355328))&&(decide (y45.1.length≤9223372036854775807))) (
          cond ((decide (((y45.1.length+y40.1.length) * 1)≤140737488355328))&&(decide ((y45.1.length+y40.1.length)≤9223372036854775807))) (
           ((f147 (y41.1.length:Int))).bind fun y46=>
           cond ((decide ((((y45.1++y40.1).length+y46.1.length) * 1)≤140737488355328))&&(decide (((y45.1++y40.1).length+y46.1.length)≤9223372036854775807))) (
            cond ((decide (((((y45.1++y40.1)++y46.1).length+y41.1.length) * 1)≤140737488355328))&&(decide ((((y45.1++y40.1)++y46.1).length+y41.1.length)≤9223372036854775807))) (
             ((f147 (y42.1.length:Int))).bind fun y47=>
             cond ((decide ((((((y45.1++y40.1)++y46.1)++y41.1).length+y47.1.length) * 1)≤140737488355328))&&(decide (((((y45.1++y40.1)++y46.1)++y41.1).length+y47.1.length)≤9223372036854775807))) (
              cond ((decide (((((((y45.1++y40.1)++y46.1)++y41.1)++y47.1).length+y42.1.length) * 1)≤140737488355328))&&(decide ((((((y45.1++y40.1)++y46.1)++y41.1)++y47.1).length+y42.1.length)≤9223372036854775807))) (
               ((f147 (y43.1.length:Int))).bind fun y48=>
               cond ((decide ((((((((y45.1++y40.1)++y46.1)++y41.1)++y47.1)++y42.1).length+y48.1.length) * 1)≤140737488355328))&&(decide (((((((y45.1++y40.1)++y46.1)++y41.1)++y47.1)++y42.1).length+y48.1.length)≤9223372036854775807))) (
                cond ((decide (((((((((y45.1++y40.1)++y46.1)++y41.1)++y47.1)++y42.1)++y48.1).length+y43.1.length) * 1)≤140737488355328))&&(decide ((((((((y45.1++y40.1)++y46.1)++y41.1)++y47.1)++y42.1)++y48.1).length+y43.1.length)≤9223372036854775807))) (
                 ((f147 (y44.1.length:Int))).bind fun y49=>
                 cond ((decide ((((((((((y45.1++y40.1)++y46.1)++y41.1)++y47.1)++y42.1)++y48.1)++y43.1).length+y49.1.length) * 1)≤140737488355328))&&(decide (((((((((y45.1++y40.1)++y46.1)++y41.1)++y47.1)++y42.1)++y48.1)++y43.1).length+y49.1.length)≤9223372036854775807))) (
                  cond ((decide (((((((((((y45.1++y40.1)++y46.1)++y41.1)++y47.1)++y42.1)++y48.1)++y43.1)++y49.1).length+y44.1.length) * 1)≤140737488355328))&&(decide ((((((((((y45.1++y40.1)++y46.1)++y41.1)++y47.1)++y42.1)++y48.1)++y43.1)++y49.1).length+y44.1.length)≤9223372036854775807))) (
                   some ((((((((((y45.1++y40.1)++y46.1)++y41.1)++y47.1)++y42.1)++y48.1)++y43.1)++y49.1)++y44.1),true,())) (
                   none)) (
                  none)) (
                 none)) (
                none)) (
               none)) (
              none)) (
             none)) (
            none)) (
           none)) (
          none)
       | .inr z38=>
         none
     | .inr z36=>
       none))
noncomputable def f103 (v1:Int)(v2:cZ)(v3:Int):Option Jw:=
 ((f112 v1 v2)).bind fun y4=>
 ((f23 v1 v2)).bind fun y5=>
 cond (!y5.1) (
  some ((y4.1.1,y4.1.2),1,())) (
  cond (decide (v3<1)) (
   some ((y4.1.1,y4.1.2),1,())) (
   cond (decide (1073741824<v3)) (
    some ((y4.1.1,y4.1.2),1,())) (
    ((f113 v1 v2 v3)).bind fun y6=>
    cond (!(decide (y6.1=(-1)))) (
     some ((y4.1.1,y4.1.2),11,())) (
     cond (decide ((v2.length:Int)=12)) (
      some ((y4.1.1,y4.1.2),9,())) (
      ((f149 v1 v2 v3)).bind fun y7=>
      ((Cg y4.1.2 y7.1 [(v3,[],0)])).bind fun y8=>
      some ((y4.1.1,y8),0,()))))))
noncomputable def f49 (v1:Int)(v2:cZ)(v3 v4 v5 v6 v7 v8 v9 v10 v11 v12 v13:Int)(v14:Bool)(v15:Int)(v16:aP)(v17:bT)(v18:aP):Option (LJ×Int×Unit):=
 ((f101 v3 v4 v5 v6 v7 v8 v9 v10 v11 v12 v13 v14 v15 v16 v17 v18)).bind fun y19=>
 ((f28 v1 v2)).bind fun y20=>
 cond (!y19.2.1) (
  some (((0,[]),0,0),1,())) (
  ((f23 v1 v2)).bind fun y21=>
  cond (!y21.1) (
   some (((0,[]),0,0),1,())) (
   cond (decide (y20.1=1073741824)) (
    some (((0,[]),0,0),1,())) (
    ((f103 v1 v2 (IntKind.wrap .i64 (y20.1+1)))).bind fun y22=>
    cond (decide (y22.2.1=0)) (
     ((f107 1 y19.1)).bind fun y23=>
     cond (!y23.2.1) (
      some (((0,[]),0,0),1,())) (
      cond (decide (y22.2.1=0)) (
       ((f108 y23.1 y22.1.1 y22.1.2 (IntKind.wrap .i64 (y20.1+1)))).bind fun y24=>
       cond (decide (y24.2.1=0)) (
        ((f109 y24.1.1 y24.1.2 (IntKind.wrap .i64 (y20.1+1)))).bind fun y25=>
        cond (!(decide (y25.2.1=0))) (
         some (((0,[]),0,0),y25.2.1,())) (
         some (((y25.1.1,y25.1.2),(IntKind.wrap .i64 (y20.1+1)),v15),0,()))) (
        cond (!(decide (y24.2.1=0))) (
         some (((0,[]),0,0),y24.2.1,())) (
         some (((y24.1.1,y24.1.2),(IntKind.wrap .i64 (y20.1+1)),v15),0,())))) (
       cond (decide (y22.2.1=0)) (
        ((f109 y22.1.1 y22.1.2 (IntKind.wrap .i64 (y20.1+1)))).bind fun y26=>
        cond (!(decide (y26.2.1=0))) (
         some (((0,[]),0,0),y26.2.1,())) (
         some (((y26.1.1,y26.1.2),(IntKind.wrap .i64 (y20.1+1)),v15),0,()))) (
        cond (!(decide (y22.2.1=0))) (
         some (((0,[]),0,0),y22.2.1,())) (
         some (((y22.1.1,y22.1.2),(IntKind.wrap .i64 (y20.1+1)),v15),0,())))))) (
     cond (!(decide (y22.2.1=0))) (
      some (((0,[]),0,0),y22.2.1,())) (
      some (((y22.1.1,y22.1.2),(IntKind.wrap .i64 (y20.1+1)),v15),0,()))))))
noncomputable def f21  : Option (LJ×Ov×Unit):=
 (f47).bind fun y1=>
 ((f46 y1.1.1.1 y1.1.1.2 y1.1.2.1.1 y1.1.2.1.2 y1.1.2.2.1 y1.1.2.2.2.1 y1.1.2.2.2.2.1 y1.1.2.2.2.2.2 1 9 5 false)).bind fun y2=>
 ((f48 2000)).bind fun y3=>
 ((f49 y3.1.1 y3.1.2 y2.1.1.1.1 y2.1.1.1.2 y2.1.1.2.1.1 y2.1.1.2.1.2 y2.1.1.2.2.1 y2.1.1.2.2.2.1 y2.1.1.2.2.2.2.1 y2.1.1.2.2.2.2.2 y2.1.2.1.1 y2.1.2.1.2.1 y2.1.2.1.2.2.1 y2.1.2.1.2.2.2 y2.1.2.2.1 y2.1.2.2.2.1 y2.1.2.2.2.2.1 y2.1.2.2.2.2.2)).bind fun y4=>
 some (((y4.1.1.1,y4.1.1.2),y4.1.2.1,y4.1.2.2),(((y2.1.1.1.1,y2.1.1.1.2),(y2.1.1.2.1.1,y2.1.1.2.1.2),y2.1.1.2.2.1,y2.1.1.2.2.2.1,y2.1.1.2.2.2.2.1,y2.1.1.2.2.2.2.2),(y2.1.2.1.1,y2.1.2.1.2.1,y2.1.2.1.2.2.1,y2.1.2.1.2.2.2),y2.1.2.2.1,y2.1.2.2.2.1,y2.1.2.2.2.2.1,y2.1.2.2.2.2.2),())
noncomputable def f10 (v1:Int)(v2:cZ)(v3 v4:Int):Option bq:=
 ((f28 v1 v2)).bind fun y5=>
 ((f23 v1 v2)).bind fun y6=>
 cond y6.1 (
  cond (decide (0<y5.1)) (
   cond (decide (y5.1=v3)) (
    cond (decide (0≤v4)) (
     some ((decide (v4≤1073741824)),())) (
     some (false,()))) (
    some (false,()))) (
   some (false,()))) (
  some (false,()))
abbrev LZ:Type:=(Unit×Unit×Unit×cZ×Int×Int×Unit)×((Int×cZ×Int×Int×Unit)×Jh×wg×Unit)×cZ×cZ×Unit
abbrev TH:Type:=(Unit×Unit×Unit×Unit)×((Int×cZ×Int×Int×Unit)×Jh×wg×Unit)×cZ×cZ×Unit
abbrev S0:Type:=Unit×Unit×Unit
noncomputable def Yg (v1:cZ)(v2 v3 v4:Int)(v5:cZ)(v6 v7 v8 v9 v10 v11:Int)(v12 v13:cZ):Option (R3 LZ TH S0):=
 cond (decide (v3<v2)) (
  cond ((decide (0≤v3))&&(decide (v3<(v1.length:Int)))) (
   cond ((decide (((rd bw v1 (Int.toNat v3)).2.1.length * 1)≤140737488355328))&&(decide ((rd bw v1 (Int.toNat v3)).2.1.length≤9223372036854775807))) (
    cond ((decide (((v13.length+1) * 40)≤140737488355328))&&(decide ((v13.length+1)≤9223372036854775807))) (
     some (R3.next (((),(),(),v1,v2,(IntKind.wrap .i64 (v3+1)),()),((v4,v5,v6,v7,()),(v8,(),v9,v10,()),(v11,(),()),()),v12,(v13++[((rd bw v1 (Int.toNat v3)).1,(rd bw v1 (Int.toNat v3)).2.1,(rd bw v1 (Int.toNat v3)).2.2)]),()))) (
     none)) (
    none)) (
   none)) (
  some (R3.out (((),(),(),()),((v4,v5,v6,v7,()),(v8,(),v9,v10,()),(v11,(),()),()),v12,v13,())))
noncomputable def Tj (z:LZ):Option (R3 LZ TH S0):=Yg z.1.2.2.2.1 z.1.2.2.2.2.1 z.1.2.2.2.2.2.1 z.2.1.1.1 z.2.1.1.2.1 z.2.1.1.2.2.1 z.2.1.1.2.2.2.1 z.2.1.2.1.1 z.2.1.2.1.2.2.1 z.2.1.2.1.2.2.2.1 z.2.1.2.2.1.1 z.2.2.1 z.2.2.2.1
noncomputable def f50 (v1:Int)(v2:cZ)(v3 v4:Int):Option (LJ×Unit):=
 ((iter aA Tj (((),(),(),v2,(v2.length:Int),0,()),((v1,v2,v3,v4,()),(0,(),0,0,()),(v1,(),()),()),[],[],()))).bind fun r=>match r with
 | .inl y5=>
   some (((y5.2.1.2.2.1.1,y5.2.2.2.1),y5.2.1.1.2.2.1,y5.2.1.1.2.2.2.1),())
 | .inr z6=>
   none
noncomputable def f105 (v1 v2 v3 v4 v5 v6 v7 v8:Int)(v9:Bool):Option sZ:=
 cond (decide (v1=0)) (
  some ([(aG .or .i64 (aG .or .i64 (IntKind.wrap .i64 (v3 * 32)) (IntKind.wrap .i64 (v4 * 8))) v5)],())) (
  cond (decide (v1=1)) (
   some ([(aG .or .i64 (aG .or .i64 (IntKind.wrap .i64 (v3 * 32)) (IntKind.wrap .i64 (v4 * 8))) v5)],())) (
   cond (decide (v1=2)) (
    some ([(aG .or .i64 (IntKind.wrap .i64 (v3 * 8)) v4)],())) (
    cond (decide (v1=4)) (
     some ([(aG .or .i64 (IntKind.wrap .i64 (v3 * 8)) v4)],())) (
     cond (decide (v1=3)) (
      some ([v3],())) (
      cond (decide (v1=5)) (
       some ([v3],())) (
       cond v9 (
        cond (decide (3<4)) (
         cond (decide (3<4)) (
          some ([v6,v7,v8,1],())) (
          none)) (
         none)) (
        some ([v6,v7,v8,0],()))))))))
abbrev LX:Type:=(Int×vX×Int×Int×Unit)×(Unit)×aT×Unit
abbrev Sb:Type:=(Unit)×(Unit)×aT×Unit
abbrev SH:Type:=bq×(Unit)×aT×Unit
noncomputable def Yn (v1:Int)(v2:vX)(v3 v4:Int)(v5:aT):Option (R3 LX Sb SH):=
 cond (decide (v4<v3)) (
  cond ((decide (0≤v4))&&(decide (v4<(v2.length:Int)))) (
   ((f98 (rd ff v2 (Int.toNat v4)).1 (rd ff v2 (Int.toNat v4)).2.1 (rd ff v2 (Int.toNat v4)).2.2.1 (rd ff v2 (Int.toNat v4)).2.2.2.1 (rd ff v2 (Int.toNat v4)).2.2.2.2.1 (rd ff v2 (Int.toNat v4)).2.2.2.2.2.1 (rd ff v2 (Int.toNat v4)).2.2.2.2.2.2.1 (rd ff v2 (Int.toNat v4)).2.2.2.2.2.2.2.1 (rd ff v2 (Int.toNat v4)).2.2.2.2.2.2.2.2)).bind fun y6=>
   cond (!y6.1) (
    some (R3.ret ((false,()),(),[],()))) (
    cond (decide ((rd ff v2 (Int.toNat v4)).2.1<v1)) (
     some (R3.ret ((false,()),(),[],()))) (
     cond ((decide (((v5.length+1) * 8)≤140737488355328))&&(decide ((v5.length+1)≤9223372036854775807))) (
      ((f105 (rd ff v2 (Int.toNat v4)).1 (rd ff v2 (Int.toNat v4)).2.1 (rd ff v2 (Int.toNat v4)).2.2.1 (rd ff v2 (Int.toNat v4)).2.2.2.1 (rd ff v2 (Int.toNat v4)).2.2.2.2.1 (rd ff v2 (Int.toNat v4)).2.2.2.2.2.1 (rd ff v2 (Int.toNat v4)).2.2.2.2.2.2.1 (rd ff v2 (Int.toNat v4)).2.2.2.2.2.2.2.1 (rd ff v2 (Int.toNat v4)).2.2.2.2.2.2.2.2)).bind fun y7=>
      cond ((decide ((((v5++[(IntKind.wrap .i64 ((IntKind.wrap .i64 ((IntKind.wrap .i64 ((rd ff v2 (Int.toNat v4)).2.1-v1)) * 16))+(rd ff v2 (Int.toNat v4)).1))]).length+y7.1.length) * 8)≤140737488355328))&&(decide (((v5++[(IntKind.wrap .i64 ((IntKind.wrap .i64 ((IntKind.wrap .i64 ((rd ff v2 (Int.toNat v4)).2.1-v1)) * 16))+(rd ff v2 (Int.toNat v4)).1))]).length+y7.1.length)≤9223372036854775807))) (
       some (R3.next (((rd ff v2 (Int.toNat v4)).2.1,v2,v3,(IntKind.wrap .i64 (v4+1)),()),(),((v5++[(IntKind.wrap .i64 ((IntKind.wrap .i64 ((IntKind.wrap .i64 ((rd ff v2 (Int.toNat v4)).2.1-v1)) * 16))+(rd ff v2 (Int.toNat v4)).1))])++y7.1),()))) (
       none)) (
      none)))) (
   none)) (
  some (R3.out ((),(),v5,())))
noncomputable def SI (z:LX):Option (R3 LX Sb SH):=Yn z.1.1 z.1.2.1 z.1.2.2.1 z.1.2.2.2.1 z.2.2.1
noncomputable def f51 (v1:Int)(v2:vX):Option wo:=
 ((f104 v1 0 1073741824)).bind fun y3=>
 cond (!y3.1) (
  some ([],false,())) (
  ((iter aA SI ((v1,v2,(v2.length:Int),0,()),(),[],()))).bind fun r=>match r with
  | .inl y4=>
    ((f106 y4.2.2.1)).bind fun y6=>
    some (y6.1,y6.2.1,())
  | .inr z5=>
    some (z5.2.2.1,z5.1.1,()))
noncomputable def f22 (v1:Int)(v2:cZ)(v3 v4:Int)(v5:vX):Option (LJ×Int×Unit):=
 ((f10 v1 v2 v3 v4)).bind fun y6=>
 cond (!y6.1) (
  ((f50 v1 v2 v3 v4)).bind fun y7=>
  some (((y7.1.1.1,y7.1.1.2),y7.1.2.1,y7.1.2.2),1,())) (
  cond (decide ((v5.length:Int)=0)) (
   ((f50 v1 v2 v3 v4)).bind fun y8=>
   some (((y8.1.1.1,y8.1.1.2),y8.1.2.1,y8.1.2.2),1,())) (
   ((f51 v4 v5)).bind fun y9=>
   cond (!y9.2.1) (
    ((f50 v1 v2 v3 v4)).bind fun y10=>
    some (((y10.1.1.1,y10.1.1.2),y10.1.2.1,y10.1.2.2),1,())) (
    ((f107 2 y9.1)).bind fun y11=>
    cond (!y11.2.1) (
     ((f50 v1 v2 v3 v4)).bind fun y12=>
     some (((y12.1.1.1,y12.1.1.2),y12.1.2.1,y12.1.2.2),1,())) (
     ((f108 y11.1 v1 v2 v3)).bind fun y13=>
     cond (decide (y13.2.1=0)) (
      ((f109 y13.1.1 y13.1.2 v3)).bind fun y14=>
      cond (!(decide (y14.2.1=0))) (
       ((f50 v1 v2 v3 v4)).bind fun y15=>
       some (((y15.1.1.1,y15.1.1.2),y15.1.2.1,y15.1.2.2),y14.2.1,())) (
       cond ((decide (0≤(IntKind.wrap .i64 ((v5.length:Int)-1))))&&(decide ((IntKind.wrap .i64 ((v5.length:Int)-1))<(v5.length:Int)))) (
        some (((y14.1.1,y14.1.2),v3,(rd ff v5 (Int.toNat (IntKind.wrap .i64 ((v5.length:Int)-1)))).2.1),0,())) (
        none))) (
      cond (!(decide (y13.2.1=0))) (
       ((f50 v1 v2 v3 v4)).bind fun y16=>
       some (((y16.1.1.1,y16.1.1.2),y16.1.2.1,y16.1.2.2),y13.2.1,())) (
       cond ((decide (0≤(IntKind.wrap .i64 ((v5.length:Int)-1))))&&(decide ((IntKind.wrap .i64 ((v5.length:Int)-1))<(v5.length:Int)))) (
        some (((y13.1.1,y13.1.2),v3,(rd ff v5 (Int.toNat (IntKind.wrap .i64 ((v5.length:Int)-1)))).2.1),0,())) (
        none)))))))
abbrev TU:Type:=(Unit×Int×Unit)×(nh×Unit)×(Unit)
abbrev ZF:Type:=rM×(nh×Unit)×(Unit)
abbrev X5:Type:=bq×(Unit)×(Unit)
noncomputable def Uf (v1 v2:Int)(v3:cZ):Option (R3 TU ZF X5):=
 cond (decide (v1<(v3.length:Int))) (
  cond ((decide (0≤v1))&&(decide (v1<(v3.length:Int)))) (
   cond (decide (3000<(((rd bw v3 (Int.toNat v1)).2.1.length:Nat):Int))) (
    some (R3.ret ((false,()),(),()))) (
    some (R3.next (((),(IntKind.wrap .i64 (v1+1)),()),((v2,v3,()),()),())))) (
   none)) (
  some (R3.out (((),()),((v2,v3,()),()),())))
noncomputable def EV (z:TU):Option (R3 TU ZF X5):=Uf z.1.2.1 z.2.1.1.1 z.2.1.1.2.1
noncomputable def f8 (v1:Int)(v2:cZ):Option bq:=
 ((iter aA EV (((),0,()),((v1,v2,()),()),()))).bind fun r=>match r with
 | .inl y3=>
   some ((decide ((y3.2.1.1.2.1.length:Int)≤14)),())
 | .inr z4=>
   some (z4.1.1,())
noncomputable def f44 (v1:bT)(v2:aP):Option bq:=
 cond (decide ((v1.length:Int)≤40)) (
  some ((decide ((v2.length:Int)≤40)),())) (
  some (false,()))
noncomputable def f19 (v1 v2 v3 v4 v5 v6 v7 v8 v9 v10 v11:Int)(v12:Bool)(v13:Int)(v14:aP)(v15:bT)(v16:aP):Option bq:=
 ((f44 v15 v16)).bind fun y17=>
 cond y17.1 (
  some ((decide ((v14.length:Int)≤6)),())) (
  some (false,()))
abbrev Mf:Type:=(vX×vX×Int×Int×Unit)×(Unit)×(Unit)
abbrev SL:Type:=(Unit)×(Unit)×(Unit)
abbrev SU:Type:=bq×(Unit)×(Unit)
noncomputable def Nt (v1 v2:vX)(v3 v4:Int):Option (R3 Mf SL SU):=
 cond (decide (v4<v3)) (
  cond ((decide (0≤v4))&&(decide (v4<(v1.length:Int)))) (
   cond ((decide (0≤v4))&&(decide (v4<(v2.length:Int)))) (
    cond (!((decide ((rd ff v1 (Int.toNat v4)).1=(rd ff v2 (Int.toNat v4)).1))&&((decide ((rd ff v1 (Int.toNat v4)).2.1=(rd ff v2 (Int.toNat v4)).2.1))&&((decide ((rd ff v1 (Int.toNat v4)).2.2.1=(rd ff v2 (Int.toNat v4)).2.2.1))&&((decide ((rd ff v1 (Int.toNat v4)).2.2.2.1=(rd ff v2 (Int.toNat v4)).2.2.2.1))&&((decide ((rd ff v1 (Int.toNat v4)).2.2.2.2.1=(rd ff v2 (Int.toNat v4)).2.2.2.2.1))&&(((decide ((rd ff v1 (Int.toNat v4)).2.2.2.2.2.1=(rd ff v2 (Int.toNat v4)).2.2.2.2.2.1))&&((decide ((rd ff v1 (Int.toNat v4)).2.2.2.2.2.2.1=(rd ff v2 (Int.toNat v4)).2.2.2.2.2.2.1))&&((decide ((rd ff v1 (Int.toNat v4)).2.2.2.2.2.2.2.1=(rd ff v2 (Int.toNat v4)).2.2.2.2.2.2.2.1))&&(((rd ff v1 (Int.toNat v4)).2.2.2.2.2.2.2.2 == (rd ff v2 (Int.toNat v4)).2.2.2.2.2.2.2.2)&&true))))&&true))))))) (
     some (R3.ret ((false,()),(),()))) (
     some (R3.next ((v1,v2,v3,(IntKind.wrap .i64 (v4+1)),()),(),())))) (
    none)) (
   none)) (
  some (R3.out ((),(),())))
noncomputable def xB (z:Mf):Option (R3 Mf SL SU):=Nt z.1.1 z.1.2.1 z.1.2.2.1 z.1.2.2.2.1
noncomputable def f45 (v1 v2:vX):Option bq:=
 cond (!(decide ((v1.length:Int)=(v2.length:Int)))) (
  some (false,())) (
  ((iter aA xB ((v1,v2,(v1.length:Int),0,()),(),()))).bind fun r=>match r with
  | .inl y3=>
    some (true,())
  | .inr z4=>
    some (z4.1.1,()))
noncomputable def f20 (v1 v2:vX):Option bq:=
 ((f45 v1 v2)).bind fun y3=>
 some (y3.1,())
noncomputable def f7  : Option bq:=
 (f21).bind fun y1=>
 ((f22 y1.1.1.1 y1.1.1.2 y1.1.2.1 y1.1.2.2 [(2,0,0,1,0,0,0,0,false),(0,2,0,0,0,0,0,0,false)])).bind fun y2=>
 cond (!(decide (y2.2.1=0))) (
  some (false,())) (
  cond (!(decide ((y2.1.1.2.length:Int)=1))) (
   some (false,())) (
   cond (decide (0<(y2.1.1.2.length:Int))) (
    cond ((decide (0≤(IntKind.wrap .i64 ((((rd bw y2.1.1.2 0).2.1.length:Nat):Int)-1))))&&(decide ((IntKind.wrap .i64 ((((rd bw y2.1.1.2 0).2.1.length:Nat):Int)-1))≤(((rd bw y2.1.1.2 0).2.1.length:Nat):Int)))) (
     ((f16 (List.drop 0 (List.take (Int.toNat (IntKind.wrap .i64 ((((rd bw y2.1.1.2 0).2.1.length:Nat):Int)-1))) (rd bw y2.1.1.2 0).2.1)))).bind fun y3=>
     ((f15 (rd bw y2.1.1.2 0).2.1)).bind fun y4=>
     ((f9 y2.1.1.1 y2.1.1.2)).bind fun y5=>
     cond y3.2.1 (
      cond (decide (0<(y1.1.1.2.length:Int))) (
       cond (decide (y3.1=(((rd bw y1.1.1.2 0).2.1.length:Nat):Int))) (
        cond y4.2.1 (
         cond (decide ((y4.1.2.2.2.2.1.length:Int)=1)) (
          cond (decide (y5.2.2.1=0)) (
           ((f13 y4.1.1.1.1 y4.1.1.1.2 y4.1.1.2.1.1 y4.1.1.2.1.2 y4.1.1.2.2.1 y4.1.1.2.2.2.1 y4.1.1.2.2.2.2.1 y4.1.1.2.2.2.2.2 y4.1.2.1.1 y4.1.2.1.2.1 y4.1.2.1.2.2.1 y4.1.2.1.2.2.2 y4.1.2.2.1 y4.1.2.2.2.1 y4.1.2.2.2.2.1 y4.1.2.2.2.2.2 y5.2.1.1.1.1 y5.2.1.1.1.2 y5.2.1.1.2.1.1 y5.2.1.1.2.1.2 y5.2.1.1.2.2.1 y5.2.1.1.2.2.2.1 y5.2.1.1.2.2.2.2.1 y5.2.1.1.2.2.2.2.2 y5.2.1.2.1.1 y5.2.1.2.1.2.1 y5.2.1.2.1.2.2.1 y5.2.1.2.1.2.2.2 y5.2.1.2.2.1 y5.2.1.2.2.2.1 y5.2.1.2.2.2.2.1 y5.2.1.2.2.2.2.2)).bind fun y6=>
           cond y6.1 (
            ((f12 y2.1.1.1 y2.1.1.2 y2.1.2.1 y2.1.2.2 y5.1.1.1 y5.1.1.2 y5.1.2.1 y5.1.2.2)).bind fun y7=>
            cond y7.1 (
             ((f18 (rd bw y2.1.1.2 0).2.1)).bind fun y8=>
             some ((decide ((y8.1.length:Int)=2)),())) (
             some (false,()))) (
            some (false,()))) (
           some (false,()))) (
          some (false,()))) (
         some (false,()))) (
        some (false,()))) (
       none)) (
      some (false,()))) (
     none)) (
    none)))
end Go.Proofs.Zz
