/- PureRn. -/
import Derived.Test.YtlhbhlngoecdcaaGreatDoorPU
namespace Go.Proofs.Zz
open Go Go.Sy
set_option linter.unusedVariables false
set_option maxRecDepth 100000
abbrev aN:Type:=List (Int×Int×Int)
abbrev qo:Type:=Int×Int×Int×Int×Int×Int×Int×Int×Int×Int×Int×Bool×Int×Unit×Unit×Unit×Unit
abbrev aI:Type:=List Int
abbrev ki:Type:=Int×Unit
abbrev adh:Type:=qo×(aI×aI×aI×aI×aI×Unit)×qo×(aI×Unit)×ki×(Unit×Unit×Unit×Unit×Unit×Unit×Unit×Unit×Unit×Unit×Unit×Unit×Unit×Unit×Unit×Unit×Unit×Unit×Unit×Unit×Unit×Unit×Unit×Unit×Unit×Unit×Unit×Unit×Unit×Unit×Unit×Unit×Unit×Unit×Unit×Unit×Unit×Unit×Unit×Unit×Unit×Unit×Unit×Unit×Unit×Unit×Unit×Unit×Unit×Unit×Unit×Unit×Unit×Unit×Unit×Unit×Unit×Unit×Unit×Unit×Unit×Unit×Unit×Unit×Unit×Unit×Unit×Unit×Unit×Unit×Unit×Unit×Unit×Unit×Unit×Unit×Unit×Unit×Unit×Unit×Unit×Unit×Unit×Unit×Unit×Unit×Unit×Unit×Unit×Unit×Unit×Unit×Unit×Unit×Unit×Unit×Unit×Unit×Unit×Unit×Unit×Unit×Unit×Unit×Unit×Unit×Unit×Unit×Unit×Unit×Unit×Unit×Unit×Unit×Unit×Unit×Unit×Unit×Unit×Unit×Unit×Unit×Unit×Unit×Unit×Unit×Unit×Unit×Unit×Unit×Unit×Unit×Unit×Unit×Unit×Unit×Unit×Unit×Unit×Unit×Unit×Unit×Unit×Unit×Unit×Unit×Unit×Unit×Unit×Unit×Unit×Unit×Unit×Unit×Unit×Unit×Unit×Unit×Unit×Unit×Unit×Unit×Unit×Unit×Unit×Unit×Unit×Unit×Unit×Unit×Unit×Unit×Unit×Unit×Unit×Unit×Unit×Unit×Unit×Unit×Unit×Unit×Unit×Unit×Unit×Unit×Unit×Unit×Unit×Unit×Unit×Unit×Unit×Unit×Unit×Unit×Unit×Unit×Unit×Unit×Unit×Unit×Unit×Unit×Unit×Unit×Unit×Unit×Unit×Unit×Unit×Unit×Unit×Unit×Unit×Unit×Unit×Unit×Unit×Unit×Unit×Unit×Unit×Unit×Unit×Unit×Unit×Unit×Unit×Unit×Unit×Unit×Unit×Unit×Unit×Unit×Unit×Unit)×Unit
abbrev bJ:Type:=List (Int×Int×Int×Int×Int)
abbrev aao:Type:=Unit×Unit×Unit×Unit×Unit×Unit×Unit×Unit×Unit×Unit×Unit×Unit×Unit×Unit×Unit×Unit×Unit×Unit×Unit×Unit×Unit×Unit×Unit×Unit×Unit×Unit×Unit
abbrev Tk:Type:=(Int×Int)×(Int×Int)×Int×Int×Int×Int
abbrev aac:Type:=List (Int×Int×Int×Int×Int×Int×Int×Int×Bool)
abbrev yh:Type:=Bool×Unit
abbrev Gy:Type:=Int×Int×Int×Bool
abbrev az:Ty:=.int .i64
noncomputable def dw (v1 v2 v3 v4 v5 v6 v7 v8 v9 v10 v11:Int)(v12:Bool)(v13:Int)(v14:aN)(v15:bJ)(v16:aN):Option ((Tk×Gy×Int×aN×bJ×aN)×Unit):=
 ((ew v14)).bind fun y17=>
 ((cW v15)).bind fun y18=>
 ((dF v16)).bind fun y19=>
 some ((((v1,v2),(v3,v4),v5,v6,v7,v8),(v9,v10,v11,v12),v13,y17.1,y18.1,y19.1),())
abbrev D8:Type:=(Int×Unit×Unit×Int×Int×Unit)×(qo×qo×Unit)×aN×bJ×aN×aN×bJ×aN×Unit
abbrev N1:Type:=(Int×Unit×Unit×Unit)×(qo×qo×Unit)×aN×bJ×aN×aN×bJ×aN×Unit
abbrev Nr:Type:=Unit×Unit×Unit
noncomputable def Dd (v1 v2 v3 v4 v5 v6 v7 v8 v9 v10 v11 v12 v13 v14:Int)(v15:Bool)(v16 v17 v18 v19 v20 v21 v22 v23 v24 v25 v26 v27:Int)(v28:Bool)(v29:Int)(v30:aN)(v31:bJ)(v32 v33:aN)(v34:bJ)(v35:aN):Option (R3 D8 N1 Nr):=
 cond (decide (v3<v2)) (
  cond ((decide (0≤v3))&&(decide (v3<(v34.length:Int)))) (
   cond (decide ((Int.toNat v3)<v34.length)) (
    some (R3.next ((v1,(),(),v2,(IntKind.wrap .i64 (v3+1)),()),((v4,v5,v6,v7,v8,v9,v10,v11,v12,v13,v14,v15,v16,(),(),(),()),(v17,v18,v19,v20,v21,v22,v23,v24,v25,v26,v27,v28,v29,(),(),(),()),()),v30,v31,v32,v33,(v34.set (Int.toNat v3) ((rd (.pair az (.pair az (.pair az (.pair az az)))) v34 (Int.toNat v3)).1,(rd (.pair az (.pair az (.pair az (.pair az az)))) v34 (Int.toNat v3)).2.1,(rd (.pair az (.pair az (.pair az (.pair az az)))) v34 (Int.toNat v3)).2.2.1,(rd (.pair az (.pair az (.pair az (.pair az az)))) v34 (Int.toNat v3)).2.2.2.1,v1)),v35,()))) (
    none)) (
   none)) (
  some (R3.out ((v1,(),(),()),((v4,v5,v6,v7,v8,v9,v10,v11,v12,v13,v14,v15,v16,(),(),(),()),(v17,v18,v19,v20,v21,v22,v23,v24,v25,v26,v27,v28,v29,(),(),(),()),()),v30,v31,v32,v33,v34,v35,())))
noncomputable def pR (z:D8):Option (R3 D8 N1 Nr):=Dd z.1.1 z.1.2.2.2.1 z.1.2.2.2.2.1 z.2.1.1.1 z.2.1.1.2.1 z.2.1.1.2.2.1 z.2.1.1.2.2.2.1 z.2.1.1.2.2.2.2.1 z.2.1.1.2.2.2.2.2.1 z.2.1.1.2.2.2.2.2.2.1 z.2.1.1.2.2.2.2.2.2.2.1 z.2.1.1.2.2.2.2.2.2.2.2.1 z.2.1.1.2.2.2.2.2.2.2.2.2.1 z.2.1.1.2.2.2.2.2.2.2.2.2.2.1 z.2.1.1.2.2.2.2.2.2.2.2.2.2.2.1 z.2.1.1.2.2.2.2.2.2.2.2.2.2.2.2.1 z.2.1.2.1.1 z.2.1.2.1.2.1 z.2.1.2.1.2.2.1 z.2.1.2.1.2.2.2.1 z.2.1.2.1.2.2.2.2.1 z.2.1.2.1.2.2.2.2.2.1 z.2.1.2.1.2.2.2.2.2.2.1 z.2.1.2.1.2.2.2.2.2.2.2.1 z.2.1.2.1.2.2.2.2.2.2.2.2.1 z.2.1.2.1.2.2.2.2.2.2.2.2.2.1 z.2.1.2.1.2.2.2.2.2.2.2.2.2.2.1 z.2.1.2.1.2.2.2.2.2.2.2.2.2.2.2.1 z.2.1.2.1.2.2.2.2.2.2.2.2.2.2.2.2.1 z.2.2.1 z.2.2.2.1 z.2.2.2.2.1 z.2.2.2.2.2.1 z.2.2.2.2.2.2.1 z.2.2.2.2.2.2.2.1
noncomputable def wJ (v1 v2 v3 v4 v5 v6 v7 v8 v9 v10 v11:Int)(v12:Bool)(v13:Int)(v14:aN)(v15:bJ)(v16:aN)(v17:Int):Option ((Tk×Gy×Int×aN×bJ×aN)×Bool×Unit):=
 ((ew v14)).bind fun y18=>
 ((cW v15)).bind fun y19=>
 ((dF v16)).bind fun y20=>
 ((f15 v1 v2 v3 v4 v5 v6 v7 v8 v9 v10 v11 v12 v13 v14 v15 v16)).bind fun y21=>
 cond (!y21.1) (
  some ((((v1,v2),(v3,v4),v5,v6,v7,v8),(v9,v10,v11,v12),v13,y18.1,y19.1,y20.1),false,())) (
  cond (decide (v17<v13)) (
   some ((((v1,v2),(v3,v4),v5,v6,v7,v8),(v9,v10,v11,v12),v13,y18.1,y19.1,y20.1),false,())) (
   cond (decide (1073741824<v17)) (
    some ((((v1,v2),(v3,v4),v5,v6,v7,v8),(v9,v10,v11,v12),v13,y18.1,y19.1,y20.1),false,())) (
    ((iter aC pR ((v17,(),(),(y19.1.length:Int),0,()),((0,0,0,0,0,0,0,0,0,0,0,false,0,(),(),(),()),(v1,v2,v3,v4,v5,v6,v7,v8,v9,v10,v11,v12,v17,(),(),(),()),()),[],[],[],y18.1,y19.1,y20.1,()))).bind fun r=>match r with
    | .inl y22=>
      ((f70 y22.2.2.2.2.2.2.2.1 y22.1.1)).bind fun y24=>
      some ((((y22.2.1.2.1.1,y22.2.1.2.1.2.1),(y22.2.1.2.1.2.2.1,y22.2.1.2.1.2.2.2.1),y22.2.1.2.1.2.2.2.2.1,y22.2.1.2.1.2.2.2.2.2.1,y22.2.1.2.1.2.2.2.2.2.2.1,y22.2.1.2.1.2.2.2.2.2.2.2.1),(y22.2.1.2.1.2.2.2.2.2.2.2.2.1,y22.2.1.2.1.2.2.2.2.2.2.2.2.2.1,y22.2.1.2.1.2.2.2.2.2.2.2.2.2.2.1,y22.2.1.2.1.2.2.2.2.2.2.2.2.2.2.2.1),y22.2.1.2.1.2.2.2.2.2.2.2.2.2.2.2.2.1,y22.2.2.2.2.2.1,y22.2.2.2.2.2.2.1,y24.1),true,())
    | .inr z23=>
      none)))
noncomputable def br (v1 v2 v3:Int):Option yh:=
 cond (decide (v2≤v1)) (
  some ((decide (v1≤v3)),())) (
  some (false,()))
noncomputable def Nf (v1 v2 v3 v4 v5 v6 v7 v8:Int)(v9:Bool):Option yh:=
 ((br v2 0 1073741824)).bind fun y10=>
 cond (!y10.1) (
  some (false,())) (
  cond (!(decide (v1=6))) (
   cond (!((decide (v6=0))&&((decide (v7=0))&&((decide (v8=0))&&((v9 == false)&&true))))) (
    some (false,())) (
    cond (decide (v1=0)) (
     ((br v3 0 31)).bind fun y11=>
     cond y11.1 (
      ((br v4 0 3)).bind fun y12=>
      cond y12.1 (
       ((br v5 0 7)).bind fun y13=>
       some (y13.1,())) (
       some (false,()))) (
      some (false,()))) (
     cond (decide (v1=1)) (
      ((br v3 0 31)).bind fun y14=>
      cond y14.1 (
       ((br v4 0 3)).bind fun y15=>
       cond y15.1 (
        ((br v5 0 7)).bind fun y16=>
        some (y16.1,())) (
        some (false,()))) (
       some (false,()))) (
      cond (decide (v1=2)) (
       ((br v3 0 3)).bind fun y17=>
       cond y17.1 (
        ((br v4 1 4)).bind fun y18=>
        cond y18.1 (
         ((br v5 0 0)).bind fun y19=>
         some (y19.1,())) (
         some (false,()))) (
        some (false,()))) (
       cond (decide (v1=4)) (
        ((br v3 0 2)).bind fun y20=>
        cond y20.1 (
         ((br v4 1 4)).bind fun y21=>
         cond y21.1 (
          ((br v5 0 0)).bind fun y22=>
          some (y22.1,())) (
          some (false,()))) (
         some (false,()))) (
        cond (decide (v1=3)) (
         ((br v3 0 2)).bind fun y23=>
         cond y23.1 (
          ((br v4 0 0)).bind fun y24=>
          cond y24.1 (
           ((br v5 0 0)).bind fun y25=>
           some (y25.1,())) (
           some (false,()))) (
          some (false,()))) (
         cond (decide (v1=5)) (
          ((br v3 0 2)).bind fun y26=>
          cond y26.1 (
           ((br v4 0 0)).bind fun y27=>
           cond y27.1 (
            ((br v5 0 0)).bind fun y28=>
            some (y28.1,())) (
            some (false,()))) (
           some (false,()))) (
          cond (decide (v1=6)) (
           ((f28 v6 v7 v8 v9)).bind fun y29=>
           cond (!y29.1) (
            some (false,())) (
            ((br v3 0 0)).bind fun y30=>
            cond y30.1 (
             ((br v4 0 0)).bind fun y31=>
             cond y31.1 (
              ((br v5 0 0)).bind fun y32=>
              some (y32.1,())) (
              some (false,()))) (
             some (false,())))) (
           some (false,())))))))))) (
   cond (decide (v1=0)) (
    ((br v3 0 31)).bind fun y33=>
    cond y33.1 (
     ((br v4 0 3)).bind fun y34=>
     cond y34.1 (
      ((br v5 0 7)).bind fun y35=>
      some (y35.1,())) (
      some (false,()))) (
     some (false,()))) (
    cond (decide (v1=1)) (
     ((br v3 0 31)).bind fun y36=>
     cond y36.1 (
      ((br v4 0 3)).bind fun y37=>
      cond y37.1 (
       ((br v5 0 7)).bind fun y38=>
       some (y38.1,())) (
       some (false,()))) (
      some (false,()))) (
     cond (decide (v1=2)) (
      ((br v3 0 3)).bind fun y39=>
      cond y39.1 (
       ((br v4 1 4)).bind fun y40=>
       cond y40.1 (
        ((br v5 0 0)).bind fun y41=>
        some (y41.1,())) (
        some (false,()))) (
       some (false,()))) (
      cond (decide (v1=4)) (
       ((br v3 0 2)).bind fun y42=>
       cond y42.1 (
        ((br v4 1 4)).bind fun y43=>
        cond y43.1 (
         ((br v5 0 0)).bind fun y44=>
         some (y44.1,())) (
         some (false,()))) (
        some (false,()))) (
       cond (decide (v1=3)) (
        ((br v3 0 2)).bind fun y45=>
        cond y45.1 (
         ((br v4 0 0)).bind fun y46=>
         cond y46.1 (
          ((br v5 0 0)).bind fun y47=>
          some (y47.1,())) (
          some (false,()))) (
         some (false,()))) (
        cond (decide (v1=5)) (
         ((br v3 0 2)).bind fun y48=>
         cond y48.1 (
          ((br v4 0 0)).bind fun y49=>
          cond y49.1 (
           ((br v5 0 0)).bind fun y50=>
           some (y50.1,())) (
           some (false,()))) (
          some (false,()))) (
         cond (decide (v1=6)) (
          ((f28 v6 v7 v8 v9)).bind fun y51=>
          cond (!y51.1) (
           some (false,())) (
           ((br v3 0 0)).bind fun y52=>
           cond y52.1 (
            ((br v4 0 0)).bind fun y53=>
            cond y53.1 (
             ((br v5 0 0)).bind fun y54=>
             some (y54.1,())) (
             some (false,()))) (
            some (false,())))) (
          some (false,()))))))))))
noncomputable def Bk (v1 v2 v3 v4 v5 v6 v7 v8 v9 v10 v11:Int)(v12:Bool)(v13:Int)(v14:aN)(v15:bJ)(v16:aN)(v17 v18 v19 v20 v21 v22 v23 v24:Int)(v25:Bool):Option ((Tk×Gy×Int×aN×bJ×aN)×Int×Unit):=
 ((f15 v1 v2 v3 v4 v5 v6 v7 v8 v9 v10 v11 v12 v13 v14 v15 v16)).bind fun y26=>
 cond (!y26.1) (
  ((dw v1 v2 v3 v4 v5 v6 v7 v8 v9 v10 v11 v12 v13 v14 v15 v16)).bind fun y27=>
  some ((((y27.1.1.1.1,y27.1.1.1.2),(y27.1.1.2.1.1,y27.1.1.2.1.2),y27.1.1.2.2.1,y27.1.1.2.2.2.1,y27.1.1.2.2.2.2.1,y27.1.1.2.2.2.2.2),(y27.1.2.1.1,y27.1.2.1.2.1,y27.1.2.1.2.2.1,y27.1.2.1.2.2.2),y27.1.2.2.1,y27.1.2.2.2.1,y27.1.2.2.2.2.1,y27.1.2.2.2.2.2),1,())) (
  ((Nf v17 v18 v19 v20 v21 v22 v23 v24 v25)).bind fun y28=>
  cond (!y28.1) (
   ((dw v1 v2 v3 v4 v5 v6 v7 v8 v9 v10 v11 v12 v13 v14 v15 v16)).bind fun y29=>
   some ((((y29.1.1.1.1,y29.1.1.1.2),(y29.1.1.2.1.1,y29.1.1.2.1.2),y29.1.1.2.2.1,y29.1.1.2.2.2.1,y29.1.1.2.2.2.2.1,y29.1.1.2.2.2.2.2),(y29.1.2.1.1,y29.1.2.1.2.1,y29.1.2.1.2.2.1,y29.1.2.1.2.2.2),y29.1.2.2.1,y29.1.2.2.2.1,y29.1.2.2.2.2.1,y29.1.2.2.2.2.2),1,())) (
   ((wJ v1 v2 v3 v4 v5 v6 v7 v8 v9 v10 v11 v12 v13 v14 v15 v16 v18)).bind fun y30=>
   cond (!y30.2.1) (
    ((dw v1 v2 v3 v4 v5 v6 v7 v8 v9 v10 v11 v12 v13 v14 v15 v16)).bind fun y31=>
    some ((((y31.1.1.1.1,y31.1.1.1.2),(y31.1.1.2.1.1,y31.1.1.2.1.2),y31.1.1.2.2.1,y31.1.1.2.2.2.1,y31.1.1.2.2.2.2.1,y31.1.1.2.2.2.2.2),(y31.1.2.1.1,y31.1.2.1.2.1,y31.1.2.1.2.2.1,y31.1.2.1.2.2.2),y31.1.2.2.1,y31.1.2.2.2.1,y31.1.2.2.2.2.1,y31.1.2.2.2.2.2),10,())) (
    cond (decide (v17=0)) (
     ((f63 y30.1.2.2.2.2.1 v19 v20 v21 v18 v18)).bind fun y32=>
     cond (!y32.2.1) (
      ((dw v1 v2 v3 v4 v5 v6 v7 v8 v9 v10 v11 v12 v13 v14 v15 v16)).bind fun y33=>
      some ((((y33.1.1.1.1,y33.1.1.1.2),(y33.1.1.2.1.1,y33.1.1.2.1.2),y33.1.1.2.2.1,y33.1.1.2.2.2.1,y33.1.1.2.2.2.2.1,y33.1.1.2.2.2.2.2),(y33.1.2.1.1,y33.1.2.1.2.1,y33.1.2.1.2.2.1,y33.1.2.1.2.2.2),y33.1.2.2.1,y33.1.2.2.2.1,y33.1.2.2.2.2.1,y33.1.2.2.2.2.2),2,())) (
      ((f15 y30.1.1.1.1 y30.1.1.1.2 y30.1.1.2.1.1 y30.1.1.2.1.2 y30.1.1.2.2.1 y30.1.1.2.2.2.1 y30.1.1.2.2.2.2.1 y30.1.1.2.2.2.2.2 y30.1.2.1.1 y30.1.2.1.2.1 y30.1.2.1.2.2.1 y30.1.2.1.2.2.2 y30.1.2.2.1 y30.1.2.2.2.1 y32.1 y30.1.2.2.2.2.2)).bind fun y34=>
      cond (!y34.1) (
       ((dw v1 v2 v3 v4 v5 v6 v7 v8 v9 v10 v11 v12 v13 v14 v15 v16)).bind fun y35=>
       some ((((y35.1.1.1.1,y35.1.1.1.2),(y35.1.1.2.1.1,y35.1.1.2.1.2),y35.1.1.2.2.1,y35.1.1.2.2.2.1,y35.1.1.2.2.2.2.1,y35.1.1.2.2.2.2.2),(y35.1.2.1.1,y35.1.2.1.2.1,y35.1.2.1.2.2.1,y35.1.2.1.2.2.2),y35.1.2.2.1,y35.1.2.2.2.1,y35.1.2.2.2.2.1,y35.1.2.2.2.2.2),2,())) (
       some ((((y30.1.1.1.1,y30.1.1.1.2),(y30.1.1.2.1.1,y30.1.1.2.1.2),y30.1.1.2.2.1,y30.1.1.2.2.2.1,y30.1.1.2.2.2.2.1,y30.1.1.2.2.2.2.2),(y30.1.2.1.1,y30.1.2.1.2.1,y30.1.2.1.2.2.1,y30.1.2.1.2.2.2),y30.1.2.2.1,y30.1.2.2.2.1,y32.1,y30.1.2.2.2.2.2),0,())))) (
     cond (decide (v17=1)) (
      ((f22 y30.1.2.2.2.2.1 v20 v21)).bind fun y36=>
      cond (decide (y36.1=(-1))) (
       ((dw v1 v2 v3 v4 v5 v6 v7 v8 v9 v10 v11 v12 v13 v14 v15 v16)).bind fun y37=>
       some ((((y37.1.1.1.1,y37.1.1.1.2),(y37.1.1.2.1.1,y37.1.1.2.1.2),y37.1.1.2.2.1,y37.1.1.2.2.2.1,y37.1.1.2.2.2.2.1,y37.1.1.2.2.2.2.2),(y37.1.2.1.1,y37.1.2.1.2.1,y37.1.2.1.2.2.1,y37.1.2.1.2.2.2),y37.1.2.2.1,y37.1.2.2.2.1,y37.1.2.2.2.2.1,y37.1.2.2.2.2.2),2,())) (
       cond ((decide (0≤y36.1))&&(decide (y36.1<(y30.1.2.2.2.2.1.length:Int)))) (
        cond (!(decide ((rd (.pair az (.pair az (.pair az (.pair az az)))) y30.1.2.2.2.2.1 (Int.toNat y36.1)).1=v19))) (
         ((dw v1 v2 v3 v4 v5 v6 v7 v8 v9 v10 v11 v12 v13 v14 v15 v16)).bind fun y38=>
         some ((((y38.1.1.1.1,y38.1.1.1.2),(y38.1.1.2.1.1,y38.1.1.2.1.2),y38.1.1.2.2.1,y38.1.1.2.2.2.1,y38.1.1.2.2.2.2.1,y38.1.1.2.2.2.2.2),(y38.1.2.1.1,y38.1.2.1.2.1,y38.1.2.1.2.2.1,y38.1.2.1.2.2.2),y38.1.2.2.1,y38.1.2.2.2.1,y38.1.2.2.2.2.1,y38.1.2.2.2.2.2),2,())) (
         ((f24 y30.1.2.2.2.2.1 v20 v21)).bind fun y39=>
         cond (decide (0<y30.1.2.1.2.2.1)) (
          ((f103 y30.1.2.2.2.2.2 v20 v21 (IntKind.wrap .i64 (v18+y30.1.2.1.2.2.1)))).bind fun y40=>
          ((f15 y30.1.1.1.1 y30.1.1.1.2 y30.1.1.2.1.1 y30.1.1.2.1.2 y30.1.1.2.2.1 y30.1.1.2.2.2.1 y30.1.1.2.2.2.2.1 y30.1.1.2.2.2.2.2 y30.1.2.1.1 y30.1.2.1.2.1 y30.1.2.1.2.2.1 y30.1.2.1.2.2.2 y30.1.2.2.1 y30.1.2.2.2.1 y39.1 y40.1)).bind fun y41=>
          cond (!y41.1) (
           ((dw v1 v2 v3 v4 v5 v6 v7 v8 v9 v10 v11 v12 v13 v14 v15 v16)).bind fun y42=>
           some ((((y42.1.1.1.1,y42.1.1.1.2),(y42.1.1.2.1.1,y42.1.1.2.1.2),y42.1.1.2.2.1,y42.1.1.2.2.2.1,y42.1.1.2.2.2.2.1,y42.1.1.2.2.2.2.2),(y42.1.2.1.1,y42.1.2.1.2.1,y42.1.2.1.2.2.1,y42.1.2.1.2.2.2),y42.1.2.2.1,y42.1.2.2.2.1,y42.1.2.2.2.2.1,y42.1.2.2.2.2.2),2,())) (
           some ((((y30.1.1.1.1,y30.1.1.1.2),(y30.1.1.2.1.1,y30.1.1.2.1.2),y30.1.1.2.2.1,y30.1.1.2.2.2.1,y30.1.1.2.2.2.2.1,y30.1.1.2.2.2.2.2),(y30.1.2.1.1,y30.1.2.1.2.1,y30.1.2.1.2.2.1,y30.1.2.1.2.2.2),y30.1.2.2.1,y30.1.2.2.2.1,y39.1,y40.1),0,()))) (
          ((f15 y30.1.1.1.1 y30.1.1.1.2 y30.1.1.2.1.1 y30.1.1.2.1.2 y30.1.1.2.2.1 y30.1.1.2.2.2.1 y30.1.1.2.2.2.2.1 y30.1.1.2.2.2.2.2 y30.1.2.1.1 y30.1.2.1.2.1 y30.1.2.1.2.2.1 y30.1.2.1.2.2.2 y30.1.2.2.1 y30.1.2.2.2.1 y39.1 y30.1.2.2.2.2.2)).bind fun y43=>
          cond (!y43.1) (
           ((dw v1 v2 v3 v4 v5 v6 v7 v8 v9 v10 v11 v12 v13 v14 v15 v16)).bind fun y44=>
           some ((((y44.1.1.1.1,y44.1.1.1.2),(y44.1.1.2.1.1,y44.1.1.2.1.2),y44.1.1.2.2.1,y44.1.1.2.2.2.1,y44.1.1.2.2.2.2.1,y44.1.1.2.2.2.2.2),(y44.1.2.1.1,y44.1.2.1.2.1,y44.1.2.1.2.2.1,y44.1.2.1.2.2.2),y44.1.2.2.1,y44.1.2.2.2.1,y44.1.2.2.2.2.1,y44.1.2.2.2.2.2),2,())) (
           some ((((y30.1.1.1.1,y30.1.1.1.2),(y30.1.1.2.1.1,y30.1.1.2.1.2),y30.1.1.2.2.1,y30.1.1.2.2.2.1,y30.1.1.2.2.2.2.1,y30.1.1.2.2.2.2.2),(y30.1.2.1.1,y30.1.2.1.2.1,y30.1.2.1.2.2.1,y30.1.2.1.2.2.2),y30.1.2.2.1,y30.1.2.2.2.1,y39.1,y30.1.2.2.2.2.2),0,()))))) (
        none))) (
      cond (decide (v17=6)) (
       ((f15 y30.1.1.1.1 y30.1.1.1.2 y30.1.1.2.1.1 y30.1.1.2.1.2 y30.1.1.2.2.1 y30.1.1.2.2.2.1 y30.1.1.2.2.2.2.1 y30.1.1.2.2.2.2.2 v22 v23 v24 v25 y30.1.2.2.1 y30.1.2.2.2.1 y30.1.2.2.2.2.1 y30.1.2.2.2.2.2)).bind fun y45=>
       cond (!y45.1) (
        ((dw v1 v2 v3 v4 v5 v6 v7 v8 v9 v10 v11 v12 v13 v14 v15 v16)).bind fun y46=>
        some ((((y46.1.1.1.1,y46.1.1.1.2),(y46.1.1.2.1.1,y46.1.1.2.1.2),y46.1.1.2.2.1,y46.1.1.2.2.2.1,y46.1.1.2.2.2.2.1,y46.1.1.2.2.2.2.2),(y46.1.2.1.1,y46.1.2.1.2.1,y46.1.2.1.2.2.1,y46.1.2.1.2.2.2),y46.1.2.2.1,y46.1.2.2.2.1,y46.1.2.2.2.2.1,y46.1.2.2.2.2.2),2,())) (
        some ((((y30.1.1.1.1,y30.1.1.1.2),(y30.1.1.2.1.1,y30.1.1.2.1.2),y30.1.1.2.2.1,y30.1.1.2.2.2.1,y30.1.1.2.2.2.2.1,y30.1.1.2.2.2.2.2),(v22,v23,v24,v25),y30.1.2.2.1,y30.1.2.2.2.1,y30.1.2.2.2.2.1,y30.1.2.2.2.2.2),0,()))) (
       ((f49 y30.1.1.2.1.1 y30.1.1.2.1.2)).bind fun y47=>
       ((f75 y30.1.2.2.2.2.1)).bind fun y48=>
       cond (decide (v17=2)) (
        ((f72 y30.1.2.2.2.1 y47.1 v19 v20)).bind fun y49=>
        cond (!(decide (y49.2.1=0))) (
         ((dw v1 v2 v3 v4 v5 v6 v7 v8 v9 v10 v11 v12 v13 v14 v15 v16)).bind fun y50=>
         some ((((y50.1.1.1.1,y50.1.1.1.2),(y50.1.1.2.1.1,y50.1.1.2.1.2),y50.1.1.2.2.1,y50.1.1.2.2.2.1,y50.1.1.2.2.2.2.1,y50.1.1.2.2.2.2.2),(y50.1.2.1.1,y50.1.2.1.2.1,y50.1.2.1.2.2.1,y50.1.2.1.2.2.2),y50.1.2.2.1,y50.1.2.2.2.1,y50.1.2.2.2.2.1,y50.1.2.2.2.2.2),2,())) (
         ((f15 y30.1.1.1.1 y30.1.1.1.2 y30.1.1.2.1.1 y30.1.1.2.1.2 y30.1.1.2.2.1 y30.1.1.2.2.2.1 y30.1.1.2.2.2.2.1 y30.1.1.2.2.2.2.2 y30.1.2.1.1 y30.1.2.1.2.1 y30.1.2.1.2.2.1 y30.1.2.1.2.2.2 y30.1.2.2.1 y49.1 y30.1.2.2.2.2.1 y30.1.2.2.2.2.2)).bind fun y51=>
         cond (!y51.1) (
          ((dw v1 v2 v3 v4 v5 v6 v7 v8 v9 v10 v11 v12 v13 v14 v15 v16)).bind fun y52=>
          some ((((y52.1.1.1.1,y52.1.1.1.2),(y52.1.1.2.1.1,y52.1.1.2.1.2),y52.1.1.2.2.1,y52.1.1.2.2.2.1,y52.1.1.2.2.2.2.1,y52.1.1.2.2.2.2.2),(y52.1.2.1.1,y52.1.2.1.2.1,y52.1.2.1.2.2.1,y52.1.2.1.2.2.2),y52.1.2.2.1,y52.1.2.2.2.1,y52.1.2.2.2.2.1,y52.1.2.2.2.2.2),2,())) (
          some ((((y30.1.1.1.1,y30.1.1.1.2),(y30.1.1.2.1.1,y30.1.1.2.1.2),y30.1.1.2.2.1,y30.1.1.2.2.2.1,y30.1.1.2.2.2.2.1,y30.1.1.2.2.2.2.2),(y30.1.2.1.1,y30.1.2.1.2.1,y30.1.2.1.2.2.1,y30.1.2.1.2.2.2),y30.1.2.2.1,y49.1,y30.1.2.2.2.2.1,y30.1.2.2.2.2.2),0,())))) (
        cond (decide (v17=3)) (
         ((f73 y30.1.2.2.2.1 y47.1 v19)).bind fun y53=>
         cond (!(decide (y53.2.1=0))) (
          ((dw v1 v2 v3 v4 v5 v6 v7 v8 v9 v10 v11 v12 v13 v14 v15 v16)).bind fun y54=>
          some ((((y54.1.1.1.1,y54.1.1.1.2),(y54.1.1.2.1.1,y54.1.1.2.1.2),y54.1.1.2.2.1,y54.1.1.2.2.2.1,y54.1.1.2.2.2.2.1,y54.1.1.2.2.2.2.2),(y54.1.2.1.1,y54.1.2.1.2.1,y54.1.2.1.2.2.1,y54.1.2.1.2.2.2),y54.1.2.2.1,y54.1.2.2.2.1,y54.1.2.2.2.2.1,y54.1.2.2.2.2.2),2,())) (
          ((f15 y30.1.1.1.1 y30.1.1.1.2 y30.1.1.2.1.1 y30.1.1.2.1.2 y30.1.1.2.2.1 y30.1.1.2.2.2.1 y30.1.1.2.2.2.2.1 y30.1.1.2.2.2.2.2 y30.1.2.1.1 y30.1.2.1.2.1 y30.1.2.1.2.2.1 y30.1.2.1.2.2.2 y30.1.2.2.1 y53.1 y30.1.2.2.2.2.1 y30.1.2.2.2.2.2)).bind fun y55=>
          cond (!y55.1) (
           ((dw v1 v2 v3 v4 v5 v6 v7 v8 v9 v10 v11 v12 v13 v14 v15 v16)).bind fun y56=>
           some ((((y56.1.1.1.1,y56.1.1.1.2),(y56.1.1.2.1.1,y56.1.1.2.1.2),y56.1.1.2.2.1,y56.1.1.2.2.2.1,y56.1.1.2.2.2.2.1,y56.1.1.2.2.2.2.2),(y56.1.2.1.1,y56.1.2.1.2.1,y56.1.2.1.2.2.1,y56.1.2.1.2.2.2),y56.1.2.2.1,y56.1.2.2.2.1,y56.1.2.2.2.2.1,y56.1.2.2.2.2.2),2,())) (
           some ((((y30.1.1.1.1,y30.1.1.1.2),(y30.1.1.2.1.1,y30.1.1.2.1.2),y30.1.1.2.2.1,y30.1.1.2.2.2.1,y30.1.1.2.2.2.2.1,y30.1.1.2.2.2.2.2),(y30.1.2.1.1,y30.1.2.1.2.1,y30.1.2.1.2.2.1,y30.1.2.1.2.2.2),y30.1.2.2.1,y53.1,y30.1.2.2.2.2.1,y30.1.2.2.2.2.2),0,())))) (
         cond (decide (v17=4)) (
          ((f74 y30.1.2.2.2.1 y47.1 v19 v20 y48.1)).bind fun y57=>
          cond (!(decide (y57.2.1=0))) (
           ((dw v1 v2 v3 v4 v5 v6 v7 v8 v9 v10 v11 v12 v13 v14 v15 v16)).bind fun y58=>
           some ((((y58.1.1.1.1,y58.1.1.1.2),(y58.1.1.2.1.1,y58.1.1.2.1.2),y58.1.1.2.2.1,y58.1.1.2.2.2.1,y58.1.1.2.2.2.2.1,y58.1.1.2.2.2.2.2),(y58.1.2.1.1,y58.1.2.1.2.1,y58.1.2.1.2.2.1,y58.1.2.1.2.2.2),y58.1.2.2.1,y58.1.2.2.2.1,y58.1.2.2.2.2.1,y58.1.2.2.2.2.2),2,())) (
           ((f15 y30.1.1.1.1 y30.1.1.1.2 y30.1.1.2.1.1 y30.1.1.2.1.2 y30.1.1.2.2.1 y30.1.1.2.2.2.1 y30.1.1.2.2.2.2.1 y30.1.1.2.2.2.2.2 y30.1.2.1.1 y30.1.2.1.2.1 y30.1.2.1.2.2.1 y30.1.2.1.2.2.2 y30.1.2.2.1 y57.1 y30.1.2.2.2.2.1 y30.1.2.2.2.2.2)).bind fun y59=>
           cond (!y59.1) (
            ((dw v1 v2 v3 v4 v5 v6 v7 v8 v9 v10 v11 v12 v13 v14 v15 v16)).bind fun y60=>
            some ((((y60.1.1.1.1,y60.1.1.1.2),(y60.1.1.2.1.1,y60.1.1.2.1.2),y60.1.1.2.2.1,y60.1.1.2.2.2.1,y60.1.1.2.2.2.2.1,y60.1.1.2.2.2.2.2),(y60.1.2.1.1,y60.1.2.1.2.1,y60.1.2.1.2.2.1,y60.1.2.1.2.2.2),y60.1.2.2.1,y60.1.2.2.2.1,y60.1.2.2.2.2.1,y60.1.2.2.2.2.2),2,())) (
            some ((((y30.1.1.1.1,y30.1.1.1.2),(y30.1.1.2.1.1,y30.1.1.2.1.2),y30.1.1.2.2.1,y30.1.1.2.2.2.1,y30.1.1.2.2.2.2.1,y30.1.1.2.2.2.2.2),(y30.1.2.1.1,y30.1.2.1.2.1,y30.1.2.1.2.2.1,y30.1.2.1.2.2.2),y30.1.2.2.1,y57.1,y30.1.2.2.2.2.1,y30.1.2.2.2.2.2),0,())))) (
          ((f76 y30.1.2.2.2.1 y47.1 v19 y48.1)).bind fun y61=>
          cond (!(decide (y61.2.1=0))) (
           ((dw v1 v2 v3 v4 v5 v6 v7 v8 v9 v10 v11 v12 v13 v14 v15 v16)).bind fun y62=>
           some ((((y62.1.1.1.1,y62.1.1.1.2),(y62.1.1.2.1.1,y62.1.1.2.1.2),y62.1.1.2.2.1,y62.1.1.2.2.2.1,y62.1.1.2.2.2.2.1,y62.1.1.2.2.2.2.2),(y62.1.2.1.1,y62.1.2.1.2.1,y62.1.2.1.2.2.1,y62.1.2.1.2.2.2),y62.1.2.2.1,y62.1.2.2.2.1,y62.1.2.2.2.2.1,y62.1.2.2.2.2.2),2,())) (
           ((f15 y30.1.1.1.1 y30.1.1.1.2 y30.1.1.2.1.1 y30.1.1.2.1.2 y30.1.1.2.2.1 y30.1.1.2.2.2.1 y30.1.1.2.2.2.2.1 y30.1.1.2.2.2.2.2 y30.1.2.1.1 y30.1.2.1.2.1 y30.1.2.1.2.2.1 y30.1.2.1.2.2.2 y30.1.2.2.1 y61.1 y30.1.2.2.2.2.1 y30.1.2.2.2.2.2)).bind fun y63=>
           cond (!y63.1) (
            ((dw v1 v2 v3 v4 v5 v6 v7 v8 v9 v10 v11 v12 v13 v14 v15 v16)).bind fun y64=>
            some ((((y64.1.1.1.1,y64.1.1.1.2),(y64.1.1.2.1.1,y64.1.1.2.1.2),y64.1.1.2.2.1,y64.1.1.2.2.2.1,y64.1.1.2.2.2.2.1,y64.1.1.2.2.2.2.2),(y64.1.2.1.1,y64.1.2.1.2.1,y64.1.2.1.2.2.1,y64.1.2.1.2.2.2),y64.1.2.2.1,y64.1.2.2.2.1,y64.1.2.2.2.2.1,y64.1.2.2.2.2.2),2,())) (
            some ((((y30.1.1.1.1,y30.1.1.1.2),(y30.1.1.2.1.1,y30.1.1.2.1.2),y30.1.1.2.2.1,y30.1.1.2.2.2.1,y30.1.1.2.2.2.2.1,y30.1.1.2.2.2.2.2),(y30.1.2.1.1,y30.1.2.1.2.1,y30.1.2.1.2.2.1,y30.1.2.1.2.2.2),y30.1.2.2.1,y61.1,y30.1.2.2.2.2.1,y30.1.2.2.2.2.2),0,()))))))))))))
noncomputable def RC (v1 v2:Int):Option ki:=
 some ((IntKind.wrap .i64 ((IntKind.wrap .i64 (v1 * 8))+v2)),())
noncomputable def HU (v1:Int):Option yh:=
 cond (decide (0≤v1)) (
  some ((decide (v1≤1099511627776)),())) (
  some (false,()))
abbrev Es:Type:=ki×(Unit)×aI×Unit
abbrev Ox:Type:=ki×(Unit)×aI×Unit
abbrev OC:Type:=Unit×Unit×Unit
noncomputable def WH (v1:Int)(v2:aI):Option (R3 Es Ox OC):=
 cond (decide (128≤v1)) (
  cond ((decide (((v2.length+1) * 1)≤140737488355328))&&(decide ((v2.length+1)≤9223372036854775807))) (
   some (R3.next (((Int.fdiv v1 128),()),(),(v2++[(bG .or .u8 (IntKind.wrap .u8 v1) 128)]),()))) (
   none)) (
  some (R3.out ((v1,()),(),v2,())))
noncomputable def Np (z:Es):Option (R3 Es Ox OC):=WH z.1.1 z.2.2.1
noncomputable def SC (v1:aI)(v2:Int):Option (aI×Unit):=
 ((iter aC Np ((v2,()),(),v1,()))).bind fun r=>match r with
 | .inl y3=>
   cond ((decide (((y3.2.2.1.length+1) * 1)≤140737488355328))&&(decide ((y3.2.2.1.length+1)≤9223372036854775807))) (
    some ((y3.2.2.1++[(IntKind.wrap .u8 y3.1.1)]),())) (
    none)
 | .inr z4=>
   none
noncomputable def ZB (v1:aI)(v2:Int):Option (List (Ty.T (.int .u8))):=(SC v1 v2).map (·.1)
abbrev CJ:Type:=(aI×Int×Int×Unit)×(Unit)×aI×Unit
abbrev ML:Type:=(Unit)×(Unit)×aI×Unit
abbrev Om:Type:=yh×(Unit)×aI×Unit
noncomputable def Xr (v1:aI)(v2 v3:Int)(v4:aI):Option (R3 CJ ML Om):=
 cond (decide (v3<v2)) (
  cond ((decide (0≤v3))&&(decide (v3<(v1.length:Int)))) (
   ((HU (rd az v1 (Int.toNat v3)))).bind fun y5=>
   cond (!y5.1) (
    some (R3.ret ((false,()),(),[],()))) (
    ((ZB v4 (rd az v1 (Int.toNat v3)))).bind fun y6=>
    some (R3.next ((v1,v2,(IntKind.wrap .i64 (v3+1)),()),(),y6,())))) (
   none)) (
  some (R3.out ((),(),v4,())))
noncomputable def MK (z:CJ):Option (R3 CJ ML Om):=Xr z.1.1 z.1.2.1 z.1.2.2.1 z.2.2.1
noncomputable def Ny (v1:aI):Option (aI×Bool×Unit):=
 cond (decide (400<(v1.length:Int))) (
  some ([],false,())) (
  ((iter aC MK ((v1,(v1.length:Int),0,()),(),[],()))).bind fun r=>match r with
  | .inl y2=>
    some (y2.2.2.1,true,())
  | .inr z3=>
    some (z3.2.2.1,z3.1.1,()))
abbrev Dw:Type:=(aN×Int×Int×Unit)×(Unit)×aI×Unit
abbrev MC:Type:=(Unit)×(Unit)×aI×Unit
abbrev MW:Type:=Unit×Unit×Unit
noncomputable def X9 (v1:aN)(v2 v3:Int)(v4:aI):Option (R3 Dw MC MW):=
 cond (decide (v3<v2)) (
  cond ((decide (0≤v3))&&(decide (v3<(v1.length:Int)))) (
   cond ((decide (((v4.length+3) * 8)≤140737488355328))&&(decide ((v4.length+3)≤9223372036854775807))) (
    some (R3.next ((v1,v2,(IntKind.wrap .i64 (v3+1)),()),(),(v4++[(rd (.pair az (.pair az az)) v1 (Int.toNat v3)).1,(rd (.pair az (.pair az az)) v1 (Int.toNat v3)).2.1,(rd (.pair az (.pair az az)) v1 (Int.toNat v3)).2.2]),()))) (
    none)) (
   none)) (
  some (R3.out ((),(),v4,())))
noncomputable def CS (z:Dw):Option (R3 Dw MC MW):=X9 z.1.1 z.1.2.1 z.1.2.2.1 z.2.2.1
noncomputable def TG (v1 v2 v3 v4 v5 v6 v7 v8 v9 v10 v11:Int)(v12:Bool)(v13:Int)(v14:aN)(v15:bJ)(v16:aN):Option (aI×Unit):=
 cond v12 (
  cond (decide (11<15)) (
   cond (decide (11<15)) (
    ((iter aC CS ((v14,(v14.length:Int),0,()),(),[v1,v2,v3,v4,v5,v6,v7,v8,v9,v10,v11,1,v13,(v15.length:Int),(v16.length:Int)],()))).bind fun r=>match r with
    | .inl y17=>
      some (y17.2.2.1,())
    | .inr z18=>
      none) (
    none)) (
   none)) (
  ((iter aC CS ((v14,(v14.length:Int),0,()),(),[v1,v2,v3,v4,v5,v6,v7,v8,v9,v10,v11,0,v13,(v15.length:Int),(v16.length:Int)],()))).bind fun r=>match r with
  | .inl y19=>
    some (y19.2.2.1,())
  | .inr z20=>
    none)
noncomputable def UJ (v1 v2:Int):Option ki:=
 cond (decide (v1<0)) (
  some ((-1),())) (
  cond (decide (400<v1)) (
   some ((-1),())) (
   cond (decide (v2<0)) (
    some ((-1),())) (
    cond (decide (32<v2)) (
     some ((-1),())) (
     some ((IntKind.wrap .i64 (Int.tdiv (IntKind.wrap .i64 ((IntKind.wrap .i64 ((IntKind.wrap .i64 (v1 * v2))+8))-1)) 8)),())))))
abbrev jW:Type:=(aI×Unit×Int×Int×Unit)×(ki×Unit)×(Unit)
abbrev qu:Type:=(Unit)×(ki×Unit)×(Unit)
abbrev qD:Type:=ki×(ki×Unit)×(Unit)
noncomputable def AQ (v1:aI)(v2 v3 v4:Int):Option (R3 jW qu qD):=
 cond (decide (v3<v2)) (
  cond ((decide (0≤v3))&&(decide (v3<(v1.length:Int)))) (
   cond (decide ((rd az v1 (Int.toNat v3))<0)) (
    some (R3.ret ((v3,()),((v4,()),()),()))) (
    cond (!(decide (v4<0))) (
     cond (!(decide ((Int.fdiv (rd az v1 (Int.toNat v3)) ((2:Int) ^ ((min (Int.toNat v4) 64):Nat)))=0))) (
      some (R3.ret ((v3,()),((v4,()),()),()))) (
      some (R3.next ((v1,(),v2,(IntKind.wrap .i64 (v3+1)),()),((v4,()),()),())))) (
     none))) (
   none)) (
  some (R3.out ((),((v4,()),()),())))
noncomputable def qy (z:jW):Option (R3 jW qu qD):=AQ z.1.1 z.1.2.2.1 z.1.2.2.2.1 z.2.1.1.1
abbrev Dj:Type:=(Unit×Int×Int×aI×Int×Int×Unit)×(ki×Unit)×aI×Unit
abbrev zT:Type:=(Unit×Int×Int×aI×Int×Int×Unit)×(ki×Unit)×aI×Unit
abbrev Ib:Type:=(Unit×Int×Int×aI×Int×Int×Unit)×(ki×Unit)×aI×Unit
abbrev JQ:Type:=Unit×Unit×Unit
noncomputable def Sa (v1 v2:Int)(v3:aI)(v4 v5 v6:Int)(v7:aI):Option (R3 zT Ib JQ):=
 cond (decide (8≤v2)) (
  cond ((decide (((v7.length+1) * 1)≤140737488355328))&&(decide ((v7.length+1)≤9223372036854775807))) (
   some (R3.next (((),(Int.fdiv v1 256),(IntKind.wrap .i64 (v2-8)),v3,v4,v5,()),((v6,()),()),(v7++[(IntKind.wrap .u8 v1)]),()))) (
   none)) (
  some (R3.out (((),v1,v2,v3,v4,v5,()),((v6,()),()),v7,())))
noncomputable def Ir (z:zT):Option (R3 zT Ib JQ):=Sa z.1.2.1 z.1.2.2.1 z.1.2.2.2.1 z.1.2.2.2.2.1 z.1.2.2.2.2.2.1 z.2.1.1.1 z.2.2.1
abbrev Nk:Type:=(Int×Int×Unit)×(Unit)×aI×Unit
abbrev Nn:Type:=Unit×Unit×Unit
noncomputable def WV (v1 v2:Int)(v3:aI)(v4 v5 v6:Int)(v7:aI):Option (R3 Dj Nk Nn):=
 cond (decide (v5<v4)) (
  cond ((decide (0≤v5))&&(decide (v5<(v3.length:Int)))) (
   cond (!(decide (v2<0))) (
    ((iter aC Ir (((),(bG .or .u64 v1 (IntKind.wrap .u64 ((IntKind.wrap .u64 (rd az v3 (Int.toNat v5))) * ((2:Int) ^ ((min (Int.toNat v2) 64):Nat))))),(IntKind.wrap .i64 (v2+v6)),v3,v4,v5,()),((v6,()),()),v7,()))).bind fun r=>match r with
    | .inl y8=>
      some (R3.next (((),y8.1.2.1,y8.1.2.2.1,y8.1.2.2.2.1,y8.1.2.2.2.2.1,(IntKind.wrap .i64 (y8.1.2.2.2.2.2.1+1)),()),((y8.2.1.1.1,()),()),y8.2.2.1,()))
    | .inr z9=>
      some (R3.ret ((),(),()))) (
    none)) (
   none)) (
  some (R3.out ((v1,v2,()),(),v7,())))
noncomputable def CE (z:Dj):Option (R3 Dj Nk Nn):=WV z.1.2.1 z.1.2.2.1 z.1.2.2.2.1 z.1.2.2.2.2.1 z.1.2.2.2.2.2.1 z.2.1.1.1 z.2.2.1
noncomputable def Jr (v1:aI)(v2:Int):Option (aI×Bool×Unit):=
 ((UJ (v1.length:Int) v2)).bind fun y3=>
 cond (decide (y3.1=(-1))) (
  some ([],false,())) (
  ((iter aC qy ((v1,(),(v1.length:Int),0,()),((v2,()),()),()))).bind fun r=>match r with
  | .inl y4=>
    cond ((decide (0≤y3.1))&&(decide ((y3.1 * 1)≤140737488355328))) (
     ((iter aC CE (((),0,0,v1,(v1.length:Int),0,()),((y4.2.1.1.1,()),()),[],()))).bind fun r=>match r with
     | .inl y6=>
       cond (decide (0<y6.1.2.1)) (
        cond ((decide (((y6.2.2.1.length+1) * 1)≤140737488355328))&&(decide ((y6.2.2.1.length+1)≤9223372036854775807))) (
         some ((y6.2.2.1++[(IntKind.wrap .u8 y6.1.1)]),true,())) (
         none)) (
        some (y6.2.2.1,true,()))
     | .inr z7=>
       none) (
     none)
  | .inr z5=>
    cond (decide (0≤z5.1.1)) (
     some ([],false,())) (
     cond ((decide (0≤y3.1))&&(decide ((y3.1 * 1)≤140737488355328))) (
      ((iter aC CE (((),0,0,v1,(v1.length:Int),0,()),((z5.2.1.1.1,()),()),[],()))).bind fun r=>match r with
      | .inl y8=>
        cond (decide (0<y8.1.2.1)) (
         cond ((decide (((y8.2.2.1.length+1) * 1)≤140737488355328))&&(decide ((y8.2.2.1.length+1)≤9223372036854775807))) (
          some ((y8.2.2.1++[(IntKind.wrap .u8 y8.1.1)]),true,())) (
          none)) (
         some (y8.2.2.1,true,()))
      | .inr z9=>
        none) (
      none)))
noncomputable def ZD (v1:Int):Option ki:=
 cond (decide (v1<(-274877906944))) (
  some ((-1),())) (
  cond (decide (274877906944<v1)) (
   some ((-1),())) (
   cond (decide (v1<0)) (
    some ((bG .xor .i64 (-1) (IntKind.wrap .i64 (v1 * 2))),())) (
    some ((IntKind.wrap .i64 (v1 * 2)),()))))
noncomputable def Rw (v1:Int):Option yh:=
 cond (decide (0≤v1)) (
  some ((decide (v1<274877906944)),())) (
  some (false,()))
abbrev CB:Type:=(aI×Unit×Int×Int×Unit)×(ki×Unit)×aI×Unit
abbrev Nd:Type:=(Unit)×(Unit)×aI×Unit
abbrev OO:Type:=yh×(Unit)×aI×Unit
noncomputable def W3 (v1:aI)(v2 v3 v4:Int)(v5:aI):Option (R3 CB Nd OO):=
 cond (decide (v3<v2)) (
  cond ((decide (0≤v3))&&(decide (v3<(v1.length:Int)))) (
   ((Rw (rd az v1 (Int.toNat v3)))).bind fun y6=>
   cond (!y6.1) (
    some (R3.ret ((false,()),(),[],()))) (
    cond ((decide (0≤v3))&&(decide (v3<(v1.length:Int)))) (
     ((ZD (IntKind.wrap .i64 ((rd az v1 (Int.toNat v3))-v4)))).bind fun y7=>
     cond ((decide (0≤v3))&&(decide (v3<(v5.length:Int)))) (
      cond (decide ((Int.toNat v3)<v5.length)) (
       some (R3.next ((v1,(),v2,(IntKind.wrap .i64 (v3+1)),()),(((rd az v1 (Int.toNat v3)),()),()),(v5.set (Int.toNat v3) y7.1),()))) (
       none)) (
      none)) (
     none))) (
   none)) (
  some (R3.out ((),(),v5,())))
noncomputable def N6 (z:CB):Option (R3 CB Nd OO):=W3 z.1.1 z.1.2.2.1 z.1.2.2.2.1 z.2.1.1.1 z.2.2.1
noncomputable def G4 (v1:aI):Option (aI×Bool×Unit):=
 cond (((decide (0≤(v1.length:Int)))&&(decide ((v1.length:Int)≤(v1.length:Int))))&&(decide (((v1.length:Int) * 8)≤140737488355328))) (
  ((iter aC N6 ((v1,(),(v1.length:Int),0,()),((0,()),()),(List.replicate (Int.toNat (v1.length:Int)) 0),()))).bind fun r=>match r with
  | .inl y2=>
    ((Ny y2.2.2.1)).bind fun y4=>
    some (y4.1,y4.2.1,())
  | .inr z3=>
    some (z3.2.2.1,z3.1.1,())) (
  none)
abbrev iY:Type:=ki×(Unit)×aI×Unit
abbrev ni:Type:=ki×(Unit)×aI×Unit
abbrev nv:Type:=Unit×Unit×Unit
noncomputable def yG (v1:Int)(v2:aI):Option (R3 iY ni nv):=
 cond (decide (128≤v1)) (
  cond ((decide (((v2.length+1) * 1)≤140737488355328))&&(decide ((v2.length+1)≤9223372036854775807))) (
   some (R3.next (((Int.fdiv v1 128),()),(),(v2++[(bG .or .u8 (IntKind.wrap .u8 v1) 128)]),()))) (
   none)) (
  some (R3.out ((v1,()),(),v2,())))
noncomputable def nA (z:iY):Option (R3 iY ni nv):=yG z.1.1 z.2.2.1
noncomputable def mY (v1:Int):Option (aI×Unit):=
 ((HU v1)).bind fun y2=>
 cond (!y2.1) (
  some ([],())) (
  ((iter aC nA ((v1,()),(),[],()))).bind fun r=>match r with
  | .inl y3=>
    cond ((decide (((y3.2.2.1.length+1) * 1)≤140737488355328))&&(decide ((y3.2.2.1.length+1)≤9223372036854775807))) (
     some ((y3.2.2.1++[(IntKind.wrap .u8 y3.1.1)]),())) (
     none)
  | .inr z4=>
    none)
abbrev lT:Type:=(bJ×Unit×Int×Int×Unit)×((Int×Int×Int×Int×Int×Int×Int×Int×Int×Int×Int×Bool×Int×aN×bJ×aN×Unit)×Unit)×(Unit)
abbrev tX:Type:=(Unit)×((Int×Int×Int×Int×Int×Int×Int×Int×Int×Int×Int×Bool×Int×aN×bJ×aN×Unit)×Unit)×(Unit)
abbrev sM:Type:=ki×((Int×Int×Int×Int×Int×Int×Int×Int×Int×Int×Int×Bool×Int×aN×bJ×aN×Unit)×Unit)×(Unit)
noncomputable def Ds (v1:bJ)(v2 v3 v4 v5 v6 v7 v8 v9 v10 v11 v12 v13 v14:Int)(v15:Bool)(v16:Int)(v17:aN)(v18:bJ)(v19:aN):Option (R3 lT tX sM):=
 cond (decide (v3<v2)) (
  cond ((decide (0≤v3))&&(decide (v3<(v1.length:Int)))) (
   cond (!(decide ((rd (.pair az (.pair az (.pair az (.pair az az)))) v1 (Int.toNat v3)).2.2.2.2=v16))) (
    some (R3.ret ((v3,()),((v4,v5,v6,v7,v8,v9,v10,v11,v12,v13,v14,v15,v16,v17,v18,v19,()),()),()))) (
    some (R3.next ((v1,(),v2,(IntKind.wrap .i64 (v3+1)),()),((v4,v5,v6,v7,v8,v9,v10,v11,v12,v13,v14,v15,v16,v17,v18,v19,()),()),())))) (
   none)) (
  some (R3.out ((),((v4,v5,v6,v7,v8,v9,v10,v11,v12,v13,v14,v15,v16,v17,v18,v19,()),()),())))
noncomputable def sG (z:lT):Option (R3 lT tX sM):=Ds z.1.1 z.1.2.2.1 z.1.2.2.2.1 z.2.1.1.1 z.2.1.1.2.1 z.2.1.1.2.2.1 z.2.1.1.2.2.2.1 z.2.1.1.2.2.2.2.1 z.2.1.1.2.2.2.2.2.1 z.2.1.1.2.2.2.2.2.2.1 z.2.1.1.2.2.2.2.2.2.2.1 z.2.1.1.2.2.2.2.2.2.2.2.1 z.2.1.1.2.2.2.2.2.2.2.2.2.1 z.2.1.1.2.2.2.2.2.2.2.2.2.2.1 z.2.1.1.2.2.2.2.2.2.2.2.2.2.2.1 z.2.1.1.2.2.2.2.2.2.2.2.2.2.2.2.1 z.2.1.1.2.2.2.2.2.2.2.2.2.2.2.2.2.1 z.2.1.1.2.2.2.2.2.2.2.2.2.2.2.2.2.2.1 z.2.1.1.2.2.2.2.2.2.2.2.2.2.2.2.2.2.2.1
abbrev EA:Type:=(Unit×bJ×Int×Int×Unit)×((Int×Int×Int×Int×Int×Int×Int×Int×Int×Int×Int×Bool×Int×aN×bJ×aN×Unit)×Unit)×aI×aI×aI×aI×Unit
abbrev MB:Type:=(Unit×Unit)×((Int×Int×Int×Int×Int×Int×Int×Int×Int×Int×Int×Bool×Int×aN×bJ×aN×Unit)×Unit)×aI×aI×aI×aI×Unit
abbrev NN:Type:=Unit×Unit×Unit
noncomputable def Wg (v1:bJ)(v2 v3 v4 v5 v6 v7 v8 v9 v10 v11 v12 v13 v14:Int)(v15:Bool)(v16:Int)(v17:aN)(v18:bJ)(v19:aN)(v20 v21 v22 v23:aI):Option (R3 EA MB NN):=
 cond (decide (v3<v2)) (
  cond ((decide (0≤v3))&&(decide (v3<(v1.length:Int)))) (
   ((RC (rd (.pair az (.pair az (.pair az (.pair az az)))) v1 (Int.toNat v3)).2.1 (rd (.pair az (.pair az (.pair az (.pair az az)))) v1 (Int.toNat v3)).2.2.1)).bind fun y24=>
   cond ((decide (((v20.length+1) * 8)≤140737488355328))&&(decide ((v20.length+1)≤9223372036854775807))) (
    cond ((decide (((v21.length+1) * 8)≤140737488355328))&&(decide ((v21.length+1)≤9223372036854775807))) (
     some (R3.next (((),v1,v2,(IntKind.wrap .i64 (v3+1)),()),((v4,v5,v6,v7,v8,v9,v10,v11,v12,v13,v14,v15,v16,v17,v18,v19,()),()),(v20++[(bG .or .i64 (IntKind.wrap .i64 ((rd (.pair az (.pair az (.pair az (.pair az az)))) v1 (Int.toNat v3)).1 * 32)) y24.1)]),(v21++[(rd (.pair az (.pair az (.pair az (.pair az az)))) v1 (Int.toNat v3)).2.2.2.1]),v22,v23,()))) (
     none)) (
    none)) (
   none)) (
  some (R3.out (((),()),((v4,v5,v6,v7,v8,v9,v10,v11,v12,v13,v14,v15,v16,v17,v18,v19,()),()),v20,v21,v22,v23,())))
noncomputable def Dr (z:EA):Option (R3 EA MB NN):=Wg z.1.2.1 z.1.2.2.1 z.1.2.2.2.1 z.2.1.1.1 z.2.1.1.2.1 z.2.1.1.2.2.1 z.2.1.1.2.2.2.1 z.2.1.1.2.2.2.2.1 z.2.1.1.2.2.2.2.2.1 z.2.1.1.2.2.2.2.2.2.1 z.2.1.1.2.2.2.2.2.2.2.1 z.2.1.1.2.2.2.2.2.2.2.2.1 z.2.1.1.2.2.2.2.2.2.2.2.2.1 z.2.1.1.2.2.2.2.2.2.2.2.2.2.1 z.2.1.1.2.2.2.2.2.2.2.2.2.2.2.1 z.2.1.1.2.2.2.2.2.2.2.2.2.2.2.2.1 z.2.1.1.2.2.2.2.2.2.2.2.2.2.2.2.2.1 z.2.1.1.2.2.2.2.2.2.2.2.2.2.2.2.2.2.1 z.2.1.1.2.2.2.2.2.2.2.2.2.2.2.2.2.2.2.1 z.2.2.1 z.2.2.2.1 z.2.2.2.2.1 z.2.2.2.2.2.1
abbrev zB:Type:=(Unit×aN×Int×Int×Unit)×((Int×Int×Int×Int×Int×Int×Int×Int×Int×Int×Int×Bool×Int×aN×bJ×aN×Unit)×Unit)×aI×aI×aI×aI×Unit
abbrev HI:Type:=(Unit×Unit)×((Int×Int×Int×Int×Int×Int×Int×Int×Int×Int×Int×Bool×Int×aN×bJ×aN×Unit)×Unit)×aI×aI×aI×aI×Unit
abbrev Jw:Type:=Unit×Unit×Unit
noncomputable def UH (v1:aN)(v2 v3 v4 v5 v6 v7 v8 v9 v10 v11 v12 v13 v14:Int)(v15:Bool)(v16:Int)(v17:aN)(v18:bJ)(v19:aN)(v20 v21 v22 v23:aI):Option (R3 zB HI Jw):=
 cond (decide (v3<v2)) (
  cond ((decide (0≤v3))&&(decide (v3<(v1.length:Int)))) (
   ((RC (rd (.pair az (.pair az az)) v1 (Int.toNat v3)).1 (rd (.pair az (.pair az az)) v1 (Int.toNat v3)).2.1)).bind fun y24=>
   cond ((decide (((v22.length+1) * 8)≤140737488355328))&&(decide ((v22.length+1)≤9223372036854775807))) (
    cond ((decide (((v23.length+1) * 8)≤140737488355328))&&(decide ((v23.length+1)≤9223372036854775807))) (
     some (R3.next (((),v1,v2,(IntKind.wrap .i64 (v3+1)),()),((v4,v5,v6,v7,v8,v9,v10,v11,v12,v13,v14,v15,v16,v17,v18,v19,()),()),v20,v21,(v22++[y24.1]),(v23++[(rd (.pair az (.pair az az)) v1 (Int.toNat v3)).2.2]),()))) (
     none)) (
    none)) (
   none)) (
  some (R3.out (((),()),((v4,v5,v6,v7,v8,v9,v10,v11,v12,v13,v14,v15,v16,v17,v18,v19,()),()),v20,v21,v22,v23,())))
noncomputable def zU (z:zB):Option (R3 zB HI Jw):=UH z.1.2.1 z.1.2.2.1 z.1.2.2.2.1 z.2.1.1.1 z.2.1.1.2.1 z.2.1.1.2.2.1 z.2.1.1.2.2.2.1 z.2.1.1.2.2.2.2.1 z.2.1.1.2.2.2.2.2.1 z.2.1.1.2.2.2.2.2.2.1 z.2.1.1.2.2.2.2.2.2.2.1 z.2.1.1.2.2.2.2.2.2.2.2.1 z.2.1.1.2.2.2.2.2.2.2.2.2.1 z.2.1.1.2.2.2.2.2.2.2.2.2.2.1 z.2.1.1.2.2.2.2.2.2.2.2.2.2.2.1 z.2.1.1.2.2.2.2.2.2.2.2.2.2.2.2.1 z.2.1.1.2.2.2.2.2.2.2.2.2.2.2.2.2.1 z.2.1.1.2.2.2.2.2.2.2.2.2.2.2.2.2.2.1 z.2.1.1.2.2.2.2.2.2.2.2.2.2.2.2.2.2.2.1 z.2.2.1 z.2.2.2.1 z.2.2.2.2.1 z.2.2.2.2.2.1
noncomputable def Zy (v1 v2 v3 v4 v5 v6 v7 v8 v9 v10 v11:Int)(v12:Bool)(v13:Int)(v14:aN)(v15:bJ)(v16:aN):Option (aI×Bool×Unit):=
 ((f15 v1 v2 v3 v4 v5 v6 v7 v8 v9 v10 v11 v12 v13 v14 v15 v16)).bind fun y17=>
 cond (!y17.1) (
  some ([],false,())) (
  ((iter aC sG ((v15,(),(v15.length:Int),0,()),((v1,v2,v3,v4,v5,v6,v7,v8,v9,v10,v11,v12,v13,v14,v15,v16,()),()),()))).bind fun r=>match r with
  | .inl y18=>
    ((iter aC Dr (((),y18.2.1.1.2.2.2.2.2.2.2.2.2.2.2.2.2.2.1,(y18.2.1.1.2.2.2.2.2.2.2.2.2.2.2.2.2.2.1.length:Int),0,()),((y18.2.1.1.1,y18.2.1.1.2.1,y18.2.1.1.2.2.1,y18.2.1.1.2.2.2.1,y18.2.1.1.2.2.2.2.1,y18.2.1.1.2.2.2.2.2.1,y18.2.1.1.2.2.2.2.2.2.1,y18.2.1.1.2.2.2.2.2.2.2.1,y18.2.1.1.2.2.2.2.2.2.2.2.1,y18.2.1.1.2.2.2.2.2.2.2.2.2.1,y18.2.1.1.2.2.2.2.2.2.2.2.2.2.1,y18.2.1.1.2.2.2.2.2.2.2.2.2.2.2.1,y18.2.1.1.2.2.2.2.2.2.2.2.2.2.2.2.1,y18.2.1.1.2.2.2.2.2.2.2.2.2.2.2.2.2.1,y18.2.1.1.2.2.2.2.2.2.2.2.2.2.2.2.2.2.1,y18.2.1.1.2.2.2.2.2.2.2.2.2.2.2.2.2.2.2.1,()),()),[],[],[],[],()))).bind fun r=>match r with
    | .inl y20=>
      ((iter aC zU (((),y20.2.1.1.2.2.2.2.2.2.2.2.2.2.2.2.2.2.2.1,(y20.2.1.1.2.2.2.2.2.2.2.2.2.2.2.2.2.2.2.1.length:Int),0,()),((y20.2.1.1.1,y20.2.1.1.2.1,y20.2.1.1.2.2.1,y20.2.1.1.2.2.2.1,y20.2.1.1.2.2.2.2.1,y20.2.1.1.2.2.2.2.2.1,y20.2.1.1.2.2.2.2.2.2.1,y20.2.1.1.2.2.2.2.2.2.2.1,y20.2.1.1.2.2.2.2.2.2.2.2.1,y20.2.1.1.2.2.2.2.2.2.2.2.2.1,y20.2.1.1.2.2.2.2.2.2.2.2.2.2.1,y20.2.1.1.2.2.2.2.2.2.2.2.2.2.2.1,y20.2.1.1.2.2.2.2.2.2.2.2.2.2.2.2.1,y20.2.1.1.2.2.2.2.2.2.2.2.2.2.2.2.2.1,y20.2.1.1.2.2.2.2.2.2.2.2.2.2.2.2.2.2.1,y20.2.1.1.2.2.2.2.2.2.2.2.2.2.2.2.2.2.2.1,()),()),y20.2.2.1,y20.2.2.2.1,y20.2.2.2.2.1,y20.2.2.2.2.2.1,()))).bind fun r=>match r with
      | .inl y22=>
        ((TG y22.2.1.1.1 y22.2.1.1.2.1 y22.2.1.1.2.2.1 y22.2.1.1.2.2.2.1 y22.2.1.1.2.2.2.2.1 y22.2.1.1.2.2.2.2.2.1 y22.2.1.1.2.2.2.2.2.2.1 y22.2.1.1.2.2.2.2.2.2.2.1 y22.2.1.1.2.2.2.2.2.2.2.2.1 y22.2.1.1.2.2.2.2.2.2.2.2.2.1 y22.2.1.1.2.2.2.2.2.2.2.2.2.2.1 y22.2.1.1.2.2.2.2.2.2.2.2.2.2.2.1 y22.2.1.1.2.2.2.2.2.2.2.2.2.2.2.2.1 y22.2.1.1.2.2.2.2.2.2.2.2.2.2.2.2.2.1 y22.2.1.1.2.2.2.2.2.2.2.2.2.2.2.2.2.2.1 y22.2.1.1.2.2.2.2.2.2.2.2.2.2.2.2.2.2.2.1)).bind fun y24=>
        ((Ny y24.1)).bind fun y25=>
        ((Jr y22.2.2.1 10)).bind fun y26=>
        ((G4 y22.2.2.2.1)).bind fun y27=>
        ((Jr y22.2.2.2.2.1 5)).bind fun y28=>
        ((G4 y22.2.2.2.2.2.1)).bind fun y29=>
        ((mY (y25.1.length:Int))).bind fun y30=>
        cond ((decide ((y30.1.length * 1)≤140737488355328))&&(decide (y30.1.length≤9223372036854775807))) (
         cond ((decide (((y30.1.length+y25.1.length) * 1)≤140737488355328))&&(decide ((y30.1.length+y25.1.length)≤9223372036854775807))) (
          ((mY (y26.1.length:Int))).bind fun y31=>
          cond ((decide ((((y30.1++y25.1).length+y31.1.length) * 1)≤140737488355328))&&(decide (((y30.1++y25.1).length+y31.1.length)≤9223372036854775807))) (
           cond ((decide (((((y30.1++y25.1)++y31.1).length+y26.1.length) * 1)≤140737488355328))&&(decide ((((y30.1++y25.1)++y31.1).length+y26.1.length)≤9223372036854775807))) (
            ((mY (y27.1.length:Int))).bind fun y32=>
            cond ((decide ((((((y30.1++y25.1)++y31.1)++y26.1).length+y32.1.length) * 1)≤140737488355328))&&(decide (((((y30.1++y25.1)++y31.1)++y26.1).length+y32.1.length)≤9223372036854775807))) (
             cond ((decide (((((((y30.1++y25.1)++y31.1)++y26.1)++y32.1).length+y27.1.length) * 1)≤140737488355328))&&(decide ((((((y30.1++y25.1)++y31.1)++y26.1)++y32.1).length+y27.1.length)≤9223372036854775807))) (
              ((mY (y28.1.length:Int))).bind fun y33=>
              cond ((decide ((((((((y30.1++y25.1)++y31.1)++y26.1)++y32.1)++y27.1).length+y33.1.length) * 1)≤140737488355328))&&(decide (((((((y30.1++y25.1)++y31.1)++y26.1)++y32.1)++y27.1).length+y33.1.length)≤9223372036854775807))) (
               cond ((decide (((((((((y30.1++y25.1)++y31.1)++y26.1)++y32.1)++y27.1)++y33.1).length+y28.1.length) * 1)≤140737488355328))&&(decide ((((((((y30.1++y25.1)++y31.1)++y26.1)++y32.1)++y27.1)++y33.1).length+y28.1.length)≤9223372036854775807))) (
                ((mY (y29.1.length:Int))).bind fun y34=>
                cond ((decide ((((((((((y30.1++y25.1)++y31.1)++y26.1)++y32.1)++y27.1)++y33.1)++y28.1).length+y34.1.length) * 1)≤140737488355328))&&(decide (((((((((y30.1++y25.1)++y31.1)++y26.1)++y32.1)++y27.1)++y33.1)++y28.1).length+y34.1.length)≤9223372036854775807))) (
                 cond ((decide (((((((((((y30.1++y25.1)++y31.1)++y26.1)++y32.1)++y27.1)++y33.1)++y28.1)++y34.1).length+y29.1.length) * 1)≤140737488355328))&&(decide ((((((((((y30.1++y25.1)++y31.1)++y26.1)++y32.1)++y27.1)++y33.1)++y28.1)++y34.1).length+y29.1.length)≤9223372036854775807))) (
                  some ((((((((((y30.1++y25.1)++y31.1)++y26.1)++y32.1)++y27.1)++y33.1)++y28.1)++y34.1)++y29.1),true,())) (
                  none)) (
                 none)) (
                none)) (
               none)) (
              none)) (
             none)) (
            none)) (
           none)) (
          none)) (
         none)
      | .inr z23=>
        none
    | .inr z21=>
      none
  | .inr z19=>
    cond (decide (0≤z19.1.1)) (
     some ([],false,())) (
     ((iter aC Dr (((),z19.2.1.1.2.2.2.2.2.2.2.2.2.2.2.2.2.2.1,(z19.2.1.1.2.2.2.2.2.2.2.2.2.2.2.2.2.2.1.length:Int),0,()),((z19.2.1.1.1,z19.2.1.1.2.1,z19.2.1.1.2.2.1,z19.2.1.1.2.2.2.1,z19.2.1.1.2.2.2.2.1,z19.2.1.1.2.2.2.2.2.1,z19.2.1.1.2.2.2.2.2.2.1,z19.2.1.1.2.2.2.2.2.2.2.1,z19.2.1.1.2.2.2.2.2.2.2.2.1,z19.2.1.1.2.2.2.2.2.2.2.2.2.1,z19.2.1.1.2.2.2.2.2.2.2.2.2.2.1,z19.2.1.1.2.2.2.2.2.2.2.2.2.2.2.1,z19.2.1.1.2.2.2.2.2.2.2.2.2.2.2.2.1,z19.2.1.1.2.2.2.2.2.2.2.2.2.2.2.2.2.1,z19.2.1.1.2.2.2.2.2.2.2.2.2.2.2.2.2.2.1,z19.2.1.1.2.2.2.2.2.2.2.2.2.2.2.2.2.2.2.1,()),()),[],[],[],[],()))).bind fun r=>match r with
     | .inl y35=>
       ((iter aC zU (((),y35.2.1.1.2.2.2.2.2.2.2.2.2.2.2.2.2.2.2.1,(y35.2.1.1.2.2.2.2.2.2.2.2.2.2.2.2.2.2.2.1.length:Int),0,()),((y35.2.1.1.1,y35.2.1.1.2.1,y35.2.1.1.2.2.1,y35.2.1.1.2.2.2.1,y35.2.1.1.2.2.2.2.1,y35.2.1.1.2.2.2.2.2.1,y35.2.1.1.2.2.2.2.2.2.1,y35.2.1.1.2.2.2.2.2.2.2.1,y35.2.1.1.2.2.2.2.2.2.2.2.1,y35.2.1.1.2.2.2.2.2.2.2.2.2.1,y35.2.1.1.2.2.2.2.2.2.2.2.2.2.1,y35.2.1.1.2.2.2.2.2.2.2.2.2.2.2.1,y35.2.1.1.2.2.2.2.2.2.2.2.2.2.2.2.1,y35.2.1.1.2.2.2.2.2.2.2.2.2.2.2.2.2.1,y35.2.1.1.2.2.2.2.2.2.2.2.2.2.2.2.2.2.1,y35.2.1.1.2.2.2.2.2.2.2.2.2.2.2.2.2.2.2.1,()),()),y35.2.2.1,y35.2.2.2.1,y35.2.2.2.2.1,y35.2.2.2.2.2.1,()))).bind fun r=>match r with
       | .inl y37=>
         ((TG y37.2.1.1.1 y37.2.1.1.2.1 y37.2.1.1.2.2.1 y37.2.1.1.2.2.2.1 y37.2.1.1.2.2.2.2.1 y37.2.1.1.2.2.2.2.2.1 y37.2.1.1.2.2.2.2.2.2.1 y37.2.1.1.2.2.2.2.2.2.2.1 y37.2.1.1.2.2.2.2.2.2.2.2.1 y37.2.1.1.2.2.2.2.2.2.2.2.2.1 y37.2.1.1.2.2.2.2.2.2.2.2.2.2.1 y37.2.1.1.2.2.2.2.2.2.2.2.2.2.2.1 y37.2.1.1.2.2.2.2.2.2.2.2.2.2.2.2.1 y37.2.1.1.2.2.2.2.2.2.2.2.2.2.2.2.2.1 y37.2.1.1.2.2.2.2.2.2.2.2.2.2.2.2.2.2.1 y37.2.1.1.2.2.2.2.2.2.2.2.2.2.2.2.2.2.2.1)).bind fun y39=>
         ((Ny y39.1)).bind fun y40=>
         ((Jr y37.2.2.1 10)).bind fun y41=>
         ((G4 y37.2.2.2.1)).bind fun y42=>
         ((Jr y37.2.2.2.2.1 5)).bind fun y43=>
         ((G4 y37.2.2.2.2.2.1)).bind fun y44=>
         ((mY (y40.1.length:Int))).bind fun y45=>
         cond ((decide ((y45.1.length * 1)≤140737488355328))&&(decide (y45.1.length≤9223372036854775807))) (
          cond ((decide (((y45.1.length+y40.1.length) * 1)≤140737488355328))&&(decide ((y45.1.length+y40.1.length)≤9223372036854775807))) (
           ((mY (y41.1.length:Int))).bind fun y46=>
           cond ((decide ((((y45.1++y40.1).length+y46.1.length) * 1)≤140737488355328))&&(decide (((y45.1++y40.1).length+y46.1.length)≤9223372036854775807))) (
            cond ((decide (((((y45.1++y40.1)++y46.1).length+y41.1.length) * 1)≤140737488355328))&&(decide ((((y45.1++y40.1)++y46.1).length+y41.1.length)≤9223372036854775807))) (
             ((mY (y42.1.length:Int))).bind fun y47=>
             cond ((decide ((((((y45.1++y40.1)++y46.1)++y41.1).length+y47.1.length) * 1)≤140737488355328))&&(decide (((((y45.1++y40.1)++y46.1)++y41.1).length+y47.1.length)≤9223372036854775807))) (
              cond ((decide (((((((y45.1++y40.1)++y46.1)++y41.1)++y47.1).length+y42.1.length) * 1)≤140737488355328))&&(decide ((((((y45.1++y40.1)++y46.1)++y41.1)++y47.1).length+y42.1.length)≤9223372036854775807))) (
               ((mY (y43.1.length:Int))).bind fun y48=>
               cond ((decide ((((((((y45.1++y40.1)++y46.1)++y41.1)++y47.1)++y42.1).length+y48.1.length) * 1)≤140737488355328))&&(decide (((((((y45.1++y40.1)++y46.1)++y41.1)++y47.1)++y42.1).length+y48.1.length)≤9223372036854775807))) (
                cond ((decide (((((((((y45.1++y40.1)++y46.1)++y41.1)++y47.1)++y42.1)++y48.1).length+y43.1.length) * 1)≤140737488355328))&&(decide ((((((((y45.1++y40.1)++y46.1)++y41.1)++y47.1)++y42.1)++y48.1).length+y43.1.length)≤9223372036854775807))) (
                 ((mY (y44.1.length:Int))).bind fun y49=>
                 cond ((decide ((((((((((y45.1++y40.1)++y46.1)++y41.1)++y47.1)++y42.1)++y48.1)++y43.1).length+y49.1.length) * 1)≤140737488355328))&&(decide (((((((((y45.1++y40.1)++y46.1)++y41.1)++y47.1)++y42.1)++y48.1)++y43.1).length+y49.1.length)≤9223372036854775807))) (
                  cond ((decide (((((((((((y45.1++y40.1)++y46.1)++y41.1)++y47.1)++y42.1)++y48.1)++y43.1)++y49.1).length+y44.1.length) * 1)≤140737488355328))&&(decide ((((((((((y45.1++y40.1)++y46.1)++y41.1)++y47.1)++y42.1)++y48.1)++y43.1)++y49.1).length+y44.1.length)≤9223372036854775807))) (
                   some ((((((((((y45.1++y40.1)++y46.1)++y41.1)++y47.1)++y42.1)++y48.1)++y43.1)++y49.1)++y44.1),true,())) (
                   none)) (
                  none)) (
                 none)) (
                none)) (
               none)) (
              none)) (
             none)) (
            none)) (
           none)) (
          none)
       | .inr z38=>
         none
     | .inr z36=>
       none))
abbrev DC:Type:=(Int×Int×aI×Int×Int×Unit)×(Unit)×(Unit)
abbrev NP:Type:=(Unit)×(Unit)×(Unit)
abbrev Oy:Type:=(Int×Int×Unit)×(Unit)×(Unit)
noncomputable def W9 (v1 v2:Int)(v3:aI)(v4 v5:Int):Option (R3 DC NP Oy):=
 cond (decide (v5<v4)) (
  cond ((decide (0≤v5))&&(decide (v5<(v3.length:Int)))) (
   cond (!(decide ((IntKind.wrap .i64 (7 * v5))<0))) (
    cond (decide (128≤(rd (.int .u8) v3 (Int.toNat v5)))) (
     some (R3.next ((v1,(bG .or .i64 v2 (IntKind.wrap .i64 ((IntKind.wrap .i64 (bG .andNot .u8 (rd (.int .u8) v3 (Int.toNat v5)) 128)) * ((2:Int) ^ ((min (Int.toNat (IntKind.wrap .i64 (7 * v5))) 64):Nat))))),v3,v4,(IntKind.wrap .i64 (v5+1)),()),(),()))) (
     cond (decide ((rd (.int .u8) v3 (Int.toNat v5))=0)) (
      cond (decide (0<v5)) (
       some (R3.out ((),(),()))) (
       ((HU (bG .or .i64 v2 (IntKind.wrap .i64 ((IntKind.wrap .i64 (bG .andNot .u8 (rd (.int .u8) v3 (Int.toNat v5)) 128)) * ((2:Int) ^ ((min (Int.toNat (IntKind.wrap .i64 (7 * v5))) 64):Nat))))))).bind fun y6=>
       cond (!y6.1) (
        some (R3.out ((),(),()))) (
        some (R3.ret (((bG .or .i64 v2 (IntKind.wrap .i64 ((IntKind.wrap .i64 (bG .andNot .u8 (rd (.int .u8) v3 (Int.toNat v5)) 128)) * ((2:Int) ^ ((min (Int.toNat (IntKind.wrap .i64 (7 * v5))) 64):Nat))))),(IntKind.wrap .i64 ((IntKind.wrap .i64 (v1+v5))+1)),()),(),()))))) (
      ((HU (bG .or .i64 v2 (IntKind.wrap .i64 ((IntKind.wrap .i64 (bG .andNot .u8 (rd (.int .u8) v3 (Int.toNat v5)) 128)) * ((2:Int) ^ ((min (Int.toNat (IntKind.wrap .i64 (7 * v5))) 64):Nat))))))).bind fun y7=>
      cond (!y7.1) (
       some (R3.out ((),(),()))) (
       some (R3.ret (((bG .or .i64 v2 (IntKind.wrap .i64 ((IntKind.wrap .i64 (bG .andNot .u8 (rd (.int .u8) v3 (Int.toNat v5)) 128)) * ((2:Int) ^ ((min (Int.toNat (IntKind.wrap .i64 (7 * v5))) 64):Nat))))),(IntKind.wrap .i64 ((IntKind.wrap .i64 (v1+v5))+1)),()),(),())))))) (
    none)) (
   none)) (
  some (R3.out ((),(),())))
noncomputable def Nw (z:DC):Option (R3 DC NP Oy):=W9 z.1.1 z.1.2.1 z.1.2.2.1 z.1.2.2.2.1 z.1.2.2.2.2.1
noncomputable def zP (v1:aI)(v2:Int):Option (Int×Int×Unit):=
 cond (decide (v2<0)) (
  some (0,(-1),())) (
  cond (decide ((v1.length:Int)<v2)) (
   some (0,(-1),())) (
   cond (((decide (0≤v2))&&(decide (v2≤(cond (decide ((IntKind.wrap .i64 (v2+(cond (decide ((IntKind.wrap .i64 ((v1.length:Int)-v2))<6)) (IntKind.wrap .i64 ((v1.length:Int)-v2)) 6)))<(v1.length:Int))) (IntKind.wrap .i64 (v2+(cond (decide ((IntKind.wrap .i64 ((v1.length:Int)-v2))<6)) (IntKind.wrap .i64 ((v1.length:Int)-v2)) 6))) (v1.length:Int)))))&&(decide ((cond (decide ((IntKind.wrap .i64 (v2+(cond (decide ((IntKind.wrap .i64 ((v1.length:Int)-v2))<6)) (IntKind.wrap .i64 ((v1.length:Int)-v2)) 6)))<(v1.length:Int))) (IntKind.wrap .i64 (v2+(cond (decide ((IntKind.wrap .i64 ((v1.length:Int)-v2))<6)) (IntKind.wrap .i64 ((v1.length:Int)-v2)) 6))) (v1.length:Int))≤(v1.length:Int)))) (
    ((iter aC Nw ((v2,0,(List.drop (Int.toNat v2) (List.take (Int.toNat (cond (decide ((IntKind.wrap .i64 (v2+(cond (decide ((IntKind.wrap .i64 ((v1.length:Int)-v2))<6)) (IntKind.wrap .i64 ((v1.length:Int)-v2)) 6)))<(v1.length:Int))) (IntKind.wrap .i64 (v2+(cond (decide ((IntKind.wrap .i64 ((v1.length:Int)-v2))<6)) (IntKind.wrap .i64 ((v1.length:Int)-v2)) 6))) (v1.length:Int))) v1)),(((List.drop (Int.toNat v2) (List.take (Int.toNat (cond (decide ((IntKind.wrap .i64 (v2+(cond (decide ((IntKind.wrap .i64 ((v1.length:Int)-v2))<6)) (IntKind.wrap .i64 ((v1.length:Int)-v2)) 6)))<(v1.length:Int))) (IntKind.wrap .i64 (v2+(cond (decide ((IntKind.wrap .i64 ((v1.length:Int)-v2))<6)) (IntKind.wrap .i64 ((v1.length:Int)-v2)) 6))) (v1.length:Int))) v1)).length:Nat):Int),0,()),(),()))).bind fun r=>match r with
    | .inl y3=>
      some (0,(-1),())
    | .inr z4=>
      some (z4.1.1,z4.1.2.1,())) (
    none)))
noncomputable def ZG (v1:aI):Option ((aI×aI×aI×aI×aI)×Bool×Unit):=
 ((zP v1 0)).bind fun y2=>
 cond (decide (y2.2.1=(-1))) (
  some (([],[],[],[],[]),false,())) (
  cond (decide ((IntKind.wrap .i64 ((v1.length:Int)-y2.2.1))<y2.1)) (
   some (([],[],[],[],[]),false,())) (
   cond ((((decide (0≤y2.2.1))&&(decide (y2.2.1≤(IntKind.wrap .i64 (y2.2.1+y2.1)))))&&(decide ((IntKind.wrap .i64 (y2.2.1+y2.1))≤(IntKind.wrap .i64 (y2.2.1+y2.1)))))&&(decide ((IntKind.wrap .i64 (y2.2.1+y2.1))≤(v1.length:Int)))) (
    cond (((decide (0≤(IntKind.wrap .i64 (y2.2.1+y2.1))))&&(decide ((IntKind.wrap .i64 (y2.2.1+y2.1))≤(v1.length:Int))))&&(decide ((v1.length:Int)≤(v1.length:Int)))) (
     ((zP (List.drop (Int.toNat (IntKind.wrap .i64 (y2.2.1+y2.1))) (List.take (Int.toNat (v1.length:Int)) v1)) 0)).bind fun y3=>
     cond (decide (y3.2.1=(-1))) (
      some (((List.drop (Int.toNat y2.2.1) (List.take (Int.toNat (IntKind.wrap .i64 (y2.2.1+y2.1))) v1)),[],[],[],[]),false,())) (
      cond (decide ((IntKind.wrap .i64 ((((List.drop (Int.toNat (IntKind.wrap .i64 (y2.2.1+y2.1))) (List.take (Int.toNat (v1.length:Int)) v1)).length:Nat):Int)-y3.2.1))<y3.1)) (
       some (((List.drop (Int.toNat y2.2.1) (List.take (Int.toNat (IntKind.wrap .i64 (y2.2.1+y2.1))) v1)),[],[],[],[]),false,())) (
       cond ((((decide (0≤y3.2.1))&&(decide (y3.2.1≤(IntKind.wrap .i64 (y3.2.1+y3.1)))))&&(decide ((IntKind.wrap .i64 (y3.2.1+y3.1))≤(IntKind.wrap .i64 (y3.2.1+y3.1)))))&&(decide ((IntKind.wrap .i64 (y3.2.1+y3.1))≤(((List.drop (Int.toNat (IntKind.wrap .i64 (y2.2.1+y2.1))) (List.take (Int.toNat (v1.length:Int)) v1)).length:Nat):Int)))) (
        cond (((decide (0≤(IntKind.wrap .i64 (y3.2.1+y3.1))))&&(decide ((IntKind.wrap .i64 (y3.2.1+y3.1))≤(((List.drop (Int.toNat (IntKind.wrap .i64 (y2.2.1+y2.1))) (List.take (Int.toNat (v1.length:Int)) v1)).length:Nat):Int))))&&(decide ((((List.drop (Int.toNat (IntKind.wrap .i64 (y2.2.1+y2.1))) (List.take (Int.toNat (v1.length:Int)) v1)).length:Nat):Int)≤(((List.drop (Int.toNat (IntKind.wrap .i64 (y2.2.1+y2.1))) (List.take (Int.toNat (v1.length:Int)) v1)).length:Nat):Int)))) (
         ((zP (List.drop (Int.toNat (IntKind.wrap .i64 (y3.2.1+y3.1))) (List.take (Int.toNat (((List.drop (Int.toNat (IntKind.wrap .i64 (y2.2.1+y2.1))) (List.take (Int.toNat (v1.length:Int)) v1)).length:Nat):Int)) (List.drop (Int.toNat (IntKind.wrap .i64 (y2.2.1+y2.1))) (List.take (Int.toNat (v1.length:Int)) v1)))) 0)).bind fun y4=>
         cond (decide (y4.2.1=(-1))) (
          some (((List.drop (Int.toNat y2.2.1) (List.take (Int.toNat (IntKind.wrap .i64 (y2.2.1+y2.1))) v1)),(List.drop (Int.toNat y3.2.1) (List.take (Int.toNat (IntKind.wrap .i64 (y3.2.1+y3.1))) (List.drop (Int.toNat (IntKind.wrap .i64 (y2.2.1+y2.1))) (List.take (Int.toNat (v1.length:Int)) v1)))),[],[],[]),false,())) (
          cond (decide ((IntKind.wrap .i64 ((((List.drop (Int.toNat (IntKind.wrap .i64 (y3.2.1+y3.1))) (List.take (Int.toNat (((List.drop (Int.toNat (IntKind.wrap .i64 (y2.2.1+y2.1))) (List.take (Int.toNat (v1.length:Int)) v1)).length:Nat):Int)) (List.drop (Int.toNat (IntKind.wrap .i64 (y2.2.1+y2.1))) (List.take (Int.toNat (v1.length:Int)) v1)))).length:Nat):Int)-y4.2.1))<y4.1)) (
           some (((List.drop (Int.toNat y2.2.1) (List.take (Int.toNat (IntKind.wrap .i64 (y2.2.1+y2.1))) v1)),(List.drop (Int.toNat y3.2.1) (List.take (Int.toNat (IntKind.wrap .i64 (y3.2.1+y3.1))) (List.drop (Int.toNat (IntKind.wrap .i64 (y2.2.1+y2.1))) (List.take (Int.toNat (v1.length:Int)) v1)))),[],[],[]),false,())) (
           cond ((((decide (0≤y4.2.1))&&(decide (y4.2.1≤(IntKind.wrap .i64 (y4.2.1+y4.1)))))&&(decide ((IntKind.wrap .i64 (y4.2.1+y4.1))≤(IntKind.wrap .i64 (y4.2.1+y4.1)))))&&(decide ((IntKind.wrap .i64 (y4.2.1+y4.1))≤(((List.drop (Int.toNat (IntKind.wrap .i64 (y3.2.1+y3.1))) (List.take (Int.toNat (((List.drop (Int.toNat (IntKind.wrap .i64 (y2.2.1+y2.1))) (List.take (Int.toNat (v1.length:Int)) v1)).length:Nat):Int)) (List.drop (Int.toNat (IntKind.wrap .i64 (y2.2.1+y2.1))) (List.take (Int.toNat (v1.length:Int)) v1)))).length:Nat):Int)))) (
            cond (((decide (0≤(IntKind.wrap .i64 (y4.2.1+y4.1))))&&(decide ((IntKind.wrap .i64 (y4.2.1+y4.1))≤(((List.drop (Int.toNat (IntKind.wrap .i64 (y3.2.1+y3.1))) (List.take (Int.toNat (((List.drop (Int.toNat (IntKind.wrap .i64 (y2.2.1+y2.1))) (List.take (Int.toNat (v1.length:Int)) v1)).length:Nat):Int)) (List.drop (Int.toNat (IntKind.wrap .i64 (y2.2.1+y2.1))) (List.take (Int.toNat (v1.length:Int)) v1)))).length:Nat):Int))))&&(decide ((((List.drop (Int.toNat (IntKind.wrap .i64 (y3.2.1+y3.1))) (List.take (Int.toNat (((List.drop (Int.toNat (IntKind.wrap .i64 (y2.2.1+y2.1))) (List.take (Int.toNat (v1.length:Int)) v1)).length:Nat):Int)) (List.drop (Int.toNat (IntKind.wrap .i64 (y2.2.1+y2.1))) (List.take (Int.toNat (v1.length:Int)) v1)))).length:Nat):Int)≤(((List.drop (Int.toNat (IntKind.wrap .i64 (y3.2.1+y3.1))) (List.take (Int.toNat (((List.drop (Int.toNat (IntKind.wrap .i64 (y2.2.1+y2.1))) (List.take (Int.toNat (v1.length:Int)) v1)).length:Nat):Int)) (List.drop (Int.toNat (IntKind.wrap .i64 (y2.2.1+y2.1))) (List.take (Int.toNat (v1.length:Int)) v1)))).length:Nat):Int)))) (
             ((zP (List.drop (Int.toNat (IntKind.wrap .i64 (y4.2.1+y4.1))) (List.take (Int.toNat (((List.drop (Int.toNat (IntKind.wrap .i64 (y3.2.1+y3.1))) (List.take (Int.toNat (((List.drop (Int.toNat (IntKind.wrap .i64 (y2.2.1+y2.1))) (List.take (Int.toNat (v1.length:Int)) v1)).length:Nat):Int)) (List.drop (Int.toNat (IntKind.wrap .i64 (y2.2.1+y2.1))) (List.take (Int.toNat (v1.length:Int)) v1)))).length:Nat):Int)) (List.drop (Int.toNat (IntKind.wrap .i64 (y3.2.1+y3.1))) (List.take (Int.toNat (((List.drop (Int.toNat (IntKind.wrap .i64 (y2.2.1+y2.1))) (List.take (Int.toNat (v1.length:Int)) v1)).length:Nat):Int)) (List.drop (Int.toNat (IntKind.wrap .i64 (y2.2.1+y2.1))) (List.take (Int.toNat (v1.length:Int)) v1)))))) 0)).bind fun y5=>
             cond (decide (y5.2.1=(-1))) (
              some (((List.drop (Int.toNat y2.2.1) (List.take (Int.toNat (IntKind.wrap .i64 (y2.2.1+y2.1))) v1)),(List.drop (Int.toNat y3.2.1) (List.take (Int.toNat (IntKind.wrap .i64 (y3.2.1+y3.1))) (List.drop (Int.toNat (IntKind.wrap .i64 (y2.2.1+y2.1))) (List.take (Int.toNat (v1.length:Int)) v1)))),(List.drop (Int.toNat y4.2.1) (List.take (Int.toNat (IntKind.wrap .i64 (y4.2.1+y4.1))) (List.drop (Int.toNat (IntKind.wrap .i64 (y3.2.1+y3.1))) (List.take (Int.toNat (((List.drop (Int.toNat (IntKind.wrap .i64 (y2.2.1+y2.1))) (List.take (Int.toNat (v1.length:Int)) v1)).length:Nat):Int)) (List.drop (Int.toNat (IntKind.wrap .i64 (y2.2.1+y2.1))) (List.take (Int.toNat (v1.length:Int)) v1)))))),[],[]),false,())) (
              cond (decide ((IntKind.wrap .i64 ((((List.drop (Int.toNat (IntKind.wrap .i64 (y4.2.1+y4.1))) (List.take (Int.toNat (((List.drop (Int.toNat (IntKind.wrap .i64 (y3.2.1+y3.1))) (List.take (Int.toNat (((List.drop (Int.toNat (IntKind.wrap .i64 (y2.2.1+y2.1))) (List.take (Int.toNat (v1.length:Int)) v1)).length:Nat):Int)) (List.drop (Int.toNat (IntKind.wrap .i64 (y2.2.1+y2.1))) (List.take (Int.toNat (v1.length:Int)) v1)))).length:Nat):Int)) (List.drop (Int.toNat (IntKind.wrap .i64 (y3.2.1+y3.1))) (List.take (Int.toNat (((List.drop (Int.toNat (IntKind.wrap .i64 (y2.2.1+y2.1))) (List.take (Int.toNat (v1.length:Int)) v1)).length:Nat):Int)) (List.drop (Int.toNat (IntKind.wrap .i64 (y2.2.1+y2.1))) (List.take (Int.toNat (v1.length:Int)) v1)))))).length:Nat):Int)-y5.2.1))<y5.1)) (
               some (((List.drop (Int.toNat y2.2.1) (List.take (Int.toNat (IntKind.wrap .i64 (y2.2.1+y2.1))) v1)),(List.drop (Int.toNat y3.2.1) (List.take (Int.toNat (IntKind.wrap .i64 (y3.2.1+y3.1))) (List.drop (Int.toNat (IntKind.wrap .i64 (y2.2.1+y2.1))) (List.take (Int.toNat (v1.length:Int)) v1)))),(List.drop (Int.toNat y4.2.1) (List.take (Int.toNat (IntKind.wrap .i64 (y4.2.1+y4.1))) (List.drop (Int.toNat (IntKind.wrap .i64 (y3.2.1+y3.1))) (List.take (Int.toNat (((List.drop (Int.toNat (IntKind.wrap .i64 (y2.2.1+y2.1))) (List.take (Int.toNat (v1.length:Int)) v1)).length:Nat):Int)) (List.drop (Int.toNat (IntKind.wrap .i64 (y2.2.1+y2.1))) (List.take (Int.toNat (v1.length:Int)) v1)))))),[],[]),false,())) (
               cond ((((decide (0≤y5.2.1))&&(decide (y5.2.1≤(IntKind.wrap .i64 (y5.2.1+y5.1)))))&&(decide ((IntKind.wrap .i64 (y5.2.1+y5.1))≤(IntKind.wrap .i64 (y5.2.1+y5.1)))))&&(decide ((IntKind.wrap .i64 (y5.2.1+y5.1))≤(((List.drop (Int.toNat (IntKind.wrap .i64 (y4.2.1+y4.1))) (List.take (Int.toNat (((List.drop (Int.toNat (IntKind.wrap .i64 (y3.2.1+y3.1))) (List.take (Int.toNat (((List.drop (Int.toNat (IntKind.wrap .i64 (y2.2.1+y2.1))) (List.take (Int.toNat (v1.length:Int)) v1)).length:Nat):Int)) (List.drop (Int.toNat (IntKind.wrap .i64 (y2.2.1+y2.1))) (List.take (Int.toNat (v1.length:Int)) v1)))).length:Nat):Int)) (List.drop (Int.toNat (IntKind.wrap .i64 (y3.2.1+y3.1))) (List.take (Int.toNat (((List.drop (Int.toNat (IntKind.wrap .i64 (y2.2.1+y2.1))) (List.take (Int.toNat (v1.length:Int)) v1)).length:Nat):Int)) (List.drop (Int.toNat (IntKind.wrap .i64 (y2.2.1+y2.1))) (List.take (Int.toNat (v1.length:Int)) v1)))))).length:Nat):Int)))) (
                cond (((decide (0≤(IntKind.wrap .i64 (y5.2.1+y5.1))))&&(decide ((IntKind.wrap .i64 (y5.2.1+y5.1))≤(((List.drop (Int.toNat (IntKind.wrap .i64 (y4.2.1+y4.1))) (List.take (Int.toNat (((List.drop (Int.toNat (IntKind.wrap .i64 (y3.2.1+y3.1))) (List.take (Int.toNat (((List.drop (Int.toNat (IntKind.wrap .i64 (y2.2.1+y2.1))) (List.take (Int.toNat (v1.length:Int)) v1)).length:Nat):Int)) (List.drop (Int.toNat (IntKind.wrap .i64 (y2.2.1+y2.1))) (List.take (Int.toNat (v1.length:Int)) v1)))).length:Nat):Int)) (List.drop (Int.toNat (IntKind.wrap .i64 (y3.2.1+y3.1))) (List.take (Int.toNat (((List.drop (Int.toNat (IntKind.wrap .i64 (y2.2.1+y2.1))) (List.take (Int.toNat (v1.length:Int)) v1)).length:Nat):Int)) (List.drop (Int.toNat (IntKind.wrap .i64 (y2.2.1+y2.1))) (List.take (Int.toNat (v1.length:Int)) v1)))))).length:Nat):Int))))&&(decide ((((List.drop (Int.toNat (IntKind.wrap .i64 (y4.2.1+y4.1))) (List.take (Int.toNat (((List.drop (Int.toNat (IntKind.wrap .i64 (y3.2.1+y3.1))) (List.take (Int.toNat (((List.drop (Int.toNat (IntKind.wrap .i64 (y2.2.1+y2.1))) (List.take (Int.toNat (v1.length:Int)) v1)).length:Nat):Int)) (List.drop (Int.toNat (IntKind.wrap .i64 (y2.2.1+y2.1))) (List.take (Int.toNat (v1.length:Int)) v1)))).length:Nat):Int)) (List.drop (Int.toNat (IntKind.wrap .i64 (y3.2.1+y3.1))) (List.take (Int.toNat (((List.drop (Int.toNat (IntKind.wrap .i64 (y2.2.1+y2.1))) (List.take (Int.toNat (v1.length:Int)) v1)).length:Nat):Int)) (List.drop (Int.toNat (IntKind.wrap .i64 (y2.2.1+y2.1))) (List.take (Int.toNat (v1.length:Int)) v1)))))).length:Nat):Int)≤(((List.drop (Int.toNat (IntKind.wrap .i64 (y4.2.1+y4.1))) (List.take (Int.toNat (((List.drop (Int.toNat (IntKind.wrap .i64 (y3.2.1+y3.1))) (List.take (Int.toNat (((List.drop (Int.toNat (IntKind.wrap .i64 (y2.2.1+y2.1))) (List.take (Int.toNat (v1.length:Int)) v1)).length:Nat):Int)) (List.drop (Int.toNat (IntKind.wrap .i64 (y2.2.1+y2.1))) (List.take (Int.toNat (v1.length:Int)) v1)))).length:Nat):Int)) (List.drop (Int.toNat (IntKind.wrap .i64 (y3.2.1+y3.1))) (List.take (Int.toNat (((List.drop (Int.toNat (IntKind.wrap .i64 (y2.2.1+y2.1))) (List.take (Int.toNat (v1.length:Int)) v1)).length:Nat):Int)) (List.drop (Int.toNat (IntKind.wrap .i64 (y2.2.1+y2.1))) (List.take (Int.toNat (v1.length:Int)) v1)))))).length:Nat):Int)))) (
                 ((zP (List.drop (Int.toNat (IntKind.wrap .i64 (y5.2.1+y5.1))) (List.take (Int.toNat (((List.drop (Int.toNat (IntKind.wrap .i64 (y4.2.1+y4.1))) (List.take (Int.toNat (((List.drop (Int.toNat (IntKind.wrap .i64 (y3.2.1+y3.1))) (List.take (Int.toNat (((List.drop (Int.toNat (IntKind.wrap .i64 (y2.2.1+y2.1))) (List.take (Int.toNat (v1.length:Int)) v1)).length:Nat):Int)) (List.drop (Int.toNat (IntKind.wrap .i64 (y2.2.1+y2.1))) (List.take (Int.toNat (v1.length:Int)) v1)))).length:Nat):Int)) (List.drop (Int.toNat (IntKind.wrap .i64 (y3.2.1+y3.1))) (List.take (Int.toNat (((List.drop (Int.toNat (IntKind.wrap .i64 (y2.2.1+y2.1))) (List.take (Int.toNat (v1.length:Int)) v1)).length:Nat):Int)) (List.drop (Int.toNat (IntKind.wrap .i64 (y2.2.1+y2.1))) (List.take (Int.toNat (v1.length:Int)) v1)))))).length:Nat):Int)) (List.drop (Int.toNat (IntKind.wrap .i64 (y4.2.1+y4.1))) (List.take (Int.toNat (((List.drop (Int.toNat (IntKind.wrap .i64 (y3.2.1+y3.1))) (List.take (Int.toNat (((List.drop (Int.toNat (IntKind.wrap .i64 (y2.2.1+y2.1))) (List.take (Int.toNat (v1.length:Int)) v1)).length:Nat):Int)) (List.drop (Int.toNat (IntKind.wrap .i64 (y2.2.1+y2.1))) (List.take (Int.toNat (v1.length:Int)) v1)))).length:Nat):Int)) (List.drop (Int.toNat (IntKind.wrap .i64 (y3.2.1+y3.1))) (List.take (Int.toNat (((List.drop (Int.toNat (IntKind.wrap .i64 (y2.2.1+y2.1))) (List.take (Int.toNat (v1.length:Int)) v1)).length:Nat):Int)) (List.drop (Int.toNat (IntKind.wrap .i64 (y2.2.1+y2.1))) (List.take (Int.toNat (v1.length:Int)) v1)))))))) 0)).bind fun y6=>
                 cond (decide (y6.2.1=(-1))) (
                  some (((List.drop (Int.toNat y2.2.1) (List.take (Int.toNat (IntKind.wrap .i64 (y2.2.1+y2.1))) v1)),(List.drop (Int.toNat y3.2.1) (List.take (Int.toNat (IntKind.wrap .i64 (y3.2.1+y3.1))) (List.drop (Int.toNat (IntKind.wrap .i64 (y2.2.1+y2.1))) (List.take (Int.toNat (v1.length:Int)) v1)))),(List.drop (Int.toNat y4.2.1) (List.take (Int.toNat (IntKind.wrap .i64 (y4.2.1+y4.1))) (List.drop (Int.toNat (IntKind.wrap .i64 (y3.2.1+y3.1))) (List.take (Int.toNat (((List.drop (Int.toNat (IntKind.wrap .i64 (y2.2.1+y2.1))) (List.take (Int.toNat (v1.length:Int)) v1)).length:Nat):Int)) (List.drop (Int.toNat (IntKind.wrap .i64 (y2.2.1+y2.1))) (List.take (Int.toNat (v1.length:Int)) v1)))))),(List.drop (Int.toNat y5.2.1) (List.take (Int.toNat (IntKind.wrap .i64 (y5.2.1+y5.1))) (List.drop (Int.toNat (IntKind.wrap .i64 (y4.2.1+y4.1))) (List.take (Int.toNat (((List.drop (Int.toNat (IntKind.wrap .i64 (y3.2.1+y3.1))) (List.take (Int.toNat (((List.drop (Int.toNat (IntKind.wrap .i64 (y2.2.1+y2.1))) (List.take (Int.toNat (v1.length:Int)) v1)).length:Nat):Int)) (List.drop (Int.toNat (IntKind.wrap .i64 (y2.2.1+y2.1))) (List.take (Int.toNat (v1.length:Int)) v1)))).length:Nat):Int)) (List.drop (Int.toNat (IntKind.wrap .i64 (y3.2.1+y3.1))) (List.take (Int.toNat (((List.drop (Int.toNat (IntKind.wrap .i64 (y2.2.1+y2.1))) (List.take (Int.toNat (v1.length:Int)) v1)).length:Nat):Int)) (List.drop (Int.toNat (IntKind.wrap .i64 (y2.2.1+y2.1))) (List.take (Int.toNat (v1.length:Int)) v1)))))))),[]),false,())) (
                  cond (decide ((IntKind.wrap .i64 ((((List.drop (Int.toNat (IntKind.wrap .i64 (y5.2.1+y5.1))) (List.take (Int.toNat (((List.drop (Int.toNat (IntKind.wrap .i64 (y4.2.1+y4.1))) (List.take (Int.toNat (((List.drop (Int.toNat (IntKind.wrap .i64 (y3.2.1+y3.1))) (List.take (Int.toNat (((List.drop (Int.toNat (IntKind.wrap .i64 (y2.2.1+y2.1))) (List.take (Int.toNat (v1.length:Int)) v1)).length:Nat):Int)) (List.drop (Int.toNat (IntKind.wrap .i64 (y2.2.1+y2.1))) (List.take (Int.toNat (v1.length:Int)) v1)))).length:Nat):Int)) (List.drop (Int.toNat (IntKind.wrap .i64 (y3.2.1+y3.1))) (List.take (Int.toNat (((List.drop (Int.toNat (IntKind.wrap .i64 (y2.2.1+y2.1))) (List.take (Int.toNat (v1.length:Int)) v1)).length:Nat):Int)) (List.drop (Int.toNat (IntKind.wrap .i64 (y2.2.1+y2.1))) (List.take (Int.toNat (v1.length:Int)) v1)))))).length:Nat):Int)) (List.drop (Int.toNat (IntKind.wrap .i64 (y4.2.1+y4.1))) (List.take (Int.toNat (((List.drop (Int.toNat (IntKind.wrap .i64 (y3.2.1+y3.1))) (List.take (Int.toNat (((List.drop (Int.toNat (IntKind.wrap .i64 (y2.2.1+y2.1))) (List.take (Int.toNat (v1.length:Int)) v1)).length:Nat):Int)) (List.drop (Int.toNat (IntKind.wrap .i64 (y2.2.1+y2.1))) (List.take (Int.toNat (v1.length:Int)) v1)))).length:Nat):Int)) (List.drop (Int.toNat (IntKind.wrap .i64 (y3.2.1+y3.1))) (List.take (Int.toNat (((List.drop (Int.toNat (IntKind.wrap .i64 (y2.2.1+y2.1))) (List.take (Int.toNat (v1.length:Int)) v1)).length:Nat):Int)) (List.drop (Int.toNat (IntKind.wrap .i64 (y2.2.1+y2.1))) (List.take (Int.toNat (v1.length:Int)) v1)))))))).length:Nat):Int)-y6.2.1))<y6.1)) (
                   some (((List.drop (Int.toNat y2.2.1) (List.take (Int.toNat (IntKind.wrap .i64 (y2.2.1+y2.1))) v1)),(List.drop (Int.toNat y3.2.1) (List.take (Int.toNat (IntKind.wrap .i64 (y3.2.1+y3.1))) (List.drop (Int.toNat (IntKind.wrap .i64 (y2.2.1+y2.1))) (List.take (Int.toNat (v1.length:Int)) v1)))),(List.drop (Int.toNat y4.2.1) (List.take (Int.toNat (IntKind.wrap .i64 (y4.2.1+y4.1))) (List.drop (Int.toNat (IntKind.wrap .i64 (y3.2.1+y3.1))) (List.take (Int.toNat (((List.drop (Int.toNat (IntKind.wrap .i64 (y2.2.1+y2.1))) (List.take (Int.toNat (v1.length:Int)) v1)).length:Nat):Int)) (List.drop (Int.toNat (IntKind.wrap .i64 (y2.2.1+y2.1))) (List.take (Int.toNat (v1.length:Int)) v1)))))),(List.drop (Int.toNat y5.2.1) (List.take (Int.toNat (IntKind.wrap .i64 (y5.2.1+y5.1))) (List.drop (Int.toNat (IntKind.wrap .i64 (y4.2.1+y4.1))) (List.take (Int.toNat (((List.drop (Int.toNat (IntKind.wrap .i64 (y3.2.1+y3.1))) (List.take (Int.toNat (((List.drop (Int.toNat (IntKind.wrap .i64 (y2.2.1+y2.1))) (List.take (Int.toNat (v1.length:Int)) v1)).length:Nat):Int)) (List.drop (Int.toNat (IntKind.wrap .i64 (y2.2.1+y2.1))) (List.take (Int.toNat (v1.length:Int)) v1)))).length:Nat):Int)) (List.drop (Int.toNat (IntKind.wrap .i64 (y3.2.1+y3.1))) (List.take (Int.toNat (((List.drop (Int.toNat (IntKind.wrap .i64 (y2.2.1+y2.1))) (List.take (Int.toNat (v1.length:Int)) v1)).length:Nat):Int)) (List.drop (Int.toNat (IntKind.wrap .i64 (y2.2.1+y2.1))) (List.take (Int.toNat (v1.length:Int)) v1)))))))),[]),false,())) (
                   cond ((((decide (0≤y6.2.1))&&(decide (y6.2.1≤(IntKind.wrap .i64 (y6.2.1+y6.1)))))&&(decide ((IntKind.wrap .i64 (y6.2.1+y6.1))≤(IntKind.wrap .i64 (y6.2.1+y6.1)))))&&(decide ((IntKind.wrap .i64 (y6.2.1+y6.1))≤(((List.drop (Int.toNat (IntKind.wrap .i64 (y5.2.1+y5.1))) (List.take (Int.toNat (((List.drop (Int.toNat (IntKind.wrap .i64 (y4.2.1+y4.1))) (List.take (Int.toNat (((List.drop (Int.toNat (IntKind.wrap .i64 (y3.2.1+y3.1))) (List.take (Int.toNat (((List.drop (Int.toNat (IntKind.wrap .i64 (y2.2.1+y2.1))) (List.take (Int.toNat (v1.length:Int)) v1)).length:Nat):Int)) (List.drop (Int.toNat (IntKind.wrap .i64 (y2.2.1+y2.1))) (List.take (Int.toNat (v1.length:Int)) v1)))).length:Nat):Int)) (List.drop (Int.toNat (IntKind.wrap .i64 (y3.2.1+y3.1))) (List.take (Int.toNat (((List.drop (Int.toNat (IntKind.wrap .i64 (y2.2.1+y2.1))) (List.take (Int.toNat (v1.length:Int)) v1)).length:Nat):Int)) (List.drop (Int.toNat (IntKind.wrap .i64 (y2.2.1+y2.1))) (List.take (Int.toNat (v1.length:Int)) v1)))))).length:Nat):Int)) (List.drop (Int.toNat (IntKind.wrap .i64 (y4.2.1+y4.1))) (List.take (Int.toNat (((List.drop (Int.toNat (IntKind.wrap .i64 (y3.2.1+y3.1))) (List.take (Int.toNat (((List.drop (Int.toNat (IntKind.wrap .i64 (y2.2.1+y2.1))) (List.take (Int.toNat (v1.length:Int)) v1)).length:Nat):Int)) (List.drop (Int.toNat (IntKind.wrap .i64 (y2.2.1+y2.1))) (List.take (Int.toNat (v1.length:Int)) v1)))).length:Nat):Int)) (List.drop (Int.toNat (IntKind.wrap .i64 (y3.2.1+y3.1))) (List.take (Int.toNat (((List.drop (Int.toNat (IntKind.wrap .i64 (y2.2.1+y2.1))) (List.take (Int.toNat (v1.length:Int)) v1)).length:Nat):Int)) (List.drop (Int.toNat (IntKind.wrap .i64 (y2.2.1+y2.1))) (List.take (Int.toNat (v1.length:Int)) v1)))))))).length:Nat):Int)))) (
                    cond (((decide (0≤(IntKind.wrap .i64 (y6.2.1+y6.1))))&&(decide ((IntKind.wrap .i64 (y6.2.1+y6.1))≤(((List.drop (Int.toNat (IntKind.wrap .i64 (y5.2.1+y5.1))) (List.take (Int.toNat (((List.drop (Int.toNat (IntKind.wrap .i64 (y4.2.1+y4.1))) (List.take (Int.toNat (((List.drop (Int.toNat (IntKind.wrap .i64 (y3.2.1+y3.1))) (List.take (Int.toNat (((List.drop (Int.toNat (IntKind.wrap .i64 (y2.2.1+y2.1))) (List.take (Int.toNat (v1.length:Int)) v1)).length:Nat):Int)) (List.drop (Int.toNat (IntKind.wrap .i64 (y2.2.1+y2.1))) (List.take (Int.toNat (v1.length:Int)) v1)))).length:Nat):Int)) (List.drop (Int.toNat (IntKind.wrap .i64 (y3.2.1+y3.1))) (List.take (Int.toNat (((List.drop (Int.toNat (IntKind.wrap .i64 (y2.2.1+y2.1))) (List.take (Int.toNat (v1.length:Int)) v1)).length:Nat):Int)) (List.drop (Int.toNat (IntKind.wrap .i64 (y2.2.1+y2.1))) (List.take (Int.toNat (v1.length:Int)) v1)))))).length:Nat):Int)) (List.drop (Int.toNat (IntKind.wrap .i64 (y4.2.1+y4.1))) (List.take (Int.toNat (((List.drop (Int.toNat (IntKind.wrap .i64 (y3.2.1+y3.1))) (List.take (Int.toNat (((List.drop (Int.toNat (IntKind.wrap .i64 (y2.2.1+y2.1))) (List.take (Int.toNat (v1.length:Int)) v1)).length:Nat):Int)) (List.drop (Int.toNat (IntKind.wrap .i64 (y2.2.1+y2.1))) (List.take (Int.toNat (v1.length:Int)) v1)))).length:Nat):Int)) (List.drop (Int.toNat (IntKind.wrap .i64 (y3.2.1+y3.1))) (List.take (Int.toNat (((List.drop (Int.toNat (IntKind.wrap .i64 (y2.2.1+y2.1))) (List.take (Int.toNat (v1.length:Int)) v1)).length:Nat):Int)) (List.drop (Int.toNat (IntKind.wrap .i64 (y2.2.1+y2.1))) (List.take (Int.toNat (v1.length:Int)) v1)))))))).length:Nat):Int))))&&(decide ((((List.drop (Int.toNat (IntKind.wrap .i64 (y5.2.1+y5.1))) (List.take (Int.toNat (((List.drop (Int.toNat (IntKind.wrap .i64 (y4.2.1+y4.1))) (List.take (Int.toNat (((List.drop (Int.toNat (IntKind.wrap .i64 (y3.2.1+y3.1))) (List.take (Int.toNat (((List.drop (Int.toNat (IntKind.wrap .i64 (y2.2.1+y2.1))) (List.take (Int.toNat (v1.length:Int)) v1)).length:Nat):Int)) (List.drop (Int.toNat (IntKind.wrap .i64 (y2.2.1+y2.1))) (List.take (Int.toNat (v1.length:Int)) v1)))).length:Nat):Int)) (List.drop (Int.toNat (IntKind.wrap .i64 (y3.2.1+y3.1))) (List.take (Int.toNat (((List.drop (Int.toNat (IntKind.wrap .i64 (y2.2.1+y2.1))) (List.take (Int.toNat (v1.length:Int)) v1)).length:Nat):Int)) (List.drop (Int.toNat (IntKind.wrap .i64 (y2.2.1+y2.1))) (List.take (Int.toNat (v1.length:Int)) v1)))))).length:Nat):Int)) (List.drop (Int.toNat (IntKind.wrap .i64 (y4.2.1+y4.1))) (List.take (Int.toNat (((List.drop (Int.toNat (IntKind.wrap .i64 (y3.2.1+y3.1))) (List.take (Int.toNat (((List.drop (Int.toNat (IntKind.wrap .i64 (y2.2.1+y2.1))) (List.take (Int.toNat (v1.length:Int)) v1)).length:Nat):Int)) (List.drop (Int.toNat (IntKind.wrap .i64 (y2.2.1+y2.1))) (List.take (Int.toNat (v1.length:Int)) v1)))).length:Nat):Int)) (List.drop (Int.toNat (IntKind.wrap .i64 (y3.2.1+y3.1))) (List.take (Int.toNat (((List.drop (Int.toNat (IntKind.wrap .i64 (y2.2.1+y2.1))) (List.take (Int.toNat (v1.length:Int)) v1)).length:Nat):Int)) (List.drop (Int.toNat (IntKind.wrap .i64 (y2.2.1+y2.1))) (List.take (Int.toNat (v1.length:Int)) v1)))))))).length:Nat):Int)≤(((List.drop (Int.toNat (IntKind.wrap .i64 (y5.2.1+y5.1))) (List.take (Int.toNat (((List.drop (Int.toNat (IntKind.wrap .i64 (y4.2.1+y4.1))) (List.take (Int.toNat (((List.drop (Int.toNat (IntKind.wrap .i64 (y3.2.1+y3.1))) (List.take (Int.toNat (((List.drop (Int.toNat (IntKind.wrap .i64 (y2.2.1+y2.1))) (List.take (Int.toNat (v1.length:Int)) v1)).length:Nat):Int)) (List.drop (Int.toNat (IntKind.wrap .i64 (y2.2.1+y2.1))) (List.take (Int.toNat (v1.length:Int)) v1)))).length:Nat):Int)) (List.drop (Int.toNat (IntKind.wrap .i64 (y3.2.1+y3.1))) (List.take (Int.toNat (((List.drop (Int.toNat (IntKind.wrap .i64 (y2.2.1+y2.1))) (List.take (Int.toNat (v1.length:Int)) v1)).length:Nat):Int)) (List.drop (Int.toNat (IntKind.wrap .i64 (y2.2.1+y2.1))) (List.take (Int.toNat (v1.length:Int)) v1)))))).length:Nat):Int)) (List.drop (Int.toNat (IntKind.wrap .i64 (y4.2.1+y4.1))) (List.take (Int.toNat (((List.drop (Int.toNat (IntKind.wrap .i64 (y3.2.1+y3.1))) (List.take (Int.toNat (((List.drop (Int.toNat (IntKind.wrap .i64 (y2.2.1+y2.1))) (List.take (Int.toNat (v1.length:Int)) v1)).length:Nat):Int)) (List.drop (Int.toNat (IntKind.wrap .i64 (y2.2.1+y2.1))) (List.take (Int.toNat (v1.length:Int)) v1)))).length:Nat):Int)) (List.drop (Int.toNat (IntKind.wrap .i64 (y3.2.1+y3.1))) (List.take (Int.toNat (((List.drop (Int.toNat (IntKind.wrap .i64 (y2.2.1+y2.1))) (List.take (Int.toNat (v1.length:Int)) v1)).length:Nat):Int)) (List.drop (Int.toNat (IntKind.wrap .i64 (y2.2.1+y2.1))) (List.take (Int.toNat (v1.length:Int)) v1)))))))).length:Nat):Int)))) (
                     some (((List.drop (Int.toNat y2.2.1) (List.take (Int.toNat (IntKind.wrap .i64 (y2.2.1+y2.1))) v1)),(List.drop (Int.toNat y3.2.1) (List.take (Int.toNat (IntKind.wrap .i64 (y3.2.1+y3.1))) (List.drop (Int.toNat (IntKind.wrap .i64 (y2.2.1+y2.1))) (List.take (Int.toNat (v1.length:Int)) v1)))),(List.drop (Int.toNat y4.2.1) (List.take (Int.toNat (IntKind.wrap .i64 (y4.2.1+y4.1))) (List.drop (Int.toNat (IntKind.wrap .i64 (y3.2.1+y3.1))) (List.take (Int.toNat (((List.drop (Int.toNat (IntKind.wrap .i64 (y2.2.1+y2.1))) (List.take (Int.toNat (v1.length:Int)) v1)).length:Nat):Int)) (List.drop (Int.toNat (IntKind.wrap .i64 (y2.2.1+y2.1))) (List.take (Int.toNat (v1.length:Int)) v1)))))),(List.drop (Int.toNat y5.2.1) (List.take (Int.toNat (IntKind.wrap .i64 (y5.2.1+y5.1))) (List.drop (Int.toNat (IntKind.wrap .i64 (y4.2.1+y4.1))) (List.take (Int.toNat (((List.drop (Int.toNat (IntKind.wrap .i64 (y3.2.1+y3.1))) (List.take (Int.toNat (((List.drop (Int.toNat (IntKind.wrap .i64 (y2.2.1+y2.1))) (List.take (Int.toNat (v1.length:Int)) v1)).length:Nat):Int)) (List.drop (Int.toNat (IntKind.wrap .i64 (y2.2.1+y2.1))) (List.take (Int.toNat (v1.length:Int)) v1)))).length:Nat):Int)) (List.drop (Int.toNat (IntKind.wrap .i64 (y3.2.1+y3.1))) (List.take (Int.toNat (((List.drop (Int.toNat (IntKind.wrap .i64 (y2.2.1+y2.1))) (List.take (Int.toNat (v1.length:Int)) v1)).length:Nat):Int)) (List.drop (Int.toNat (IntKind.wrap .i64 (y2.2.1+y2.1))) (List.take (Int.toNat (v1.length:Int)) v1)))))))),(List.drop (Int.toNat y6.2.1) (List.take (Int.toNat (IntKind.wrap .i64 (y6.2.1+y6.1))) (List.drop (Int.toNat (IntKind.wrap .i64 (y5.2.1+y5.1))) (List.take (Int.toNat (((List.drop (Int.toNat (IntKind.wrap .i64 (y4.2.1+y4.1))) (List.take (Int.toNat (((List.drop (Int.toNat (IntKind.wrap .i64 (y3.2.1+y3.1))) (List.take (Int.toNat (((List.drop (Int.toNat (IntKind.wrap .i64 (y2.2.1+y2.1))) (List.take (Int.toNat (v1.length:Int)) v1)).length:Nat):Int)) (List.drop (Int.toNat (IntKind.wrap .i64 (y2.2.1+y2.1))) (List.take (Int.toNat (v1.length:Int)) v1)))).length:Nat):Int)) (List.drop (Int.toNat (IntKind.wrap .i64 (y3.2.1+y3.1))) (List.take (Int.toNat (((List.drop (Int.toNat (IntKind.wrap .i64 (y2.2.1+y2.1))) (List.take (Int.toNat (v1.length:Int)) v1)).length:Nat):Int)) (List.drop (Int.toNat (IntKind.wrap .i64 (y2.2.1+y2.1))) (List.take (Int.toNat (v1.length:Int)) v1)))))).length:Nat):Int)) (List.drop (Int.toNat (IntKind.wrap .i64 (y4.2.1+y4.1))) (List.take (Int.toNat (((List.drop (Int.toNat (IntKind.wrap .i64 (y3.2.1+y3.1))) (List.take (Int.toNat (((List.drop (Int.toNat (IntKind.wrap .i64 (y2.2.1+y2.1))) (List.take (Int.toNat (v1.length:Int)) v1)).length:Nat):Int)) (List.drop (Int.toNat (IntKind.wrap .i64 (y2.2.1+y2.1))) (List.take (Int.toNat (v1.length:Int)) v1)))).length:Nat):Int)) (List.drop (Int.toNat (IntKind.wrap .i64 (y3.2.1+y3.1))) (List.take (Int.toNat (((List.drop (Int.toNat (IntKind.wrap .i64 (y2.2.1+y2.1))) (List.take (Int.toNat (v1.length:Int)) v1)).length:Nat):Int)) (List.drop (Int.toNat (IntKind.wrap .i64 (y2.2.1+y2.1))) (List.take (Int.toNat (v1.length:Int)) v1))))))))))),(decide ((((List.drop (Int.toNat (IntKind.wrap .i64 (y6.2.1+y6.1))) (List.take (Int.toNat (((List.drop (Int.toNat (IntKind.wrap .i64 (y5.2.1+y5.1))) (List.take (Int.toNat (((List.drop (Int.toNat (IntKind.wrap .i64 (y4.2.1+y4.1))) (List.take (Int.toNat (((List.drop (Int.toNat (IntKind.wrap .i64 (y3.2.1+y3.1))) (List.take (Int.toNat (((List.drop (Int.toNat (IntKind.wrap .i64 (y2.2.1+y2.1))) (List.take (Int.toNat (v1.length:Int)) v1)).length:Nat):Int)) (List.drop (Int.toNat (IntKind.wrap .i64 (y2.2.1+y2.1))) (List.take (Int.toNat (v1.length:Int)) v1)))).length:Nat):Int)) (List.drop (Int.toNat (IntKind.wrap .i64 (y3.2.1+y3.1))) (List.take (Int.toNat (((List.drop (Int.toNat (IntKind.wrap .i64 (y2.2.1+y2.1))) (List.take (Int.toNat (v1.length:Int)) v1)).length:Nat):Int)) (List.drop (Int.toNat (IntKind.wrap .i64 (y2.2.1+y2.1))) (List.take (Int.toNat (v1.length:Int)) v1)))))).length:Nat):Int)) (List.drop (Int.toNat (IntKind.wrap .i64 (y4.2.1+y4.1))) (List.take (Int.toNat (((List.drop (Int.toNat (IntKind.wrap .i64 (y3.2.1+y3.1))) (List.take (Int.toNat (((List.drop (Int.toNat (IntKind.wrap .i64 (y2.2.1+y2.1))) (List.take (Int.toNat (v1.length:Int)) v1)).length:Nat):Int)) (List.drop (Int.toNat (IntKind.wrap .i64 (y2.2.1+y2.1))) (List.take (Int.toNat (v1.length:Int)) v1)))).length:Nat):Int)) (List.drop (Int.toNat (IntKind.wrap .i64 (y3.2.1+y3.1))) (List.take (Int.toNat (((List.drop (Int.toNat (IntKind.wrap .i64 (y2.2.1+y2.1))) (List.take (Int.toNat (v1.length:Int)) v1)).length:Nat):Int)) (List.drop (Int.toNat (IntKind.wrap .i64 (y2.2.1+y2.1))) (List.take (Int.toNat (v1.length:Int)) v1)))))))).length:Nat):Int)) (List.drop (Int.toNat (IntKind.wrap .i64 (y5.2.1+y5.1))) (List.take (Int.toNat (((List.drop (Int.toNat (IntKind.wrap .i64 (y4.2.1+y4.1))) (List.take (Int.toNat (((List.drop (Int.toNat (IntKind.wrap .i64 (y3.2.1+y3.1))) (List.take (Int.toNat (((List.drop (Int.toNat (IntKind.wrap .i64 (y2.2.1+y2.1))) (List.take (Int.toNat (v1.length:Int)) v1)).length:Nat):Int)) (List.drop (Int.toNat (IntKind.wrap .i64 (y2.2.1+y2.1))) (List.take (Int.toNat (v1.length:Int)) v1)))).length:Nat):Int)) (List.drop (Int.toNat (IntKind.wrap .i64 (y3.2.1+y3.1))) (List.take (Int.toNat (((List.drop (Int.toNat (IntKind.wrap .i64 (y2.2.1+y2.1))) (List.take (Int.toNat (v1.length:Int)) v1)).length:Nat):Int)) (List.drop (Int.toNat (IntKind.wrap .i64 (y2.2.1+y2.1))) (List.take (Int.toNat (v1.length:Int)) v1)))))).length:Nat):Int)) (List.drop (Int.toNat (IntKind.wrap .i64 (y4.2.1+y4.1))) (List.take (Int.toNat (((List.drop (Int.toNat (IntKind.wrap .i64 (y3.2.1+y3.1))) (List.take (Int.toNat (((List.drop (Int.toNat (IntKind.wrap .i64 (y2.2.1+y2.1))) (List.take (Int.toNat (v1.length:Int)) v1)).length:Nat):Int)) (List.drop (Int.toNat (IntKind.wrap .i64 (y2.2.1+y2.1))) (List.take (Int.toNat (v1.length:Int)) v1)))).length:Nat):Int)) (List.drop (Int.toNat (IntKind.wrap .i64 (y3.2.1+y3.1))) (List.take (Int.toNat (((List.drop (Int.toNat (IntKind.wrap .i64 (y2.2.1+y2.1))) (List.take (Int.toNat (v1.length:Int)) v1)).length:Nat):Int)) (List.drop (Int.toNat (IntKind.wrap .i64 (y2.2.1+y2.1))) (List.take (Int.toNat (v1.length:Int)) v1)))))))))).length:Nat):Int)=0)),())) (
                     none)) (
                    none)))) (
                 none)) (
                none)))) (
             none)) (
            none)))) (
         none)) (
        none)))) (
     none)) (
    none)))
abbrev jq:Type:=(Unit×Unit×Int×Unit)×((Unit×Unit)×yh×(aI×Unit)×aao×Unit)×aI×Unit
abbrev mL:Type:=(Unit)×((Unit×Unit)×yh×(aI×Unit)×aao×Unit)×aI×Unit
abbrev oS:Type:=(Unit)×((Unit×Unit)×yh×(aI×Unit)×aao×Unit)×aI×Unit
noncomputable def Ac (v1:Int)(v2:Bool)(v3 v4:aI):Option (R3 jq mL oS):=
 cond (decide (v1<(v3.length:Int))) (
  ((zP v3 v1)).bind fun y5=>
  cond (decide (y5.2.1=(-1))) (
   some (R3.ret ((),(((),()),(false,()),(v3,()),((),(),(),(),(),(),(),(),(),(),(),(),(),(),(),(),(),(),(),(),(),(),(),(),(),(),()),()),v4,()))) (
   cond (decide ((v4.length:Int)=400)) (
    some (R3.ret ((),(((),()),(false,()),(v3,()),((),(),(),(),(),(),(),(),(),(),(),(),(),(),(),(),(),(),(),(),(),(),(),(),(),(),()),()),v4,()))) (
    cond ((decide (((v4.length+1) * 8)≤140737488355328))&&(decide ((v4.length+1)≤9223372036854775807))) (
     cond (decide (y5.2.1=(-1))) (
      none) (
      some (R3.next (((),(),y5.2.1,()),(((),()),(v2,()),(v3,()),((),(),(),(),(),(),(),(),(),(),(),(),(),(),(),(),(),(),(),(),(),(),(),(),(),(),()),()),(v4++[y5.1]),())))) (
     none)))) (
  some (R3.out ((),(((),()),(v2,()),(v3,()),((),(),(),(),(),(),(),(),(),(),(),(),(),(),(),(),(),(),(),(),(),(),(),(),(),(),()),()),v4,())))
noncomputable def pE (z:jq):Option (R3 jq mL oS):=Ac z.1.2.2.1 z.2.1.2.1.1 z.2.1.2.2.1.1 z.2.2.1
noncomputable def Rc (v1:aI):Option (aI×Bool×Unit):=
 ((iter aC pE (((),(),0,()),(((),()),(true,()),(v1,()),((),(),(),(),(),(),(),(),(),(),(),(),(),(),(),(),(),(),(),(),(),(),(),(),(),(),()),()),[],()))).bind fun r=>match r with
 | .inl y2=>
   cond (!y2.2.1.2.1.1) (
    some ([],false,())) (
    some (y2.2.2.1,true,()))
 | .inr z3=>
   cond (!z3.2.1.2.1.1) (
    some ([],false,())) (
    some (z3.2.2.1,true,()))
abbrev D0:Type:=(aI×Int×Int×Int×Int×Int×Unit)×(Unit)×aI×Unit
abbrev Ew:Type:=(aI×Int×Int×Int×Int×Int×Unit)×(Unit)×aI×Unit
abbrev NC:Type:=(aI×Int×Int×Int×Int×Int×Unit)×(Unit)×aI×Unit
abbrev Nh:Type:=Unit×Unit×Unit
noncomputable def VP (v1:aI)(v2 v3 v4 v5 v6:Int)(v7:aI):Option (R3 Ew NC Nh):=
 cond (decide (v4<v2)) (
  cond (decide (0<(v1.length:Int))) (
   cond (!(decide (v4<0))) (
    cond ((decide (1≤(v1.length:Int)))&&(decide ((v1.length:Int)≤(v1.length:Int)))) (
     some (R3.next (((List.drop 1 (List.take (Int.toNat (v1.length:Int)) v1)),v2,(bG .or .u64 v3 (IntKind.wrap .u64 ((IntKind.wrap .u64 (rd (.int .u8) v1 0)) * ((2:Int) ^ ((min (Int.toNat v4) 64):Nat))))),(IntKind.wrap .i64 (v4+8)),v5,v6,()),(),v7,()))) (
     none)) (
    none)) (
   none)) (
  cond (!(decide (v2<0))) (
   cond ((decide (((v7.length+1) * 8)≤140737488355328))&&(decide ((v7.length+1)≤9223372036854775807))) (
    cond (!(decide (v2<0))) (
     some (R3.out ((v1,v2,(Int.fdiv v3 ((2:Int) ^ ((min (Int.toNat v2) 64):Nat))),(IntKind.wrap .i64 (v4-v2)),v5,v6,()),(),(v7++[(IntKind.wrap .i64 (bG .and .u64 v3 (IntKind.wrap .u64 ((IntKind.wrap .u64 (1 * ((2:Int) ^ ((min (Int.toNat v2) 64):Nat))))-1))))]),()))) (
     none)) (
    none)) (
   none))
noncomputable def OM (z:Ew):Option (R3 Ew NC Nh):=VP z.1.1 z.1.2.1 z.1.2.2.1 z.1.2.2.2.1 z.1.2.2.2.2.1 z.1.2.2.2.2.2.1 z.2.2.1
abbrev Oc:Type:=ki×(Unit)×aI×Unit
abbrev Nb:Type:=Unit×Unit×Unit
noncomputable def XU (v1:aI)(v2 v3 v4 v5 v6:Int)(v7:aI):Option (R3 D0 Oc Nb):=
 cond (decide (v6<v5)) (
  ((iter aC OM ((v1,v2,v3,v4,v5,v6,()),(),v7,()))).bind fun r=>match r with
  | .inl y8=>
    some (R3.next ((y8.1.1,y8.1.2.1,y8.1.2.2.1,y8.1.2.2.2.1,y8.1.2.2.2.2.1,(IntKind.wrap .i64 (y8.1.2.2.2.2.2.1+1)),()),(),y8.2.2.1,()))
  | .inr z9=>
    some (R3.ret ((),(),()))) (
  some (R3.out ((v3,()),(),v7,())))
noncomputable def NF (z:D0):Option (R3 D0 Oc Nb):=XU z.1.1 z.1.2.1 z.1.2.2.1 z.1.2.2.2.1 z.1.2.2.2.2.1 z.1.2.2.2.2.2.1 z.2.2.1
noncomputable def UT (v1:aI)(v2 v3:Int):Option (aI×Bool×Unit):=
 ((UJ v2 v3)).bind fun y4=>
 cond (!(decide (y4.1=(v1.length:Int)))) (
  some ([],false,())) (
  ((iter aC NF ((v1,v3,0,0,v2,0,()),(),[],()))).bind fun r=>match r with
  | .inl y5=>
    cond (!(decide (y5.1.1=0))) (
     some ([],false,())) (
     some (y5.2.2.1,true,()))
  | .inr z6=>
    none)
noncomputable def Y9 (v1:Int):Option ki:=
 cond (decide (v1<0)) (
  some (0,())) (
  cond (decide (549755813888<v1)) (
   some (0,())) (
   some ((bG .xor .i64 (Int.fdiv v1 2) (IntKind.wrap .i64 (0-(bG .and .i64 v1 1)))),())))
abbrev DE:Type:=(aI×Unit×Unit×Int×Int×Unit)×(ki×Unit)×aI×Unit
abbrev Nj:Type:=(Unit)×(Unit)×aI×Unit
abbrev Ow:Type:=yh×(Unit)×aI×Unit
noncomputable def X4 (v1:aI)(v2 v3 v4:Int)(v5:aI):Option (R3 DE Nj Ow):=
 cond (decide (v3<v2)) (
  cond ((decide (0≤v3))&&(decide (v3<(v1.length:Int)))) (
   ((Y9 (rd az v1 (Int.toNat v3)))).bind fun y6=>
   cond (decide ((rd az v1 (Int.toNat v3))≤549755813888)) (
    ((Rw (IntKind.wrap .i64 (v4+y6.1)))).bind fun y7=>
    cond (!y7.1) (
     some (R3.ret ((false,()),(),[],()))) (
     cond ((decide (((v5.length+1) * 8)≤140737488355328))&&(decide ((v5.length+1)≤9223372036854775807))) (
      some (R3.next ((v1,(),(),v2,(IntKind.wrap .i64 (v3+1)),()),(((IntKind.wrap .i64 (v4+y6.1)),()),()),(v5++[(IntKind.wrap .i64 (v4+y6.1))]),()))) (
      none))) (
    some (R3.ret ((false,()),(),[],())))) (
   none)) (
  some (R3.out ((),(),v5,())))
noncomputable def OE (z:DE):Option (R3 DE Nj Ow):=X4 z.1.1 z.1.2.2.2.1 z.1.2.2.2.2.1 z.2.1.1.1 z.2.2.1
noncomputable def US (v1:aI):Option (aI×Bool×Unit):=
 ((Rc v1)).bind fun y2=>
 cond (!y2.2.1) (
  some ([],false,())) (
  ((iter aC OE ((y2.1,(),(),(y2.1.length:Int),0,()),((0,()),()),[],()))).bind fun r=>match r with
  | .inl y3=>
    some (y3.2.2.1,true,())
  | .inr z4=>
    some (z4.2.2.1,z4.1.1,()))
abbrev jd:Type:=(Unit×Unit×Unit×Int×Unit)×adh×aN×bJ×aN×aN×bJ×aN×Unit
abbrev mQ:Type:=(Unit)×adh×aN×bJ×aN×aN×bJ×aN×Unit
abbrev nC:Type:=Unit×(Unit×Unit×Unit×Unit×Unit×Unit×Unit)×Unit
noncomputable def An (v1 v2 v3 v4 v5 v6 v7 v8 v9 v10 v11 v12:Int)(v13:Bool)(v14:Int)(v15 v16 v17 v18 v19:aI)(v20 v21 v22 v23 v24 v25 v26 v27 v28 v29 v30:Int)(v31:Bool)(v32:Int)(v33:aI)(v34:Int)(v35:aN)(v36:bJ)(v37 v38:aN)(v39:bJ)(v40:aN):Option (R3 jd mQ nC):=
 cond (decide (v1<(v33.length:Int))) (
  cond (((decide (0≤v1))&&(decide (v1≤(v33.length:Int))))&&(decide ((v33.length:Int)≤(v33.length:Int)))) (
   cond ((((decide (0≤v1))&&(decide (v1≤(IntKind.wrap .i64 (v1+(cond (decide ((((List.drop (Int.toNat v1) (List.take (Int.toNat (v33.length:Int)) v33)).length:Nat):Int)<v34)) (((List.drop (Int.toNat v1) (List.take (Int.toNat (v33.length:Int)) v33)).length:Nat):Int) v34))))))&&(decide ((IntKind.wrap .i64 (v1+(cond (decide ((((List.drop (Int.toNat v1) (List.take (Int.toNat (v33.length:Int)) v33)).length:Nat):Int)<v34)) (((List.drop (Int.toNat v1) (List.take (Int.toNat (v33.length:Int)) v33)).length:Nat):Int) v34)))≤(IntKind.wrap .i64 (v1+(cond (decide ((((List.drop (Int.toNat v1) (List.take (Int.toNat (v33.length:Int)) v33)).length:Nat):Int)<v34)) (((List.drop (Int.toNat v1) (List.take (Int.toNat (v33.length:Int)) v33)).length:Nat):Int) v34))))))&&(decide ((IntKind.wrap .i64 (v1+(cond (decide ((((List.drop (Int.toNat v1) (List.take (Int.toNat (v33.length:Int)) v33)).length:Nat):Int)<v34)) (((List.drop (Int.toNat v1) (List.take (Int.toNat (v33.length:Int)) v33)).length:Nat):Int) v34)))≤(v33.length:Int)))) (
    cond (decide (0<(((List.drop (Int.toNat v1) (List.take (Int.toNat (IntKind.wrap .i64 (v1+(cond (decide ((((List.drop (Int.toNat v1) (List.take (Int.toNat (v33.length:Int)) v33)).length:Nat):Int)<v34)) (((List.drop (Int.toNat v1) (List.take (Int.toNat (v33.length:Int)) v33)).length:Nat):Int) v34)))) v33)).length:Nat):Int))) (
     cond (decide (1<(((List.drop (Int.toNat v1) (List.take (Int.toNat (IntKind.wrap .i64 (v1+(cond (decide ((((List.drop (Int.toNat v1) (List.take (Int.toNat (v33.length:Int)) v33)).length:Nat):Int)<v34)) (((List.drop (Int.toNat v1) (List.take (Int.toNat (v33.length:Int)) v33)).length:Nat):Int) v34)))) v33)).length:Nat):Int))) (
      cond (decide (2<(((List.drop (Int.toNat v1) (List.take (Int.toNat (IntKind.wrap .i64 (v1+(cond (decide ((((List.drop (Int.toNat v1) (List.take (Int.toNat (v33.length:Int)) v33)).length:Nat):Int)<v34)) (((List.drop (Int.toNat v1) (List.take (Int.toNat (v33.length:Int)) v33)).length:Nat):Int) v34)))) v33)).length:Nat):Int))) (
       cond ((decide (((v38.length+1) * 24)≤140737488355328))&&(decide ((v38.length+1)≤9223372036854775807))) (
        some (R3.next (((),(),(),(IntKind.wrap .i64 (v1+v34)),()),((v2,v3,v4,v5,v6,v7,v8,v9,v10,v11,v12,v13,v14,(),(),(),()),(v15,v16,v17,v18,v19,()),(v20,v21,v22,v23,v24,v25,v26,v27,v28,v29,v30,v31,v32,(),(),(),()),(v33,()),(v34,()),((),(),(),(),(),(),(),(),(),(),(),(),(),(),(),(),(),(),(),(),(),(),(),(),(),(),(),(),(),(),(),(),(),(),(),(),(),(),(),(),(),(),(),(),(),(),(),(),(),(),(),(),(),(),(),(),(),(),(),(),(),(),(),(),(),(),(),(),(),(),(),(),(),(),(),(),(),(),(),(),(),(),(),(),(),(),(),(),(),(),(),(),(),(),(),(),(),(),(),(),(),(),(),(),(),(),(),(),(),(),(),(),(),(),(),(),(),(),(),(),(),(),(),(),(),(),(),(),(),(),(),(),(),(),(),(),(),(),(),(),(),(),(),(),(),(),(),(),(),(),(),(),(),(),(),(),(),(),(),(),(),(),(),(),(),(),(),(),(),(),(),(),(),(),(),(),(),(),(),(),(),(),(),(),(),(),(),(),(),(),(),(),(),(),(),(),(),(),(),(),(),(),(),(),(),(),(),(),(),(),(),(),(),(),(),(),(),(),(),(),(),(),(),(),(),(),(),(),(),(),(),(),(),(),(),(),(),()),()),v35,v36,v37,(v38++[((rd az (List.drop (Int.toNat v1) (List.take (Int.toNat (IntKind.wrap .i64 (v1+(cond (decide ((((List.drop (Int.toNat v1) (List.take (Int.toNat (v33.length:Int)) v33)).length:Nat):Int)<v34)) (((List.drop (Int.toNat v1) (List.take (Int.toNat (v33.length:Int)) v33)).length:Nat):Int) v34)))) v33)) 0),(rd az (List.drop (Int.toNat v1) (List.take (Int.toNat (IntKind.wrap .i64 (v1+(cond (decide ((((List.drop (Int.toNat v1) (List.take (Int.toNat (v33.length:Int)) v33)).length:Nat):Int)<v34)) (((List.drop (Int.toNat v1) (List.take (Int.toNat (v33.length:Int)) v33)).length:Nat):Int) v34)))) v33)) 1),(rd az (List.drop (Int.toNat v1) (List.take (Int.toNat (IntKind.wrap .i64 (v1+(cond (decide ((((List.drop (Int.toNat v1) (List.take (Int.toNat (v33.length:Int)) v33)).length:Nat):Int)<v34)) (((List.drop (Int.toNat v1) (List.take (Int.toNat (v33.length:Int)) v33)).length:Nat):Int) v34)))) v33)) 2))]),v39,v40,()))) (
        none)) (
       none)) (
      none)) (
     none)) (
    none)) (
   none)) (
  some (R3.out ((),((v2,v3,v4,v5,v6,v7,v8,v9,v10,v11,v12,v13,v14,(),(),(),()),(v15,v16,v17,v18,v19,()),(v20,v21,v22,v23,v24,v25,v26,v27,v28,v29,v30,v31,v32,(),(),(),()),(v33,()),(v34,()),((),(),(),(),(),(),(),(),(),(),(),(),(),(),(),(),(),(),(),(),(),(),(),(),(),(),(),(),(),(),(),(),(),(),(),(),(),(),(),(),(),(),(),(),(),(),(),(),(),(),(),(),(),(),(),(),(),(),(),(),(),(),(),(),(),(),(),(),(),(),(),(),(),(),(),(),(),(),(),(),(),(),(),(),(),(),(),(),(),(),(),(),(),(),(),(),(),(),(),(),(),(),(),(),(),(),(),(),(),(),(),(),(),(),(),(),(),(),(),(),(),(),(),(),(),(),(),(),(),(),(),(),(),(),(),(),(),(),(),(),(),(),(),(),(),(),(),(),(),(),(),(),(),(),(),(),(),(),(),(),(),(),(),(),(),(),(),(),(),(),(),(),(),(),(),(),(),(),(),(),(),(),(),(),(),(),(),(),(),(),(),(),(),(),(),(),(),(),(),(),(),(),(),(),(),(),(),(),(),(),(),(),(),(),(),(),(),(),(),(),(),(),(),(),(),(),(),(),(),(),(),(),(),(),(),(),(),()),()),v35,v36,v37,v38,v39,v40,())))
noncomputable def nX (z:jd):Option (R3 jd mQ nC):=An z.1.2.2.2.1 z.2.1.1.1 z.2.1.1.2.1 z.2.1.1.2.2.1 z.2.1.1.2.2.2.1 z.2.1.1.2.2.2.2.1 z.2.1.1.2.2.2.2.2.1 z.2.1.1.2.2.2.2.2.2.1 z.2.1.1.2.2.2.2.2.2.2.1 z.2.1.1.2.2.2.2.2.2.2.2.1 z.2.1.1.2.2.2.2.2.2.2.2.2.1 z.2.1.1.2.2.2.2.2.2.2.2.2.2.1 z.2.1.1.2.2.2.2.2.2.2.2.2.2.2.1 z.2.1.1.2.2.2.2.2.2.2.2.2.2.2.2.1 z.2.1.2.1.1 z.2.1.2.1.2.1 z.2.1.2.1.2.2.1 z.2.1.2.1.2.2.2.1 z.2.1.2.1.2.2.2.2.1 z.2.1.2.2.1.1 z.2.1.2.2.1.2.1 z.2.1.2.2.1.2.2.1 z.2.1.2.2.1.2.2.2.1 z.2.1.2.2.1.2.2.2.2.1 z.2.1.2.2.1.2.2.2.2.2.1 z.2.1.2.2.1.2.2.2.2.2.2.1 z.2.1.2.2.1.2.2.2.2.2.2.2.1 z.2.1.2.2.1.2.2.2.2.2.2.2.2.1 z.2.1.2.2.1.2.2.2.2.2.2.2.2.2.1 z.2.1.2.2.1.2.2.2.2.2.2.2.2.2.2.1 z.2.1.2.2.1.2.2.2.2.2.2.2.2.2.2.2.1 z.2.1.2.2.1.2.2.2.2.2.2.2.2.2.2.2.2.1 z.2.1.2.2.2.1.1 z.2.1.2.2.2.2.1.1 z.2.2.1 z.2.2.2.1 z.2.2.2.2.1 z.2.2.2.2.2.1 z.2.2.2.2.2.2.1 z.2.2.2.2.2.2.2.1
abbrev yU:Type:=(Unit×Unit×aI×aI×aI×aI×Int×Int×Unit)×(qo×qo×Unit)×aN×bJ×aN×aN×bJ×aN×Unit
abbrev GI:Type:=(Unit×Unit×aI×aI×Unit)×(qo×qo×Unit)×aN×bJ×aN×aN×bJ×aN×Unit
abbrev F6:Type:=Unit×Unit×Unit
noncomputable def RR (v1 v2 v3 v4:aI)(v5 v6 v7 v8 v9 v10 v11 v12 v13 v14 v15 v16 v17:Int)(v18:Bool)(v19 v20 v21 v22 v23 v24 v25 v26 v27 v28 v29 v30:Int)(v31:Bool)(v32:Int)(v33:aN)(v34:bJ)(v35 v36:aN)(v37:bJ)(v38:aN):Option (R3 yU GI F6):=
 cond (decide (v6<v5)) (
  cond ((decide (0≤v6))&&(decide (v6<(v4.length:Int)))) (
   cond ((decide (0≤v6))&&(decide (v6<(v1.length:Int)))) (
    cond ((decide (((v37.length+1) * 40)≤140737488355328))&&(decide ((v37.length+1)≤9223372036854775807))) (
     some (R3.next (((),(),v1,v2,v3,v4,v5,(IntKind.wrap .i64 (v6+1)),()),((v7,v8,v9,v10,v11,v12,v13,v14,v15,v16,v17,v18,v19,(),(),(),()),(v20,v21,v22,v23,v24,v25,v26,v27,v28,v29,v30,v31,v32,(),(),(),()),()),v33,v34,v35,v36,(v37++[((Int.fdiv (rd az v4 (Int.toNat v6)) 32),(IntKind.wrap .i64 (Int.tdiv (bG .and .i64 (rd az v4 (Int.toNat v6)) 31) 8)),(Int.tmod (bG .and .i64 (rd az v4 (Int.toNat v6)) 31) 8),(rd az v1 (Int.toNat v6)),v32)]),v38,()))) (
     none)) (
    none)) (
   none)) (
  some (R3.out (((),(),v2,v3,()),((v7,v8,v9,v10,v11,v12,v13,v14,v15,v16,v17,v18,v19,(),(),(),()),(v20,v21,v22,v23,v24,v25,v26,v27,v28,v29,v30,v31,v32,(),(),(),()),()),v33,v34,v35,v36,v37,v38,())))
noncomputable def GA (z:yU):Option (R3 yU GI F6):=RR z.1.2.2.1 z.1.2.2.2.1 z.1.2.2.2.2.1 z.1.2.2.2.2.2.1 z.1.2.2.2.2.2.2.1 z.1.2.2.2.2.2.2.2.1 z.2.1.1.1 z.2.1.1.2.1 z.2.1.1.2.2.1 z.2.1.1.2.2.2.1 z.2.1.1.2.2.2.2.1 z.2.1.1.2.2.2.2.2.1 z.2.1.1.2.2.2.2.2.2.1 z.2.1.1.2.2.2.2.2.2.2.1 z.2.1.1.2.2.2.2.2.2.2.2.1 z.2.1.1.2.2.2.2.2.2.2.2.2.1 z.2.1.1.2.2.2.2.2.2.2.2.2.2.1 z.2.1.1.2.2.2.2.2.2.2.2.2.2.2.1 z.2.1.1.2.2.2.2.2.2.2.2.2.2.2.2.1 z.2.1.2.1.1 z.2.1.2.1.2.1 z.2.1.2.1.2.2.1 z.2.1.2.1.2.2.2.1 z.2.1.2.1.2.2.2.2.1 z.2.1.2.1.2.2.2.2.2.1 z.2.1.2.1.2.2.2.2.2.2.1 z.2.1.2.1.2.2.2.2.2.2.2.1 z.2.1.2.1.2.2.2.2.2.2.2.2.1 z.2.1.2.1.2.2.2.2.2.2.2.2.2.1 z.2.1.2.1.2.2.2.2.2.2.2.2.2.2.1 z.2.1.2.1.2.2.2.2.2.2.2.2.2.2.2.1 z.2.1.2.1.2.2.2.2.2.2.2.2.2.2.2.2.1 z.2.2.1 z.2.2.2.1 z.2.2.2.2.1 z.2.2.2.2.2.1 z.2.2.2.2.2.2.1 z.2.2.2.2.2.2.2.1
abbrev zg:Type:=(Unit×Unit×aI×aI×Int×Int×Unit)×(qo×qo×Unit)×aN×bJ×aN×aN×bJ×aN×Unit
abbrev FR:Type:=(Unit×Unit×Unit)×(qo×qo×Unit)×aN×bJ×aN×aN×bJ×aN×Unit
abbrev G3:Type:=Unit×Unit×Unit
noncomputable def TP (v1 v2:aI)(v3 v4 v5 v6 v7 v8 v9 v10 v11 v12 v13 v14 v15:Int)(v16:Bool)(v17 v18 v19 v20 v21 v22 v23 v24 v25 v26 v27 v28:Int)(v29:Bool)(v30:Int)(v31:aN)(v32:bJ)(v33 v34:aN)(v35:bJ)(v36:aN):Option (R3 zg FR G3):=
 cond (decide (v4<v3)) (
  cond ((decide (0≤v4))&&(decide (v4<(v2.length:Int)))) (
   cond ((decide (0≤v4))&&(decide (v4<(v1.length:Int)))) (
    cond ((decide (((v36.length+1) * 24)≤140737488355328))&&(decide ((v36.length+1)≤9223372036854775807))) (
     some (R3.next (((),(),v1,v2,v3,(IntKind.wrap .i64 (v4+1)),()),((v5,v6,v7,v8,v9,v10,v11,v12,v13,v14,v15,v16,v17,(),(),(),()),(v18,v19,v20,v21,v22,v23,v24,v25,v26,v27,v28,v29,v30,(),(),(),()),()),v31,v32,v33,v34,v35,(v36++[((IntKind.wrap .i64 (Int.tdiv (rd az v2 (Int.toNat v4)) 8)),(Int.tmod (rd az v2 (Int.toNat v4)) 8),(rd az v1 (Int.toNat v4)))]),()))) (
     none)) (
    none)) (
   none)) (
  some (R3.out (((),(),()),((v5,v6,v7,v8,v9,v10,v11,v12,v13,v14,v15,v16,v17,(),(),(),()),(v18,v19,v20,v21,v22,v23,v24,v25,v26,v27,v28,v29,v30,(),(),(),()),()),v31,v32,v33,v34,v35,v36,())))
noncomputable def Gt (z:zg):Option (R3 zg FR G3):=TP z.1.2.2.1 z.1.2.2.2.1 z.1.2.2.2.2.1 z.1.2.2.2.2.2.1 z.2.1.1.1 z.2.1.1.2.1 z.2.1.1.2.2.1 z.2.1.1.2.2.2.1 z.2.1.1.2.2.2.2.1 z.2.1.1.2.2.2.2.2.1 z.2.1.1.2.2.2.2.2.2.1 z.2.1.1.2.2.2.2.2.2.2.1 z.2.1.1.2.2.2.2.2.2.2.2.1 z.2.1.1.2.2.2.2.2.2.2.2.2.1 z.2.1.1.2.2.2.2.2.2.2.2.2.2.1 z.2.1.1.2.2.2.2.2.2.2.2.2.2.2.1 z.2.1.1.2.2.2.2.2.2.2.2.2.2.2.2.1 z.2.1.2.1.1 z.2.1.2.1.2.1 z.2.1.2.1.2.2.1 z.2.1.2.1.2.2.2.1 z.2.1.2.1.2.2.2.2.1 z.2.1.2.1.2.2.2.2.2.1 z.2.1.2.1.2.2.2.2.2.2.1 z.2.1.2.1.2.2.2.2.2.2.2.1 z.2.1.2.1.2.2.2.2.2.2.2.2.1 z.2.1.2.1.2.2.2.2.2.2.2.2.2.1 z.2.1.2.1.2.2.2.2.2.2.2.2.2.2.1 z.2.1.2.1.2.2.2.2.2.2.2.2.2.2.2.1 z.2.1.2.1.2.2.2.2.2.2.2.2.2.2.2.2.1 z.2.2.1 z.2.2.2.1 z.2.2.2.2.1 z.2.2.2.2.2.1 z.2.2.2.2.2.2.1 z.2.2.2.2.2.2.2.1
noncomputable def Y6 (v1:aI):Option ((Tk×Gy×Int×aN×bJ×aN)×Bool×Unit):=
 ((ZG v1)).bind fun y2=>
 ((Rc y2.1.1)).bind fun y3=>
 cond (!y2.2.1) (
  some ((((0,0),(0,0),0,0,0,0),(0,0,0,false),0,[],[],[]),false,())) (
  cond (!y3.2.1) (
   some ((((0,0),(0,0),0,0,0,0),(0,0,0,false),0,[],[],[]),false,())) (
   cond (decide ((y3.1.length:Int)<15)) (
    some ((((0,0),(0,0),0,0,0,0),(0,0,0,false),0,[],[],[]),false,())) (
    cond (!(decide ((Int.tmod (IntKind.wrap .i64 ((y3.1.length:Int)-15)) 3)=0))) (
     some ((((0,0),(0,0),0,0,0,0),(0,0,0,false),0,[],[],[]),false,())) (
     cond (decide (11<(y3.1.length:Int))) (
      cond (decide (1<(rd az y3.1 11))) (
       some ((((0,0),(0,0),0,0,0,0),(0,0,0,false),0,[],[],[]),false,())) (
       cond (decide (0<(y3.1.length:Int))) (
        cond (decide (1<(y3.1.length:Int))) (
         cond (decide (2<(y3.1.length:Int))) (
          cond (decide (3<(y3.1.length:Int))) (
           cond (decide (4<(y3.1.length:Int))) (
            cond (decide (5<(y3.1.length:Int))) (
             cond (decide (6<(y3.1.length:Int))) (
              cond (decide (7<(y3.1.length:Int))) (
               cond (decide (8<(y3.1.length:Int))) (
                cond (decide (9<(y3.1.length:Int))) (
                 cond (decide (10<(y3.1.length:Int))) (
                  cond (decide (11<(y3.1.length:Int))) (
                   cond (decide (12<(y3.1.length:Int))) (
                    cond ((decide (15≤(y3.1.length:Int)))&&(decide ((y3.1.length:Int)≤(y3.1.length:Int)))) (
                     ((iter aC nX (((),(),(),0,()),((0,0,0,0,0,0,0,0,0,0,0,false,0,(),(),(),()),(y2.1.1,y2.1.2.1,y2.1.2.2.1,y2.1.2.2.2.1,y2.1.2.2.2.2,()),((rd az y3.1 0),(rd az y3.1 1),(rd az y3.1 2),(rd az y3.1 3),(rd az y3.1 4),(rd az y3.1 5),(rd az y3.1 6),(rd az y3.1 7),(rd az y3.1 8),(rd az y3.1 9),(rd az y3.1 10),(decide ((rd az y3.1 11)=1)),(rd az y3.1 12),(),(),(),()),((List.drop 15 (List.take (Int.toNat (y3.1.length:Int)) y3.1)),()),(3,()),((),(),(),(),(),(),(),(),(),(),(),(),(),(),(),(),(),(),(),(),(),(),(),(),(),(),(),(),(),(),(),(),(),(),(),(),(),(),(),(),(),(),(),(),(),(),(),(),(),(),(),(),(),(),(),(),(),(),(),(),(),(),(),(),(),(),(),(),(),(),(),(),(),(),(),(),(),(),(),(),(),(),(),(),(),(),(),(),(),(),(),(),(),(),(),(),(),(),(),(),(),(),(),(),(),(),(),(),(),(),(),(),(),(),(),(),(),(),(),(),(),(),(),(),(),(),(),(),(),(),(),(),(),(),(),(),(),(),(),(),(),(),(),(),(),(),(),(),(),(),(),(),(),(),(),(),(),(),(),(),(),(),(),(),(),(),(),(),(),(),(),(),(),(),(),(),(),(),(),(),(),(),(),(),(),(),(),(),(),(),(),(),(),(),(),(),(),(),(),(),(),(),(),(),(),(),(),(),(),(),(),(),(),(),(),(),(),(),(),(),(),(),(),(),(),(),(),(),(),(),(),(),(),(),(),(),(),()),()),[],[],[],[],[],[],()))).bind fun r=>match r with
                     | .inl y4=>
                       cond (decide (13<(y3.1.length:Int))) (
                        ((UT y4.2.1.2.1.2.1 (rd az y3.1 13) 10)).bind fun y6=>
                        ((US y4.2.1.2.1.2.2.1)).bind fun y7=>
                        cond (decide (14<(y3.1.length:Int))) (
                         ((UT y4.2.1.2.1.2.2.2.1 (rd az y3.1 14) 5)).bind fun y8=>
                         ((US y4.2.1.2.1.2.2.2.2.1)).bind fun y9=>
                         cond (!y6.2.1) (
                          some ((((0,0),(0,0),0,0,0,0),(0,0,0,false),0,[],[],[]),false,())) (
                          cond (!y7.2.1) (
                           some ((((0,0),(0,0),0,0,0,0),(0,0,0,false),0,[],[],[]),false,())) (
                           cond (!y8.2.1) (
                            some ((((0,0),(0,0),0,0,0,0),(0,0,0,false),0,[],[],[]),false,())) (
                            cond (!y9.2.1) (
                             some ((((0,0),(0,0),0,0,0,0),(0,0,0,false),0,[],[],[]),false,())) (
                             cond (!(decide ((y7.1.length:Int)=(y6.1.length:Int)))) (
                              some ((((0,0),(0,0),0,0,0,0),(0,0,0,false),0,[],[],[]),false,())) (
                              cond (!(decide ((y9.1.length:Int)=(y8.1.length:Int)))) (
                               some ((((0,0),(0,0),0,0,0,0),(0,0,0,false),0,[],[],[]),false,())) (
                               ((iter aC GA (((),(),y7.1,y8.1,y9.1,y6.1,(y6.1.length:Int),0,()),((y4.2.1.1.1,y4.2.1.1.2.1,y4.2.1.1.2.2.1,y4.2.1.1.2.2.2.1,y4.2.1.1.2.2.2.2.1,y4.2.1.1.2.2.2.2.2.1,y4.2.1.1.2.2.2.2.2.2.1,y4.2.1.1.2.2.2.2.2.2.2.1,y4.2.1.1.2.2.2.2.2.2.2.2.1,y4.2.1.1.2.2.2.2.2.2.2.2.2.1,y4.2.1.1.2.2.2.2.2.2.2.2.2.2.1,y4.2.1.1.2.2.2.2.2.2.2.2.2.2.2.1,y4.2.1.1.2.2.2.2.2.2.2.2.2.2.2.2.1,(),(),(),()),(y4.2.1.2.2.1.1,y4.2.1.2.2.1.2.1,y4.2.1.2.2.1.2.2.1,y4.2.1.2.2.1.2.2.2.1,y4.2.1.2.2.1.2.2.2.2.1,y4.2.1.2.2.1.2.2.2.2.2.1,y4.2.1.2.2.1.2.2.2.2.2.2.1,y4.2.1.2.2.1.2.2.2.2.2.2.2.1,y4.2.1.2.2.1.2.2.2.2.2.2.2.2.1,y4.2.1.2.2.1.2.2.2.2.2.2.2.2.2.1,y4.2.1.2.2.1.2.2.2.2.2.2.2.2.2.2.1,y4.2.1.2.2.1.2.2.2.2.2.2.2.2.2.2.2.1,y4.2.1.2.2.1.2.2.2.2.2.2.2.2.2.2.2.2.1,(),(),(),()),()),y4.2.2.1,y4.2.2.2.1,y4.2.2.2.2.1,y4.2.2.2.2.2.1,y4.2.2.2.2.2.2.1,y4.2.2.2.2.2.2.2.1,()))).bind fun r=>match r with
                               | .inl y10=>
                                 ((iter aC Gt (((),(),y10.1.2.2.2.1,y10.1.2.2.1,(y10.1.2.2.1.length:Int),0,()),((y10.2.1.1.1,y10.2.1.1.2.1,y10.2.1.1.2.2.1,y10.2.1.1.2.2.2.1,y10.2.1.1.2.2.2.2.1,y10.2.1.1.2.2.2.2.2.1,y10.2.1.1.2.2.2.2.2.2.1,y10.2.1.1.2.2.2.2.2.2.2.1,y10.2.1.1.2.2.2.2.2.2.2.2.1,y10.2.1.1.2.2.2.2.2.2.2.2.2.1,y10.2.1.1.2.2.2.2.2.2.2.2.2.2.1,y10.2.1.1.2.2.2.2.2.2.2.2.2.2.2.1,y10.2.1.1.2.2.2.2.2.2.2.2.2.2.2.2.1,(),(),(),()),(y10.2.1.2.1.1,y10.2.1.2.1.2.1,y10.2.1.2.1.2.2.1,y10.2.1.2.1.2.2.2.1,y10.2.1.2.1.2.2.2.2.1,y10.2.1.2.1.2.2.2.2.2.1,y10.2.1.2.1.2.2.2.2.2.2.1,y10.2.1.2.1.2.2.2.2.2.2.2.1,y10.2.1.2.1.2.2.2.2.2.2.2.2.1,y10.2.1.2.1.2.2.2.2.2.2.2.2.2.1,y10.2.1.2.1.2.2.2.2.2.2.2.2.2.2.1,y10.2.1.2.1.2.2.2.2.2.2.2.2.2.2.2.1,y10.2.1.2.1.2.2.2.2.2.2.2.2.2.2.2.2.1,(),(),(),()),()),y10.2.2.1,y10.2.2.2.1,y10.2.2.2.2.1,y10.2.2.2.2.2.1,y10.2.2.2.2.2.2.1,y10.2.2.2.2.2.2.2.1,()))).bind fun r=>match r with
                                 | .inl y12=>
                                   ((f15 y12.2.1.2.1.1 y12.2.1.2.1.2.1 y12.2.1.2.1.2.2.1 y12.2.1.2.1.2.2.2.1 y12.2.1.2.1.2.2.2.2.1 y12.2.1.2.1.2.2.2.2.2.1 y12.2.1.2.1.2.2.2.2.2.2.1 y12.2.1.2.1.2.2.2.2.2.2.2.1 y12.2.1.2.1.2.2.2.2.2.2.2.2.1 y12.2.1.2.1.2.2.2.2.2.2.2.2.2.1 y12.2.1.2.1.2.2.2.2.2.2.2.2.2.2.1 y12.2.1.2.1.2.2.2.2.2.2.2.2.2.2.2.1 y12.2.1.2.1.2.2.2.2.2.2.2.2.2.2.2.2.1 y12.2.2.2.2.2.1 y12.2.2.2.2.2.2.1 y12.2.2.2.2.2.2.2.1)).bind fun y14=>
                                   cond (!y14.1) (
                                    some ((((0,0),(0,0),0,0,0,0),(0,0,0,false),0,[],[],[]),false,())) (
                                    some ((((y12.2.1.2.1.1,y12.2.1.2.1.2.1),(y12.2.1.2.1.2.2.1,y12.2.1.2.1.2.2.2.1),y12.2.1.2.1.2.2.2.2.1,y12.2.1.2.1.2.2.2.2.2.1,y12.2.1.2.1.2.2.2.2.2.2.1,y12.2.1.2.1.2.2.2.2.2.2.2.1),(y12.2.1.2.1.2.2.2.2.2.2.2.2.1,y12.2.1.2.1.2.2.2.2.2.2.2.2.2.1,y12.2.1.2.1.2.2.2.2.2.2.2.2.2.2.1,y12.2.1.2.1.2.2.2.2.2.2.2.2.2.2.2.1),y12.2.1.2.1.2.2.2.2.2.2.2.2.2.2.2.2.1,y12.2.2.2.2.2.1,y12.2.2.2.2.2.2.1,y12.2.2.2.2.2.2.2.1),true,()))
                                 | .inr z13=>
                                   none
                               | .inr z11=>
                                 none))))))) (
                         none)) (
                        none)
                     | .inr z5=>
                       none) (
                     none)) (
                    none)) (
                   none)) (
                  none)) (
                 none)) (
                none)) (
               none)) (
              none)) (
             none)) (
            none)) (
           none)) (
          none)) (
         none)) (
        none))) (
      none)))))
noncomputable def Rk  : Option yh:=
 (f27).bind fun y1=>
 ((f16 y1.1.1.1 y1.1.1.2 y1.1.2.1.1 y1.1.2.1.2 y1.1.2.2.1 y1.1.2.2.2.1 y1.1.2.2.2.2.1 y1.1.2.2.2.2.2 1 9 5 false)).bind fun y2=>
 ((Bk y2.1.1.1.1 y2.1.1.1.2 y2.1.1.2.1.1 y2.1.1.2.1.2 y2.1.1.2.2.1 y2.1.1.2.2.2.1 y2.1.1.2.2.2.2.1 y2.1.1.2.2.2.2.2 y2.1.2.1.1 y2.1.2.1.2.1 y2.1.2.1.2.2.1 y2.1.2.1.2.2.2 y2.1.2.2.1 y2.1.2.2.2.1 y2.1.2.2.2.2.1 y2.1.2.2.2.2.2 2 0 0 1 0 0 0 0 false)).bind fun y3=>
 ((Bk y3.1.1.1.1 y3.1.1.1.2 y3.1.1.2.1.1 y3.1.1.2.1.2 y3.1.1.2.2.1 y3.1.1.2.2.2.1 y3.1.1.2.2.2.2.1 y3.1.1.2.2.2.2.2 y3.1.2.1.1 y3.1.2.1.2.1 y3.1.2.1.2.2.1 y3.1.2.1.2.2.2 y3.1.2.2.1 y3.1.2.2.2.1 y3.1.2.2.2.2.1 y3.1.2.2.2.2.2 0 3 0 0 0 0 0 0 false)).bind fun y4=>
 ((Zy y4.1.1.1.1 y4.1.1.1.2 y4.1.1.2.1.1 y4.1.1.2.1.2 y4.1.1.2.2.1 y4.1.1.2.2.2.1 y4.1.1.2.2.2.2.1 y4.1.1.2.2.2.2.2 y4.1.2.1.1 y4.1.2.1.2.1 y4.1.2.1.2.2.1 y4.1.2.1.2.2.2 y4.1.2.2.1 y4.1.2.2.2.1 y4.1.2.2.2.2.1 y4.1.2.2.2.2.2)).bind fun y5=>
 ((Y6 y5.1)).bind fun y6=>
 ((wJ y6.1.1.1.1 y6.1.1.1.2 y6.1.1.2.1.1 y6.1.1.2.1.2 y6.1.1.2.2.1 y6.1.1.2.2.2.1 y6.1.1.2.2.2.2.1 y6.1.1.2.2.2.2.2 y6.1.2.1.1 y6.1.2.1.2.1 y6.1.2.1.2.2.1 y6.1.2.1.2.2.2 y6.1.2.2.1 y6.1.2.2.2.1 y6.1.2.2.2.2.1 y6.1.2.2.2.2.2 7)).bind fun y7=>
 cond (decide (y3.2.1=0)) (
  cond (decide (y4.2.1=0)) (
   cond y5.2.1 (
    cond y6.2.1 (
     ((f14 y6.1.1.1.1 y6.1.1.1.2 y6.1.1.2.1.1 y6.1.1.2.1.2 y6.1.1.2.2.1 y6.1.1.2.2.2.1 y6.1.1.2.2.2.2.1 y6.1.1.2.2.2.2.2 y6.1.2.1.1 y6.1.2.1.2.1 y6.1.2.1.2.2.1 y6.1.2.1.2.2.2 y6.1.2.2.1 y6.1.2.2.2.1 y6.1.2.2.2.2.1 y6.1.2.2.2.2.2 y4.1.1.1.1 y4.1.1.1.2 y4.1.1.2.1.1 y4.1.1.2.1.2 y4.1.1.2.2.1 y4.1.1.2.2.2.1 y4.1.1.2.2.2.2.1 y4.1.1.2.2.2.2.2 y4.1.2.1.1 y4.1.2.1.2.1 y4.1.2.1.2.2.1 y4.1.2.1.2.2.2 y4.1.2.2.1 y4.1.2.2.2.1 y4.1.2.2.2.2.1 y4.1.2.2.2.2.2)).bind fun y8=>
     cond y8.1 (
      cond (decide ((y6.1.2.2.2.2.1.length:Int)=1)) (
       cond (decide (0<(y6.1.2.2.2.2.1.length:Int))) (
        cond (decide ((rd (.pair az (.pair az (.pair az (.pair az az)))) y6.1.2.2.2.2.1 0).2.2.2.1=3)) (
         cond y7.2.1 (
          cond (decide (y7.1.2.2.1=7)) (
           cond (decide (0<(y7.1.2.2.2.2.1.length:Int))) (
            some ((decide ((rd (.pair az (.pair az (.pair az (.pair az az)))) y7.1.2.2.2.2.1 0).2.2.2.2=7)),())) (
            none)) (
           some (false,()))) (
          some (false,()))) (
         some (false,()))) (
        none)) (
       some (false,()))) (
      some (false,()))) (
     some (false,()))) (
    some (false,()))) (
   some (false,()))) (
  some (false,()))
abbrev EH:Type:=(Unit×Unit×Unit×Int×aac×Int×Int×Unit)×((Int×Int×Int×Int×Int×Int×Int×Int×Int×Int×Int×Bool×Int×aN×bJ×aN×Unit)×qo×(Int×Int×Int×Int×Int×Int×Int×Int×Int×Int×Int×Bool×Int×aN×bJ×aN×Unit)×Unit)×aN×bJ×aN×Unit
abbrev Ni:Type:=(Unit×Unit×Unit×Int×Unit)×((Int×Int×Int×Int×Int×Int×Int×Int×Int×Int×Int×Bool×Int×aN×bJ×aN×Unit)×qo×(Int×Int×Int×Int×Int×Int×Int×Int×Int×Int×Int×Bool×Int×aN×bJ×aN×Unit)×Unit)×aN×bJ×aN×Unit
abbrev Na:Type:=Unit×Unit×Unit
noncomputable def xK (v1:Int)(v2:aac)(v3 v4 v5 v6 v7 v8 v9 v10 v11 v12 v13 v14 v15:Int)(v16:Bool)(v17:Int)(v18:aN)(v19:bJ)(v20:aN)(v21 v22 v23 v24 v25 v26 v27 v28 v29 v30 v31:Int)(v32:Bool)(v33 v34 v35 v36 v37 v38 v39 v40 v41 v42 v43 v44:Int)(v45:Bool)(v46:Int)(v47:aN)(v48:bJ)(v49 v50:aN)(v51:bJ)(v52:aN):Option (R3 EH Ni Na):=
 cond (decide (v4<v3)) (
  cond ((decide (0≤v4))&&(decide (v4<(v2.length:Int)))) (
   ((Bk v34 v35 v36 v37 v38 v39 v40 v41 v42 v43 v44 v45 v46 v47 v48 v49 (rd (.pair az (.pair az (.pair az (.pair az (.pair az (.pair az (.pair az (.pair az .bool)))))))) v2 (Int.toNat v4)).1 (rd (.pair az (.pair az (.pair az (.pair az (.pair az (.pair az (.pair az (.pair az .bool)))))))) v2 (Int.toNat v4)).2.1 (rd (.pair az (.pair az (.pair az (.pair az (.pair az (.pair az (.pair az (.pair az .bool)))))))) v2 (Int.toNat v4)).2.2.1 (rd (.pair az (.pair az (.pair az (.pair az (.pair az (.pair az (.pair az (.pair az .bool)))))))) v2 (Int.toNat v4)).2.2.2.1 (rd (.pair az (.pair az (.pair az (.pair az (.pair az (.pair az (.pair az (.pair az .bool)))))))) v2 (Int.toNat v4)).2.2.2.2.1 (rd (.pair az (.pair az (.pair az (.pair az (.pair az (.pair az (.pair az (.pair az .bool)))))))) v2 (Int.toNat v4)).2.2.2.2.2.1 (rd (.pair az (.pair az (.pair az (.pair az (.pair az (.pair az (.pair az (.pair az .bool)))))))) v2 (Int.toNat v4)).2.2.2.2.2.2.1 (rd (.pair az (.pair az (.pair az (.pair az (.pair az (.pair az (.pair az (.pair az .bool)))))))) v2 (Int.toNat v4)).2.2.2.2.2.2.2.1 (rd (.pair az (.pair az (.pair az (.pair az (.pair az (.pair az (.pair az (.pair az .bool)))))))) v2 (Int.toNat v4)).2.2.2.2.2.2.2.2)).bind fun y53=>
   cond (!(decide (y53.2.1=0))) (
    some (R3.out (((),(),(),y53.2.1,()),((v5,v6,v7,v8,v9,v10,v11,v12,v13,v14,v15,v16,v17,v18,v19,v20,()),(v21,v22,v23,v24,v25,v26,v27,v28,v29,v30,v31,v32,v33,(),(),(),()),(y53.1.1.1.1,y53.1.1.1.2,y53.1.1.2.1.1,y53.1.1.2.1.2,y53.1.1.2.2.1,y53.1.1.2.2.2.1,y53.1.1.2.2.2.2.1,y53.1.1.2.2.2.2.2,y53.1.2.1.1,y53.1.2.1.2.1,y53.1.2.1.2.2.1,y53.1.2.1.2.2.2,y53.1.2.2.1,y53.1.2.2.2.1,y53.1.2.2.2.2.1,y53.1.2.2.2.2.2,()),()),v50,v51,v52,()))) (
    some (R3.next (((),(),(),y53.2.1,v2,v3,(IntKind.wrap .i64 (v4+1)),()),((v5,v6,v7,v8,v9,v10,v11,v12,v13,v14,v15,v16,v17,v18,v19,v20,()),(v21,v22,v23,v24,v25,v26,v27,v28,v29,v30,v31,v32,v33,(),(),(),()),(y53.1.1.1.1,y53.1.1.1.2,y53.1.1.2.1.1,y53.1.1.2.1.2,y53.1.1.2.2.1,y53.1.1.2.2.2.1,y53.1.1.2.2.2.2.1,y53.1.1.2.2.2.2.2,y53.1.2.1.1,y53.1.2.1.2.1,y53.1.2.1.2.2.1,y53.1.2.1.2.2.2,y53.1.2.2.1,y53.1.2.2.2.1,y53.1.2.2.2.2.1,y53.1.2.2.2.2.2,()),()),v50,v51,v52,())))) (
   none)) (
  some (R3.out (((),(),(),v1,()),((v5,v6,v7,v8,v9,v10,v11,v12,v13,v14,v15,v16,v17,v18,v19,v20,()),(v21,v22,v23,v24,v25,v26,v27,v28,v29,v30,v31,v32,v33,(),(),(),()),(v34,v35,v36,v37,v38,v39,v40,v41,v42,v43,v44,v45,v46,v47,v48,v49,()),()),v50,v51,v52,())))
noncomputable def jB (z:EH):Option (R3 EH Ni Na):=xK z.1.2.2.2.1 z.1.2.2.2.2.1 z.1.2.2.2.2.2.1 z.1.2.2.2.2.2.2.1 z.2.1.1.1 z.2.1.1.2.1 z.2.1.1.2.2.1 z.2.1.1.2.2.2.1 z.2.1.1.2.2.2.2.1 z.2.1.1.2.2.2.2.2.1 z.2.1.1.2.2.2.2.2.2.1 z.2.1.1.2.2.2.2.2.2.2.1 z.2.1.1.2.2.2.2.2.2.2.2.1 z.2.1.1.2.2.2.2.2.2.2.2.2.1 z.2.1.1.2.2.2.2.2.2.2.2.2.2.1 z.2.1.1.2.2.2.2.2.2.2.2.2.2.2.1 z.2.1.1.2.2.2.2.2.2.2.2.2.2.2.2.1 z.2.1.1.2.2.2.2.2.2.2.2.2.2.2.2.2.1 z.2.1.1.2.2.2.2.2.2.2.2.2.2.2.2.2.2.1 z.2.1.1.2.2.2.2.2.2.2.2.2.2.2.2.2.2.2.1 z.2.1.2.1.1 z.2.1.2.1.2.1 z.2.1.2.1.2.2.1 z.2.1.2.1.2.2.2.1 z.2.1.2.1.2.2.2.2.1 z.2.1.2.1.2.2.2.2.2.1 z.2.1.2.1.2.2.2.2.2.2.1 z.2.1.2.1.2.2.2.2.2.2.2.1 z.2.1.2.1.2.2.2.2.2.2.2.2.1 z.2.1.2.1.2.2.2.2.2.2.2.2.2.1 z.2.1.2.1.2.2.2.2.2.2.2.2.2.2.1 z.2.1.2.1.2.2.2.2.2.2.2.2.2.2.2.1 z.2.1.2.1.2.2.2.2.2.2.2.2.2.2.2.2.1 z.2.1.2.2.1.1 z.2.1.2.2.1.2.1 z.2.1.2.2.1.2.2.1 z.2.1.2.2.1.2.2.2.1 z.2.1.2.2.1.2.2.2.2.1 z.2.1.2.2.1.2.2.2.2.2.1 z.2.1.2.2.1.2.2.2.2.2.2.1 z.2.1.2.2.1.2.2.2.2.2.2.2.1 z.2.1.2.2.1.2.2.2.2.2.2.2.2.1 z.2.1.2.2.1.2.2.2.2.2.2.2.2.2.1 z.2.1.2.2.1.2.2.2.2.2.2.2.2.2.2.1 z.2.1.2.2.1.2.2.2.2.2.2.2.2.2.2.2.1 z.2.1.2.2.1.2.2.2.2.2.2.2.2.2.2.2.2.1 z.2.1.2.2.1.2.2.2.2.2.2.2.2.2.2.2.2.2.1 z.2.1.2.2.1.2.2.2.2.2.2.2.2.2.2.2.2.2.2.1 z.2.1.2.2.1.2.2.2.2.2.2.2.2.2.2.2.2.2.2.2.1 z.2.2.1 z.2.2.2.1 z.2.2.2.2.1
noncomputable def Of (v1 v2 v3 v4 v5 v6 v7 v8 v9 v10 v11:Int)(v12:Bool)(v13:Int)(v14:aN)(v15:bJ)(v16:aN)(v17:aac):Option ((Tk×Gy×Int×aN×bJ×aN)×Int×Unit):=
 ((dw v1 v2 v3 v4 v5 v6 v7 v8 v9 v10 v11 v12 v13 v14 v15 v16)).bind fun y18=>
 ((iter aC jB (((),(),(),0,v17,(v17.length:Int),0,()),((v1,v2,v3,v4,v5,v6,v7,v8,v9,v10,v11,v12,v13,v14,v15,v16,()),(0,0,0,0,0,0,0,0,0,0,0,false,0,(),(),(),()),(y18.1.1.1.1,y18.1.1.1.2,y18.1.1.2.1.1,y18.1.1.2.1.2,y18.1.1.2.2.1,y18.1.1.2.2.2.1,y18.1.1.2.2.2.2.1,y18.1.1.2.2.2.2.2,y18.1.2.1.1,y18.1.2.1.2.1,y18.1.2.1.2.2.1,y18.1.2.1.2.2.2,y18.1.2.2.1,y18.1.2.2.2.1,y18.1.2.2.2.2.1,y18.1.2.2.2.2.2,()),()),[],[],[],()))).bind fun r=>match r with
 | .inl y19=>
   cond (!(decide (y19.1.2.2.2.1=0))) (
    ((dw y19.2.1.1.1 y19.2.1.1.2.1 y19.2.1.1.2.2.1 y19.2.1.1.2.2.2.1 y19.2.1.1.2.2.2.2.1 y19.2.1.1.2.2.2.2.2.1 y19.2.1.1.2.2.2.2.2.2.1 y19.2.1.1.2.2.2.2.2.2.2.1 y19.2.1.1.2.2.2.2.2.2.2.2.1 y19.2.1.1.2.2.2.2.2.2.2.2.2.1 y19.2.1.1.2.2.2.2.2.2.2.2.2.2.1 y19.2.1.1.2.2.2.2.2.2.2.2.2.2.2.1 y19.2.1.1.2.2.2.2.2.2.2.2.2.2.2.2.1 y19.2.1.1.2.2.2.2.2.2.2.2.2.2.2.2.2.1 y19.2.1.1.2.2.2.2.2.2.2.2.2.2.2.2.2.2.1 y19.2.1.1.2.2.2.2.2.2.2.2.2.2.2.2.2.2.2.1)).bind fun y21=>
    some ((((y21.1.1.1.1,y21.1.1.1.2),(y21.1.1.2.1.1,y21.1.1.2.1.2),y21.1.1.2.2.1,y21.1.1.2.2.2.1,y21.1.1.2.2.2.2.1,y21.1.1.2.2.2.2.2),(y21.1.2.1.1,y21.1.2.1.2.1,y21.1.2.1.2.2.1,y21.1.2.1.2.2.2),y21.1.2.2.1,y21.1.2.2.2.1,y21.1.2.2.2.2.1,y21.1.2.2.2.2.2),y19.1.2.2.2.1,())) (
    some ((((y19.2.1.2.2.1.1,y19.2.1.2.2.1.2.1),(y19.2.1.2.2.1.2.2.1,y19.2.1.2.2.1.2.2.2.1),y19.2.1.2.2.1.2.2.2.2.1,y19.2.1.2.2.1.2.2.2.2.2.1,y19.2.1.2.2.1.2.2.2.2.2.2.1,y19.2.1.2.2.1.2.2.2.2.2.2.2.1),(y19.2.1.2.2.1.2.2.2.2.2.2.2.2.1,y19.2.1.2.2.1.2.2.2.2.2.2.2.2.2.1,y19.2.1.2.2.1.2.2.2.2.2.2.2.2.2.2.1,y19.2.1.2.2.1.2.2.2.2.2.2.2.2.2.2.2.1),y19.2.1.2.2.1.2.2.2.2.2.2.2.2.2.2.2.2.1,y19.2.1.2.2.1.2.2.2.2.2.2.2.2.2.2.2.2.2.1,y19.2.1.2.2.1.2.2.2.2.2.2.2.2.2.2.2.2.2.2.1,y19.2.1.2.2.1.2.2.2.2.2.2.2.2.2.2.2.2.2.2.2.1),0,()))
 | .inr z20=>
   none
end Go.Proofs.Zz
