/- M11, Pure13_7, Eq13_7, P13_7, Row13, Law13_7. -/
import Derived.Test.YtpopildnbgbhlaaGreatDoorFI
import Derived.Test.YtpopildnbgbhlaaGreatDoorPU
import Derived.Test.YtpopildnbgbhlaaGreatDoorEQ
import Derived.Test.YtpopildnbgbhlaaGreatDoorFD
import Derived.Test.YtpopildnbgbhlaaGreatDoorPC
import Derived.Test.YtpopildnbgbhlaaGreatDoorFG
import Derived.Test.YtpopildnbgbhlaaGreatDoorTie
import Derived.Test.YtpopildnbgbhlaaGreatDoorCards
import Derived.Lay
import Derived.SevenTiedAt
import Derived.Shelf.Vars
import Derived.Lib.LaidTab
namespace Go.Proofs.Zz
open Go Go.Sy
set_option linter.unusedSimpArgs false
set_option linter.unusedVariables false
def kT (idle:Int)(x:LT):Int×Int:=((tmr idle x).2,(tmr idle x).1)
theorem tmLt_k (i:Int)(x y:LT):tmLt (tmr i x) (tmr i y)=decide (ltP (kT i x) (kT i y)):=rfl
theorem tmr_inj {s:ST}(M:MayS s){x y:LT}(hx:x∈s.2.2.2.2.1)(hy:y∈s.2.2.2.2.1){i j:Int}(h:(tmr i x).1=(tmr j y).1):kL x=kL y:=by
 have bx:=(M.leases.each x hx).blk
 have bY:=(M.leases.each y hy).blk
 have h8:=M.fit.blk
 have h:x.2.1 * 8+x.2.2.1=y.2.1 * 8+y.2.2.1:=h
 obtain⟨_,_,b1,b2⟩:=bx
 obtain⟨_,_,c1,c2⟩:=bY
 show (_,_)=(_,_)
 rw[show x.2.1=y.2.1 by omega,show x.2.2.1=y.2.2.1 by omega]
theorem due_srt {s:ST}(M:MayS s)(n:Int):SrtK (kT s.2.1.2.1) (dueL s n):=by
 have h1:(dueL s n).Pairwise fun x y=>(!tmLt (tmr s.2.1.2.1 y) (tmr s.2.1.2.1 x))=true:=by
  unfold dueL
  refine List.pairwise_mergeSort (fun a b c h1 h2=>?_) (fun a b=>?_) _
  ·rw[tmLt_k,Bool.not_eq_true',decide_eq_false_iff_not] at h1 h2 ⊢
   unfold ltP ltB at *
   omega
  ·rw[tmLt_k,tmLt_k,Bool.or_eq_true,Bool.not_eq_true',Bool.not_eq_true',decide_eq_false_iff_not,decide_eq_false_iff_not]
   unfold ltP ltB
   omega
 refine (h1.and (due_keys M n)).imp_of_mem fun {x y} hx hy h=>?_
 have h2:=h.1
 rw[tmLt_k,Bool.not_eq_true',decide_eq_false_iff_not] at h2
 rcases ltP_tri (kT s.2.1.2.1 x) (kT s.2.1.2.1 y) with h3|h3|h3
 ·exact h3
 ·exact absurd (tmr_inj (i:=s.2.1.2.1) (j:=s.2.1.2.1) M (mem_due.1 hx).1 (mem_due.1 hy).1 (congrArg Prod.snd h3)) h.2
 ·exact absurd h3 h2
section
variable {s:ST}(M:MayS s){a b:Int}(ha:s.2.2.1≤a)(hab:a≤b)(hb:b≤1073741824)
include M ha hab hb
theorem twice_due:dueL s b=dueL s a++dueL (setNow (freeAll s (dueL s a)) a) b:=by
 have M2:=tick_may M ha (by omega)
 have F:=freed_due M a
 have eL:=tick_leases M a
 have hm2:∀ x,x∈dueL (setNow (freeAll s (dueL s a)) a) b↔(x∈s.2.2.2.2.1∧¬ x.2.2.2.2+s.2.1.2.1≤a)∧x.2.2.2.2+s.2.1.2.1≤b:=by
  intro x
  rw[mem_due]
  show x∈(freeAll s (dueL s a)).2.2.2.2.1∧x.2.2.2.2+(freeAll s (dueL s a)).2.1.2.1≤b↔_
  rw[eL,F.pol,List.mem_filter]
  simp
 have s2:=due_srt M2 b
 have e2:(setNow (freeAll s (dueL s a)) a).2.1=s.2.1:=F.pol
 rw[e2] at s2
 refine srtK_ext (k:=kT s.2.1.2.1) (due_srt M b) (List.pairwise_append.2 ⟨due_srt M a,s2,fun x hx y hy=>?_⟩) fun x=>?_
 ·have h1:=(mem_due.1 hx).2
  have h2:=(hm2 y).1 hy
  exact .inl (by show x.2.2.2.2+s.2.1.2.1<y.2.2.2.2+s.2.1.2.1;omega)
 ·rw[List.mem_append,mem_due,mem_due,hm2]
  constructor
  ·intro h
   by_cases hc:x.2.2.2.2+s.2.1.2.1≤a
   ·exact .inl ⟨h.1,hc⟩
   ·exact .inr ⟨⟨h.1,hc⟩,h.2⟩
  ·rintro (h|h)
   ·exact⟨h.1,by omega⟩
   ·exact⟨h.1.1,h.2⟩
theorem twice_st:setNow (freeAll (setNow (freeAll s (dueL s a)) a) (dueL (setNow (freeAll s (dueL s a)) a) b)) b=setNow (freeAll s (dueL s b)) b:=by
 have M1:=tick_may M ha (by omega)
 have M2:=tick_may M1 (n:=b) hab hb
 have M3:=tick_may M (n:=b) (by omega) hb
 have F1:=freed_due M a
 have F2:=freed_due M1 b
 have F3:=freed_due M b
 have l1:=tick_leases M a
 have l2:=tick_leases M1 b
 have l3:=tick_leases M b
 have ed:=twice_due M ha hab hb
 generalize hu:dueL (setNow (freeAll s (dueL s a)) a) b=d at *
 generalize ht:freeAll s (dueL s a)=t at *
 generalize hv:freeAll (setNow t a) d=v at *
 generalize hw:freeAll s (dueL s b)=w at *
 have e1:v.1=w.1:=by rw[F2.d,F3.d];exact F1.d
 have e2:v.2.1=w.2.1:=by rw[F2.pol,F3.pol];exact F1.pol
 have e3:v.2.2.2.1=w.2.2.2.1:=by rw[F2.pools,F3.pools];exact F1.pools
 have e4:v.2.2.2.2.1=w.2.2.2.2.1:=by
  rw[l2,l3]
  show t.2.2.2.2.1.filter (fun y=>!decide (y.2.2.2.2+t.2.1.2.1≤b))=_
  rw[l1,F1.pol,List.filter_filter]
  refine List.filter_congr fun y _=>?_
  rw[Bool.eq_iff_iff,Bool.and_eq_true,Bool.not_eq_true',Bool.not_eq_true',decide_eq_false_iff_not,decide_eq_false_iff_not]
  constructor
  ·exact fun h=>h.1
  ·exact fun h=>⟨h,by omega⟩
 have e5:cleanH v.2.2.2.2.2 b=cleanH w.2.2.2.2.2 b:=by
  refine srtK_ext (k:=kH) M2.helds.srt M3.helds.srt fun x=>?_
  unfold cleanH
  rw[List.mem_filter,List.mem_filter,F2.helds,F3.helds,ed]
  show ((x∈cleanH t.2.2.2.2.2 a∨(0<t.2.1.2.2.1∧∃ y∈d,x=(y.2.1,(y.2.2.1,y.2.2.2.2+t.2.1.2.1+t.2.1.2.2.1))))∧_)↔_
  unfold cleanH
  rw[List.mem_filter,F1.helds,F1.pol,Bool.not_eq_true',Bool.not_eq_true',decide_eq_false_iff_not,decide_eq_false_iff_not]
  constructor
  ·rintro ⟨⟨h|⟨h0,y,hy,h⟩,_⟩|⟨h0,y,hy,h⟩,h2⟩
   ·exact⟨.inl h,h2⟩
   ·exact⟨.inr ⟨h0,y,List.mem_append_left _ hy,h⟩,h2⟩
   ·exact⟨.inr ⟨h0,y,List.mem_append_right _ hy,h⟩,h2⟩
  ·rintro ⟨h|⟨h0,y,hy,h⟩,h2⟩
   ·exact⟨.inl ⟨.inl h,by omega⟩,h2⟩
   ·rcases List.mem_append.1 hy with hy|hy
    ·exact⟨.inl ⟨.inr ⟨h0,y,hy,h⟩,by omega⟩,h2⟩
    ·exact⟨.inr ⟨h0,y,hy,h⟩,h2⟩
 show (v.1,(v.2.1,(b,(v.2.2.2.1,(v.2.2.2.2.1,cleanH v.2.2.2.2.2 b)))))=(w.1,(w.2.1,(b,(w.2.2.2.1,(w.2.2.2.2.1,cleanH w.2.2.2.2.2 b)))))
 rw[e1,e2,e3,e4,e5]
theorem tick_twice:(tickS (tickS s a).1 b).1=(tickS s b).1∧(tickS s b).2.1=(tickS s a).2.1++(tickS (tickS s a).1 b).2.1∧(tickS s a).2.2.1=0∧(tickS (tickS s a).1 b).2.2.1=0∧(tickS s b).2.2.1=0 ∧
  (tickS s b).2.2.2.1=(tickS s a).2.2.2.1+(tickS (tickS s a).1 b).2.2.2.1∧MayS (tickS s a).1∧MayS (tickS s b).1∧(tickS s b).2.2.2.1=(((tickS s b).2.1.length:Nat):Int):=by
 have h1:tickS s a=(setNow (freeAll s (dueL s a)) a,((dueL s a).map fun x=>freeE x (x.2.2.2.2+s.2.1.2.1),(0,(((dueL s a).length:Int),0)))):=if_neg (by omega)
 have h2:tickS s b=(setNow (freeAll s (dueL s b)) b,((dueL s b).map fun x=>freeE x (x.2.2.2.2+s.2.1.2.1),(0,(((dueL s b).length:Int),0)))):=if_neg (by omega)
 have F:=(freed_due M a).pol
 have hs:=twice_st M ha hab hb
 have hd:=twice_due M ha hab hb
 have M1:=tick_may M ha (by omega)
 have M2:=tick_may M (n:=b) (by omega) hb
 rw[h1,h2]
 show (tickS (setNow (freeAll s (dueL s a)) a) b).1=_∧_
 generalize hu:freeAll s (dueL s a)=t at *
 have h3:tickS (setNow t a) b=(setNow (freeAll (setNow t a) (dueL (setNow t a) b)) b,((dueL (setNow t a) b).map fun x=>freeE x (x.2.2.2.2+t.2.1.2.1),(0,(((dueL (setNow t a) b).length:Int),0)))):=
  if_neg (by show ¬ (b<a∨_);omega)
 rw[h3]
 refine⟨hs,?_,rfl,rfl,rfl,?_,M1,M2,?_⟩
 ·show (dueL s b).map _=(dueL s a).map _++(dueL (setNow t a) b).map _
  rw[F,hd,List.map_append]
 ·show ((dueL s b).length:Int)=((dueL s a).length:Int)+((dueL (setNow t a) b).length:Int)
  rw[hd,List.length_append];omega
 ·show ((dueL s b).length:Int)=(((dueL s b).map _).length:Int)
  rw[List.length_map]
end
set_option maxRecDepth 100000
abbrev X7_12:Type:=(Unit×(List (Int×Int×Int×Int×Int×Int×Int×Int×Bool))×Unit×Unit×Unit×Unit×Int×Unit)×((Int×Int×Int×Int×Int×Int×Int×Int×Int×Int×Int×Bool×Int×(List (Int×Int×Int))×(List (Int×Int×Int×Int×Int))×(List (Int×Int×Int))×Unit)×(Int×Int×Int×Unit)×(Int×Int×Int×Int×Int×Int×Int×Int×Int×Int×Int×Bool×Int×(List (Int×Int×Int))×(List (Int×Int×Int×Int×Int))×(List (Int×Int×Int))×Unit)×(Int×Int×Int×Unit)×(Int×Int×Int×Unit)×Unit)×(List (Int×Int×Int×Int×Int×Int×Int×Int×Bool))×Unit
abbrev Y7_12:Type:=(Unit×(List (Int×Int×Int×Int×Int×Int×Int×Int×Bool))×Unit×Unit×Unit×Unit×Unit)×((Int×Int×Int×Int×Int×Int×Int×Int×Int×Int×Int×Bool×Int×(List (Int×Int×Int))×(List (Int×Int×Int×Int×Int))×(List (Int×Int×Int))×Unit)×(Int×Int×Int×Unit)×(Int×Int×Int×Int×Int×Int×Int×Int×Int×Int×Int×Bool×Int×(List (Int×Int×Int))×(List (Int×Int×Int×Int×Int))×(List (Int×Int×Int))×Unit)×(Int×Int×Int×Unit)×(Int×Int×Int×Unit)×Unit)×(List (Int×Int×Int×Int×Int×Int×Int×Int×Bool))×Unit
abbrev Z7_12:Type:=(Bool×Unit)×(Unit)×(Unit)
noncomputable def t7_12 (v1:(List (Int×Int×Int×Int×Int×Int×Int×Int×Bool)))(v2 v3 v4 v5 v6 v7 v8 v9 v10 v11 v12 v13:Int)(v14:Bool)(v15:Int)(v16:(List (Int×Int×Int)))(v17:(List (Int×Int×Int×Int×Int)))(v18:(List (Int×Int×Int)))(v19 v20 v21 v22 v23 v24 v25 v26 v27 v28 v29 v30 v31 v32:Int)(v33:Bool)(v34:Int)(v35:(List (Int×Int×Int)))(v36:(List (Int×Int×Int×Int×Int)))(v37:(List (Int×Int×Int)))(v38 v39 v40 v41 v42 v43:Int)(v44:(List (Int×Int×Int×Int×Int×Int×Int×Int×Bool))):Option (R3 X7_12 Y7_12 Z7_12):=
 cond (decide (v2<(v1.length:Int))) (
  cond (decide ((v1.length:Int)=(v44.length:Int))) (
   cond ((decide (0≤v2))&&(decide (v2<(v1.length:Int)))) (
    cond ((decide (0≤v2))&&(decide (v2<(v44.length:Int)))) (
     cond (decide ((Int.toNat v2)<v44.length)) (
      cond (!((decide ((rd (.pair (.int .i64) (.pair (.int .i64) (.pair (.int .i64) (.pair (.int .i64) (.pair (.int .i64) (.pair (.int .i64) (.pair (.int .i64) (.pair (.int .i64) .bool)))))))) v1 (Int.toNat v2)).1=(rd (.pair (.int .i64) (.pair (.int .i64) (.pair (.int .i64) (.pair (.int .i64) (.pair (.int .i64) (.pair (.int .i64) (.pair (.int .i64) (.pair (.int .i64) .bool)))))))) v44 (Int.toNat v2)).1))&&((decide ((rd (.pair (.int .i64) (.pair (.int .i64) (.pair (.int .i64) (.pair (.int .i64) (.pair (.int .i64) (.pair (.int .i64) (.pair (.int .i64) (.pair (.int .i64) .bool)))))))) v1 (Int.toNat v2)).2.1=(rd (.pair (.int .i64) (.pair (.int .i64) (.pair (.int .i64) (.pair (.int .i64) (.pair (.int .i64) (.pair (.int .i64) (.pair (.int .i64) (.pair (.int .i64) .bool)))))))) v44 (Int.toNat v2)).2.1))&&((decide ((rd (.pair (.int .i64) (.pair (.int .i64) (.pair (.int .i64) (.pair (.int .i64) (.pair (.int .i64) (.pair (.int .i64) (.pair (.int .i64) (.pair (.int .i64) .bool)))))))) v1 (Int.toNat v2)).2.2.1=(rd (.pair (.int .i64) (.pair (.int .i64) (.pair (.int .i64) (.pair (.int .i64) (.pair (.int .i64) (.pair (.int .i64) (.pair (.int .i64) (.pair (.int .i64) .bool)))))))) v44 (Int.toNat v2)).2.2.1))&&((decide ((rd (.pair (.int .i64) (.pair (.int .i64) (.pair (.int .i64) (.pair (.int .i64) (.pair (.int .i64) (.pair (.int .i64) (.pair (.int .i64) (.pair (.int .i64) .bool)))))))) v1 (Int.toNat v2)).2.2.2.1=(rd (.pair (.int .i64) (.pair (.int .i64) (.pair (.int .i64) (.pair (.int .i64) (.pair (.int .i64) (.pair (.int .i64) (.pair (.int .i64) (.pair (.int .i64) .bool)))))))) v44 (Int.toNat v2)).2.2.2.1))&&((decide ((rd (.pair (.int .i64) (.pair (.int .i64) (.pair (.int .i64) (.pair (.int .i64) (.pair (.int .i64) (.pair (.int .i64) (.pair (.int .i64) (.pair (.int .i64) .bool)))))))) v1 (Int.toNat v2)).2.2.2.2.1=(rd (.pair (.int .i64) (.pair (.int .i64) (.pair (.int .i64) (.pair (.int .i64) (.pair (.int .i64) (.pair (.int .i64) (.pair (.int .i64) (.pair (.int .i64) .bool)))))))) v44 (Int.toNat v2)).2.2.2.2.1))&&(((decide ((rd (.pair (.int .i64) (.pair (.int .i64) (.pair (.int .i64) (.pair (.int .i64) (.pair (.int .i64) (.pair (.int .i64) (.pair (.int .i64) (.pair (.int .i64) .bool)))))))) v1 (Int.toNat v2)).2.2.2.2.2.1=(rd (.pair (.int .i64) (.pair (.int .i64) (.pair (.int .i64) (.pair (.int .i64) (.pair (.int .i64) (.pair (.int .i64) (.pair (.int .i64) (.pair (.int .i64) .bool)))))))) v44 (Int.toNat v2)).2.2.2.2.2.1))&&((decide ((rd (.pair (.int .i64) (.pair (.int .i64) (.pair (.int .i64) (.pair (.int .i64) (.pair (.int .i64) (.pair (.int .i64) (.pair (.int .i64) (.pair (.int .i64) .bool)))))))) v1 (Int.toNat v2)).2.2.2.2.2.2.1=(rd (.pair (.int .i64) (.pair (.int .i64) (.pair (.int .i64) (.pair (.int .i64) (.pair (.int .i64) (.pair (.int .i64) (.pair (.int .i64) (.pair (.int .i64) .bool)))))))) v44 (Int.toNat v2)).2.2.2.2.2.2.1))&&((decide ((rd (.pair (.int .i64) (.pair (.int .i64) (.pair (.int .i64) (.pair (.int .i64) (.pair (.int .i64) (.pair (.int .i64) (.pair (.int .i64) (.pair (.int .i64) .bool)))))))) v1 (Int.toNat v2)).2.2.2.2.2.2.2.1=(rd (.pair (.int .i64) (.pair (.int .i64) (.pair (.int .i64) (.pair (.int .i64) (.pair (.int .i64) (.pair (.int .i64) (.pair (.int .i64) (.pair (.int .i64) .bool)))))))) v44 (Int.toNat v2)).2.2.2.2.2.2.2.1))&&(((rd (.pair (.int .i64) (.pair (.int .i64) (.pair (.int .i64) (.pair (.int .i64) (.pair (.int .i64) (.pair (.int .i64) (.pair (.int .i64) (.pair (.int .i64) .bool)))))))) v1 (Int.toNat v2)).2.2.2.2.2.2.2.2 == (rd (.pair (.int .i64) (.pair (.int .i64) (.pair (.int .i64) (.pair (.int .i64) (.pair (.int .i64) (.pair (.int .i64) (.pair (.int .i64) (.pair (.int .i64) .bool)))))))) v44 (Int.toNat v2)).2.2.2.2.2.2.2.2)&&true))))&&true))))))) (
       some (R3.ret ((false,()),(),()))) (
       some (R3.next (((),v1,(),(),(),(),(IntKind.wrap .i64 (v2+1)),()),((v3,v4,v5,v6,v7,v8,v9,v10,v11,v12,v13,v14,v15,v16,v17,v18,()),(v19,v20,v21,()),(v22,v23,v24,v25,v26,v27,v28,v29,v30,v31,v32,v33,v34,v35,v36,v37,()),(v38,v39,v40,()),(v41,v42,v43,()),()),v44,())))) (
      none)) (
     none)) (
    none)) (
   some (R3.out (((),v1,(),(),(),(),()),((v3,v4,v5,v6,v7,v8,v9,v10,v11,v12,v13,v14,v15,v16,v17,v18,()),(v19,v20,v21,()),(v22,v23,v24,v25,v26,v27,v28,v29,v30,v31,v32,v33,v34,v35,v36,v37,()),(v38,v39,v40,()),(v41,v42,v43,()),()),v44,())))) (
  some (R3.out (((),v1,(),(),(),(),()),((v3,v4,v5,v6,v7,v8,v9,v10,v11,v12,v13,v14,v15,v16,v17,v18,()),(v19,v20,v21,()),(v22,v23,v24,v25,v26,v27,v28,v29,v30,v31,v32,v33,v34,v35,v36,v37,()),(v38,v39,v40,()),(v41,v42,v43,()),()),v44,())))
noncomputable def u7_12 (z:X7_12):Option (R3 X7_12 Y7_12 Z7_12):=t7_12 z.1.2.1 z.1.2.2.2.2.2.2.1 z.2.1.1.1 z.2.1.1.2.1 z.2.1.1.2.2.1 z.2.1.1.2.2.2.1 z.2.1.1.2.2.2.2.1 z.2.1.1.2.2.2.2.2.1 z.2.1.1.2.2.2.2.2.2.1 z.2.1.1.2.2.2.2.2.2.2.1 z.2.1.1.2.2.2.2.2.2.2.2.1 z.2.1.1.2.2.2.2.2.2.2.2.2.1 z.2.1.1.2.2.2.2.2.2.2.2.2.2.1 z.2.1.1.2.2.2.2.2.2.2.2.2.2.2.1 z.2.1.1.2.2.2.2.2.2.2.2.2.2.2.2.1 z.2.1.1.2.2.2.2.2.2.2.2.2.2.2.2.2.1 z.2.1.1.2.2.2.2.2.2.2.2.2.2.2.2.2.2.1 z.2.1.1.2.2.2.2.2.2.2.2.2.2.2.2.2.2.2.1 z.2.1.2.1.1 z.2.1.2.1.2.1 z.2.1.2.1.2.2.1 z.2.1.2.2.1.1 z.2.1.2.2.1.2.1 z.2.1.2.2.1.2.2.1 z.2.1.2.2.1.2.2.2.1 z.2.1.2.2.1.2.2.2.2.1 z.2.1.2.2.1.2.2.2.2.2.1 z.2.1.2.2.1.2.2.2.2.2.2.1 z.2.1.2.2.1.2.2.2.2.2.2.2.1 z.2.1.2.2.1.2.2.2.2.2.2.2.2.1 z.2.1.2.2.1.2.2.2.2.2.2.2.2.2.1 z.2.1.2.2.1.2.2.2.2.2.2.2.2.2.2.1 z.2.1.2.2.1.2.2.2.2.2.2.2.2.2.2.2.1 z.2.1.2.2.1.2.2.2.2.2.2.2.2.2.2.2.2.1 z.2.1.2.2.1.2.2.2.2.2.2.2.2.2.2.2.2.2.1 z.2.1.2.2.1.2.2.2.2.2.2.2.2.2.2.2.2.2.2.1 z.2.1.2.2.1.2.2.2.2.2.2.2.2.2.2.2.2.2.2.2.1 z.2.1.2.2.2.1.1 z.2.1.2.2.2.1.2.1 z.2.1.2.2.2.1.2.2.1 z.2.1.2.2.2.2.1.1 z.2.1.2.2.2.2.1.2.1 z.2.1.2.2.2.2.1.2.2.1 z.2.2.1
noncomputable def f7 (v1 v2 v3 v4 v5 v6 v7 v8 v9 v10 v11:Int)(v12:Bool)(v13:Int)(v14:(List (Int×Int×Int)))(v15:(List (Int×Int×Int×Int×Int)))(v16:(List (Int×Int×Int)))(v17 v18:Int):Option (Bool×Unit):=
 (f11).bind fun y19=>
 ((f12 v1 v2 v3 v4 v5 v6 v7 v8 v9 v10 v11 v12 v13 v14 v15 v16)).bind fun y20=>
 cond (!y19.1) (
  some (y19.1,())) (
  cond (!y20.1) (
   some (y19.1,())) (
   cond (decide (v18<v17)) (
    some (y19.1,())) (
    ((f13 v1 v2 v3 v4 v5 v6 v7 v8 v9 v10 v11 v12 v13 v14 v15 v16 3 0 0 0 v18 0 0 0 false)).bind fun y21=>
    ((f13 v1 v2 v3 v4 v5 v6 v7 v8 v9 v10 v11 v12 v13 v14 v15 v16 3 0 0 0 v17 0 0 0 false)).bind fun y22=>
    ((f13 y22.1.1.1.1 y22.1.1.1.2 y22.1.1.2.1.1 y22.1.1.2.1.2 y22.1.1.2.2.1 y22.1.1.2.2.2.1 y22.1.1.2.2.2.2.1 y22.1.1.2.2.2.2.2 y22.1.2.1.1 y22.1.2.1.2.1 y22.1.2.1.2.2.1 y22.1.2.1.2.2.2 y22.1.2.2.1 y22.1.2.2.2.1 y22.1.2.2.2.2.1 y22.1.2.2.2.2.2 3 0 0 0 v18 0 0 0 false)).bind fun y23=>
    cond (!(decide (y21.2.2.1.1=0))) (
     some (true,())) (
     cond (!(decide (y22.2.2.1.1=0))) (
      some (true,())) (
      cond ((decide ((y22.2.1.length * 72)≤140737488355328))&&(decide (y22.2.1.length≤9223372036854775807))) (
       cond ((decide (((y22.2.1.length+y23.2.1.length) * 72)≤140737488355328))&&(decide ((y22.2.1.length+y23.2.1.length)≤9223372036854775807))) (
        ((iter big u7_12 (((),y21.2.1,(),(),(),(),0,()),((y21.1.1.1.1,y21.1.1.1.2,y21.1.1.2.1.1,y21.1.1.2.1.2,y21.1.1.2.2.1,y21.1.1.2.2.2.1,y21.1.1.2.2.2.2.1,y21.1.1.2.2.2.2.2,y21.1.2.1.1,y21.1.2.1.2.1,y21.1.2.1.2.2.1,y21.1.2.1.2.2.2,y21.1.2.2.1,y21.1.2.2.2.1,y21.1.2.2.2.2.1,y21.1.2.2.2.2.2,()),(y21.2.2.1.1,y21.2.2.1.2.1,y21.2.2.1.2.2,()),(y23.1.1.1.1,y23.1.1.1.2,y23.1.1.2.1.1,y23.1.1.2.1.2,y23.1.1.2.2.1,y23.1.1.2.2.2.1,y23.1.1.2.2.2.2.1,y23.1.1.2.2.2.2.2,y23.1.2.1.1,y23.1.2.1.2.1,y23.1.2.1.2.2.1,y23.1.2.1.2.2.2,y23.1.2.2.1,y23.1.2.2.2.1,y23.1.2.2.2.2.1,y23.1.2.2.2.2.2,()),(y22.2.2.1.1,y22.2.2.1.2.1,y22.2.2.1.2.2,()),(y23.2.2.1.1,y23.2.2.1.2.1,y23.2.2.1.2.2,()),()),(y22.2.1++y23.2.1),()))).bind fun r=>match r with
        | .inl y24=>
          cond (decide (y24.2.1.2.2.2.2.1.1=0)) (
           cond (decide ((y24.1.2.1.length:Int)=(y24.2.2.1.length:Int))) (
            ((f14 y24.2.1.1.1 y24.2.1.1.2.1 y24.2.1.1.2.2.1 y24.2.1.1.2.2.2.1 y24.2.1.1.2.2.2.2.1 y24.2.1.1.2.2.2.2.2.1 y24.2.1.1.2.2.2.2.2.2.1 y24.2.1.1.2.2.2.2.2.2.2.1 y24.2.1.1.2.2.2.2.2.2.2.2.1 y24.2.1.1.2.2.2.2.2.2.2.2.2.1 y24.2.1.1.2.2.2.2.2.2.2.2.2.2.1 y24.2.1.1.2.2.2.2.2.2.2.2.2.2.2.1 y24.2.1.1.2.2.2.2.2.2.2.2.2.2.2.2.1 y24.2.1.1.2.2.2.2.2.2.2.2.2.2.2.2.2.1 y24.2.1.1.2.2.2.2.2.2.2.2.2.2.2.2.2.2.1 y24.2.1.1.2.2.2.2.2.2.2.2.2.2.2.2.2.2.2.1 y24.2.1.2.2.1.1 y24.2.1.2.2.1.2.1 y24.2.1.2.2.1.2.2.1 y24.2.1.2.2.1.2.2.2.1 y24.2.1.2.2.1.2.2.2.2.1 y24.2.1.2.2.1.2.2.2.2.2.1 y24.2.1.2.2.1.2.2.2.2.2.2.1 y24.2.1.2.2.1.2.2.2.2.2.2.2.1 y24.2.1.2.2.1.2.2.2.2.2.2.2.2.1 y24.2.1.2.2.1.2.2.2.2.2.2.2.2.2.1 y24.2.1.2.2.1.2.2.2.2.2.2.2.2.2.2.1 y24.2.1.2.2.1.2.2.2.2.2.2.2.2.2.2.2.1 y24.2.1.2.2.1.2.2.2.2.2.2.2.2.2.2.2.2.1 y24.2.1.2.2.1.2.2.2.2.2.2.2.2.2.2.2.2.2.1 y24.2.1.2.2.1.2.2.2.2.2.2.2.2.2.2.2.2.2.2.1 y24.2.1.2.2.1.2.2.2.2.2.2.2.2.2.2.2.2.2.2.2.1)).bind fun y26=>
            cond y26.1 (
             some ((decide (y24.2.1.2.1.2.1=(IntKind.wrap .i64 (y24.2.1.2.2.2.1.2.1+y24.2.1.2.2.2.2.1.2.1)))),())) (
             some (false,()))) (
            some (false,()))) (
           some (false,()))
        | .inr z25=>
          some (z25.1.1,())) (
        none)) (
       none))))))
set_option maxHeartbeats 0
abbrev ps7:List Ty:=[.pair (.pair (.pair (.int .i64) (.int .i64)) (.pair (.pair (.int .i64) (.int .i64)) (.pair (.int .i64) (.pair (.int .i64) (.pair (.int .i64) (.int .i64)))))) (.pair (.pair (.int .i64) (.pair (.int .i64) (.pair (.int .i64) (.bool)))) (.pair (.int .i64) (.pair (.row (.pair (.int .i64) (.pair (.int .i64) (.int .i64)))) (.pair (.row (.pair (.int .i64) (.pair (.int .i64) (.pair (.int .i64) (.pair (.int .i64) (.int .i64)))))) (.row (.pair (.int .i64) (.pair (.int .i64) (.int .i64)))))))),.int .i64,.int .i64]
abbrev rs7:List RTy:=[.val (.bool)]
noncomputable abbrev L7:List (Nat×Con):=[(11,con11),(12,con12),(13,con13),(14,con14)]
noncomputable abbrev U7:List (Nat×UCon):=[]
noncomputable abbrev C7:Cons:=lookC L7 U7
abbrev s7_12:LShape:=⟨117,[(9,.fix (.ptr 4294987904 0)),(10,.cont (.pair (.int .i64) (.pair (.int .i64) (.pair (.int .i64) (.pair (.int .i64) (.pair (.int .i64) (.pair (.int .i64) (.pair (.int .i64) (.pair (.int .i64) .bool))))))))),(11,.fix (.ptr 4294987920 0)),(12,.fix (.ptr 4294992000 0)),(14,.fix (.ptr 4294992016 0)),(16,.fix (.ptr 4294996096 0)),(18,.int .i64)],[],[(4294987904,.box 32 [.int .i64,.int .i64,.int .i64,.int .i64,.int .i64,.int .i64,.int .i64,.int .i64,.int .i64,.int .i64,.int .i64,.bool,.int .i64,.cont (.pair (.int .i64) (.pair (.int .i64) (.int .i64))),.cont (.pair (.int .i64) (.pair (.int .i64) (.pair (.int .i64) (.pair (.int .i64) (.int .i64))))),.cont (.pair (.int .i64) (.pair (.int .i64) (.int .i64)))]),(4294987920,.box 40 [.int .i64,.int .i64,.int .i64]),(4294992000,.box 32 [.int .i64,.int .i64,.int .i64,.int .i64,.int .i64,.int .i64,.int .i64,.int .i64,.int .i64,.int .i64,.int .i64,.bool,.int .i64,.cont (.pair (.int .i64) (.pair (.int .i64) (.int .i64))),.cont (.pair (.int .i64) (.pair (.int .i64) (.pair (.int .i64) (.pair (.int .i64) (.int .i64))))),.cont (.pair (.int .i64) (.pair (.int .i64) (.int .i64)))]),(4294992016,.box 40 [.int .i64,.int .i64,.int .i64]),(4294996096,.box 40 [.int .i64,.int .i64,.int .i64])],[⟨.t 17,8294968064,63,(.pair (.int .i64) (.pair (.int .i64) (.pair (.int .i64) (.pair (.int .i64) (.pair (.int .i64) (.pair (.int .i64) (.pair (.int .i64) (.pair (.int .i64) .bool))))))))⟩]⟩
abbrev o7_12:LShape:=⟨117,[(9,.fix (.ptr 4294987904 0)),(10,.cont (.pair (.int .i64) (.pair (.int .i64) (.pair (.int .i64) (.pair (.int .i64) (.pair (.int .i64) (.pair (.int .i64) (.pair (.int .i64) (.pair (.int .i64) .bool))))))))),(11,.fix (.ptr 4294987920 0)),(12,.fix (.ptr 4294992000 0)),(14,.fix (.ptr 4294992016 0)),(16,.fix (.ptr 4294996096 0))],[],[(4294987904,.box 32 [.int .i64,.int .i64,.int .i64,.int .i64,.int .i64,.int .i64,.int .i64,.int .i64,.int .i64,.int .i64,.int .i64,.bool,.int .i64,.cont (.pair (.int .i64) (.pair (.int .i64) (.int .i64))),.cont (.pair (.int .i64) (.pair (.int .i64) (.pair (.int .i64) (.pair (.int .i64) (.int .i64))))),.cont (.pair (.int .i64) (.pair (.int .i64) (.int .i64)))]),(4294987920,.box 40 [.int .i64,.int .i64,.int .i64]),(4294992000,.box 32 [.int .i64,.int .i64,.int .i64,.int .i64,.int .i64,.int .i64,.int .i64,.int .i64,.int .i64,.int .i64,.int .i64,.bool,.int .i64,.cont (.pair (.int .i64) (.pair (.int .i64) (.int .i64))),.cont (.pair (.int .i64) (.pair (.int .i64) (.pair (.int .i64) (.pair (.int .i64) (.int .i64))))),.cont (.pair (.int .i64) (.pair (.int .i64) (.int .i64)))]),(4294992016,.box 40 [.int .i64,.int .i64,.int .i64]),(4294996096,.box 40 [.int .i64,.int .i64,.int .i64])],[⟨.t 17,8294968096,63,(.pair (.int .i64) (.pair (.int .i64) (.pair (.int .i64) (.pair (.int .i64) (.pair (.int .i64) (.pair (.int .i64) (.pair (.int .i64) (.pair (.int .i64) .bool))))))))⟩]⟩
abbrev q7_12:LShape:=⟨117,[(6,.bool)],[],[],[]⟩
noncomputable def l7_12:LSum:=⟨9,7,s7_12,0,o7_12,q7_12,u7_12,false,none,none,[]⟩
noncomputable abbrev S7:List (Nat×Nat×LSum):=[(4294967296,12,l7_12)]
noncomputable def con7:Con:=⟨ps7,rs7,fun x=>f7 x.1.1.1.1 x.1.1.1.2 x.1.1.2.1.1 x.1.1.2.1.2 x.1.1.2.2.1 x.1.1.2.2.2.1 x.1.1.2.2.2.2.1 x.1.1.2.2.2.2.2 x.1.2.1.1 x.1.2.1.2.1 x.1.2.1.2.2.1 x.1.2.1.2.2.2 x.1.2.2.1 x.1.2.2.2.1 x.1.2.2.2.2.1 x.1.2.2.2.2.2 x.2.1 x.2.2.1⟩
theorem r7_12:Round Tryz.prog C7 (lookS S7) big 4294967296 12 l7_12:=⟨by kernel_rfl,fun z=>by kernel_rfl⟩
theorem e7 (x:Args ps7):kTop Tryz.prog C7 (lookS S7) big 10 7 ps7 rs7 x=con7.f x:=by kernel_rfl
theorem ok7 [Glob][RngG Tryz.prog](h:AllOK Tryz.prog L7)(h':AllU Tryz.prog U7):con7.OK Tryz.prog 7:=con_of_tree (lookC_ok h h') (rounds_of (l:=S7) ⟨r7_12,trivial⟩) e7
theorem k7:con7.OK Tryz.prog 7:=ok7 ⟨k11,k12,k13,k14,trivial⟩ trivial
abbrev W7:Type:=(Int×Int×Int×Int×Int×Int×Int×Int×Int×Int×Int×Bool×Int×(List (Int×Int×Int))×(List (Int×Int×Int×Int×Int))×(List (Int×Int×Int))×Unit)×(Int×Int×Int×Unit)×(Int×Int×Int×Int×Int×Int×Int×Int×Int×Int×Int×Bool×Int×(List (Int×Int×Int))×(List (Int×Int×Int×Int×Int))×(List (Int×Int×Int))×Unit)×(Int×Int×Int×Unit)×(Int×Int×Int×Unit)×Unit
theorem it7 (E:List ET)(w:W7)(hE:E.length≤9223372036854775807)(hE2:E.length<big) :
  iter big u7_12 (((),E,(),(),(),(),0,()),w,E,())=some (.inl (((),E,(),(),(),(),()),w,E,())):=by
 refine it_all (u:=u7_12) (fun j=>(((),E,(),(),(),(),((j:Nat):Int),()),w,E,())) (n:=E.length)
  (y:=(((),E,(),(),(),(),()),w,E,())) (fun j hj=>?_) ?_ 0 big (Nat.zero_le _) (by omega)
 ·simp only[u7_12,t7_12,ltn hj,ge0,cond_true,cond_false,Bool.and_self,Bool.and_true,Bool.not_true,Int.toNat_natCast,rdR hj,nx hj hE,decide_true,decide_eq_true hj,beq_self_eq_true]
 ·simp only[u7_12,t7_12,nlt,cond_false]
theorem f7_true (s:ST)(first to:Int) :
  f7 s.1.1.1 s.1.1.2 s.1.2.1.1 s.1.2.1.2 s.1.2.2.1 s.1.2.2.2.1 s.1.2.2.2.2.1 s.1.2.2.2.2.2 s.2.1.1 s.2.1.2.1 s.2.1.2.2.1 s.2.1.2.2.2 s.2.2.1 s.2.2.2.1 s.2.2.2.2.1 s.2.2.2.2.2 first to=some (true,()):=by
 unfold f7
 rw[f11_eq,f12_eq s]
 by_cases hf:Few s
 case neg=>rw[decide_eq_false hf];rfl
 rw[decide_eq_true hf]
 simp only[Option.bind_some,Bool.not_true,cond_false]
 by_cases h0:to<first
 ·rw[decide_eq_true h0];rfl
 rw[decide_eq_false h0]
 have hs:=hf.sm
 have e1:=f13_eq s (3,0,0,0,to,0,0,0,false) hs
 have e2:=f13_eq s (3,0,0,0,first,0,0,0,false) hs
 have sm2:=do_sm hs (3,0,0,0,first,0,0,0,false)
 have e3:=f13_eq _ (3,0,0,0,to,0,0,0,false) sm2
 simp only[ansT] at e1 e2 e3
 by_cases M:MayS s
 case neg=>
  rw[may_not M] at e1 e2
  simp only[errS] at e1 e2
  simp only[cond_false]
  rw[e1,e2]
  simp only[Option.bind_some]
  rw[e1];rfl
 rw[tick_do M] at e1 e2 e3 sm2
 by_cases hok:s.2.2.1≤first∧to≤1073741824
 case neg=>
  simp only[cond_false]
  rw[e1,e2]
  simp only[Option.bind_some]
  rw[e3]
  simp only[Option.bind_some]
  by_cases k1:to<s.2.2.1∨1073741824<to
  ·rw[show tickS s to=errS s 10 from if_pos k1];rfl
  ·by_cases k2:first<s.2.2.1∨1073741824<first
   ·rw[show tickS s first=errS s 10 from if_pos k2]
    cases hb:decide ((tickS s to).2.2.1=0)<;>rfl
   ·omega
 obtain⟨t1,t2,t3,t4,t5,t6,t7,t8,t9⟩:=tick_twice M hok.1 (show first≤to by omega) hok.2
 rw[tick_do t7] at e3
 have hl:=tick_evs s to
 have hl2:=hs.l
 have hw:IntKind.wrap .i64 ((tickS s first).2.2.2.1+(tickS (tickS s first).1 to).2.2.2.1)=(tickS s to).2.2.2.1:=by
  rw[← t6]
  rw[t9]
  exact w64 (by omega) (by omega)
 have e14:=f14_eq _ (tickS s to).1 t8.sm
 simp only[cond_false]
 rw[e1,e2]
 simp only[Option.bind_some]
 rw[e3]
 have c1:((tickS s first).2.1++(tickS (tickS s first).1 to).2.1).length≤1000:=by rw[← t2];omega
 rw[List.length_append] at c1
 simp only[Option.bind_some,t3,t5,decide_true,Bool.not_true,cond_false,decide_eq_true (show (tickS s first).2.1.length * 72≤140737488355328 by omega),decide_eq_true (show (tickS s first).2.1.length≤9223372036854775807 by omega),
  decide_eq_true (show ((tickS s first).2.1.length+(tickS (tickS s first).1 to).2.1.length) * 72≤140737488355328 by omega),decide_eq_true (show (tickS s first).2.1.length+(tickS (tickS s first).1 to).2.1.length≤9223372036854775807 by omega),Bool.and_self,cond_true]
 rw[← t2,it7 _ _ (by omega) (by unfold big;omega)]
 simp only[Option.bind_some,t4,decide_true,cond_true,t1,e14,hw]
end Go.Proofs.Zz
namespace Go.Proofs.YtpopildnbgbhlaaGreatDoor
open Go Go.Sy Go.RowKit Go.Proofs.Zz
set_option linter.unusedVariables false
set_option maxRecDepth 100000
theorem own:ownKnob Tryz.prog.godebug=none:=by kernel_rfl
theorem laidOut:laidOutB Tryz.prog=true:=by kernel_rfl
abbrev tabs:List (String×DataW Unit):=[("math/bits.deBruijn32tab", Rows.laid_math_bits_deBruijn32tab),("math/bits.deBruijn64tab", Rows.laid_math_bits_deBruijn64tab)]
abbrev tab64:List Int:=Lib.deBruijn64tab.map fun (n:Nat)=>(n:Int)
theorem tab64_eq:(Rows.laid_math_bits_deBruijn64tab:DataW Unit)=Lib.tabData .u8 tab64:=by kernel_rfl
theorem laidMet_next {P:Program}{x:String×DataW Unit}{r:List (String×DataW Unit)}{w:World}(h:laidMet P (x::r) w):laidMet P r w:=by
 obtain⟨ps,⟨g,t,cs,fuel,p,q,_,_,_,_,h1,rfl⟩,hn,hp⟩:=h
 refine⟨q,h1,?_,fun b off hm=>hp b off (List.mem_append.2 (.inr hm))⟩
 exact (List.nodup_append.1 hn).2.1
theorem tab64_of {W:World}(h:laidMet Tryz.prog tabs W):Lib.TabIs Tryz.prog W "math/bits.deBruijn64tab" .u8 tab64:=by
 have h1:=laidMet_next h
 rw[tab64_eq] at h1
 exact Lib.tabIs_of_head (g:=1) (t:=233) (e:=5) (n:=64) (by kernel_rfl) (by kernel_rfl) (by kernel_rfl) (by kernel_rfl) (by kernel_rfl) (by kernel_rfl) h1
theorem tab_get:∀ j:Fin 64,(tab64.map fun z=>Value.int .u8 z)[j.val]? = some (Value.int .u8 ((Lib.deBruijn64tab.getD j.val 0:Nat):Int)):=by
 intro j
 simp only[tab64,List.getElem?_map]
 have h:Lib.deBruijn64tab[j.val]? = some (Lib.deBruijn64tab.getD j.val 0):=by
  have hl:Lib.deBruijn64tab.length=64:=by decide
  have hj:=j.isLt
  rw[List.getD_eq_getElem?_getD,List.getElem?_eq_getElem (by omega)]
  rfl
 rw[h]
 rfl
theorem glob_of {W:World}(h:laidMetH Tryz.prog tabs W):Glob.pre (allS W):=by
 rw[MakeChecks.laidMetH_plain _ _ _ (by kernel_rfl)] at h
 intro w hw j hj
 have ht:=tab64_of h
 unfold Lib.TabIs World.var? at ht
 have hg:Tryz.prog.globalNamed "math/bits.deBruijn64tab" = some 1:=by kernel_rfl
 rw[hg] at ht
 simp only[Option.bind_some] at ht
 have hl:Lib.deBruijn64tab.length=64:=by decide
 have hget:=tab_get ⟨j,by omega⟩
 cases hb:W.heap[1]? with
 | none=>rw[hb] at ht;simp at ht
 | some o=>
  have hb':=hw 1 o hb
  rw[hb] at ht
  unfold World.cell?
  simp only
  rw[hb']
  cases o with
  | cells cs t x=>
   simp only at ht ⊢
   cases ht
   have e:((tab64.map fun z=>Value.int .u8 z).toArray)[j]? = (tab64.map fun z=>Value.int .u8 z)[j]?:=by simp
   rw[hget] at e
   simpa using e
  | _=>simp at ht
theorem shaped_tabs {os:Os}{args:Array Value}:((World.laidAll Tryz.prog os tabs).forCall (fun _ _=>0) ⟨#[],args,[]⟩).Shaped Tryz.prog:=
 World.shaped_of_ZipB (by kernel_rfl) (by kernel_rfl)
theorem met_tabs (os:Os)(args:Array Value):laidMetH Tryz.prog tabs ((World.laidAll Tryz.prog os tabs).forCall (fun _ _=>0) ⟨#[],args,[]⟩).memory:=by
 rw[MakeChecks.laidMetH_plain _ _ _ (by kernel_rfl)];exact laidMet_laidAll _ (by kernel_rfl) (by kernel_rfl)
end Go.Proofs.YtpopildnbgbhlaaGreatDoor
namespace Go.Proofs.YtpopildnbgbhlaaGreatDoor.allocTwice
open Go Go.Sy Go.RowKit Go.Proofs.Zz Go.ChangeShapes
set_option linter.unusedVariables false
set_option maxRecDepth 100000
theorem lifted (os:Os)(started:os.Started)(H:Type)(enc:TypeId×Value→H) :
  ReturnsInHanded {} Tryz.checked os 7 .any (fun w args=>(Rows.allocTwiceSpec.pre enc Tryz.prog Tryz.f7 [] false w args∧laidMetH Tryz.prog tabs w)∧sizedMet enc Tryz.prog Tryz.f7 (OpenSpec.ofChange Rows.allocTwiceSpec) false w args)
   (Rows.allocTwiceSpec.post enc Tryz.prog Tryz.f7 false true false false):=
 law_lifted (C:=Tryz.checked) (X:=fun w _=>laidMetH Tryz.prog tabs w) (Ts:=ps7) (F:=con7.f) (ts:=[32,3,3]) (tb:=4) (fun _ _ _ hh h=>h.of_heap hh) own started (by kernel_rfl) Tryz.func7
  (ChangeSpec.witness_shaped (enc:=enc) (C:=Tryz.checked) (os:=os) (X:=fun w _=>laidMetH Tryz.prog tabs w) false (World.laidAll Tryz.prog os tabs) #[.agg #[.int .i64 0,.int .i64 0,.int .i64 0,.int .i64 0,.int .i64 0,.int .i64 0,.int .i64 0,.int .i64 0,.int .i64 0,.int .i64 0,.int .i64 0,.bool false,.int .i64 0,.slice none 0 0,.slice none 0 0,.slice none 0 0],.int .i64 0,.int .i64 0] 8 (World.laidAll_os _ _ _)
   shaped_tabs (by kernel_rfl) (by kernel_rfl) (by kernel_rfl) (met_tabs os _))
  (fun W _ hs h=>glob_of h) laidOut k7 Tryz.params7 (by kernel_rfl) Tryz.underlying4
  (fun t ht=>by
   have h:([32,3,3].all fun t=>Tryz.prog.readableRec t&&decide (t<Tryz.prog.types.size))=true:=by kernel_rfl
   have:=List.all_eq_true.1 h t ht
   rw[Bool.and_eq_true,decide_eq_true_eq] at this
   exact this)
  ⟨by kernel_rfl,by kernel_rfl,by kernel_rfl,trivial⟩ rfl (fun ds hds=>by
   match ds,hds with
   | [d1,d2,d3],_=>rfl)
  (fun x hx=>f7_true x.1 x.2.1 x.2.2.1)
theorem holds:Rows.AllocTwiceSaid:=
 OpenClaim.holds_of_wide 7 Tryz.f7 rfl rfl rfl rfl rfl rfl rfl ⟨rfl,rfl,rfl,rfl,rfl⟩ rfl rfl rfl rfl rfl (by kernel_rfl) Tryz.func7 (by kernel_rfl)
  (of_decide_eq_true (by kernel_rfl)) (by unfold Func.isWrapper;first|(rw[if_pos (by decide +kernel)];kernel_rfl)|(rw[if_neg (by decide +kernel)];exact⟨rfl,rfl⟩))
  (fun os started H enc _=>lifted os started H enc)
theorem card_holds:Rows.AllocTwiceCardSaid:=
 Claim7.holds_tied_plain_at .later [] [.data,.data] true _ true holds (fun _ h=>by cases h) (by kernel_rfl) (fun _ h=>by cases h) allocTwice_row_tie rfl ⟨rfl,rfl⟩ (by kernel_rfl) rfl
  (fun f fn hf hfn=>by
   obtain rfl:f=7:=Option.some.inj ((show Tryz.prog.funcNamed "moorings/mooringslaw13.AllocTwice" = some 7 by kernel_rfl).symm.trans hf) |>.symm
   obtain rfl:fn=Tryz.f7:=(Option.some.inj (Tryz.func7.symm.trans hfn)).symm
   exact⟨by kernel_rfl,fun j t ht=>by
    rw[Tryz.params7] at ht
    have hm:t∈[32,3,3]:=by simpa using Array.mem_of_getElem? ht
    have hall:([32,3,3].all fun u=>!Tryz.prog.wantsStandIn u)=true:=by kernel_rfl
    exact (show Tryz.prog.wantsStandIn t=false by simpa using List.all_eq_true.1 hall t hm)⟩)
  (by kernel_rfl)
end Go.Proofs.YtpopildnbgbhlaaGreatDoor.allocTwice
namespace Go.Proofs.YtpopildnbgbhlaaGreatDoor
theorem allocTwice_holds:Rows.AllocTwiceCardSaid:=allocTwice.card_holds
end Go.Proofs.YtpopildnbgbhlaaGreatDoor
