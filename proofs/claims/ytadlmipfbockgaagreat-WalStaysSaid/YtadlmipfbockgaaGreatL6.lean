/- Pure9_6, Eq9_6, P9_6, Law9_6. -/
import Derived.Test.YtadlmipfbockgaaGreatPU
import Derived.Test.YtadlmipfbockgaaGreatEQ
import Derived.Test.YtadlmipfbockgaaGreatFD
import Derived.Test.YtadlmipfbockgaaGreatPC
namespace Go.Proofs.Zz
open Go Go.Sy
set_option linter.unusedVariables false
set_option maxRecDepth 100000
noncomputable def f6 (v1:Int)(v2:(List (Int×(List Int)×Int)))(v3 v4 v5 v6 v7 v8 v9 v10 v11 v12 v13 v14 v15:Int)(v16:Bool)(v17:Int)(v18:(List (Int×Int×Int)))(v19:(List (Int×Int×Int×Int×Int)))(v20:(List (Int×Int×Int)))(v21:(List (Int×Int×Int×Int×Int×Int×Int×Int×Bool)))(v22:Int):Option (Bool×Unit):=
 (f8).bind fun y23=>
 ((f9 v1 v2 v3 v4)).bind fun y24=>
 ((f10 v5 v6 v7 v8 v9 v10 v11 v12 v13 v14 v15 v16 v17 v18 v19 v20)).bind fun y25=>
 cond (!y23.1) (
  some (y23.1,())) (
  cond (!y24.1) (
   some (y23.1,())) (
   cond (!y25.1) (
    some (y23.1,())) (
    cond (decide (40<(v21.length:Int))) (
     some (y23.1,())) (
     ((f11 v1 v2 v3 v4)).bind fun y26=>
     cond (!y26.1) (
      some (y23.1,())) (
      ((f17 v1 v2 v3 v4 v21)).bind fun y27=>
      ((f14 v1 v2 v3 v4 v5 v6 v7 v8 v9 v10 v11 v12 v13 v14 v15 v16 v17 v18 v19 v20)).bind fun y28=>
      ((f16 v1 v2 v3 v4 v22)).bind fun y29=>
      cond (!(decide (y27.2.1=0))) (
       ((f15 y27.1.1.1 y27.1.1.2 y27.1.2.1 y27.1.2.2 v1 v2 v3 v4)).bind fun y30=>
       cond (!y30.1) (
        some (false,())) (
        cond (!(decide (y28.2.1=0))) (
         ((f15 y28.1.1.1 y28.1.1.2 y28.1.2.1 y28.1.2.2 v1 v2 v3 v4)).bind fun y31=>
         cond (!y31.1) (
          some (false,())) (
          ((f11 y27.1.1.1 y27.1.1.2 y27.1.2.1 y27.1.2.2)).bind fun y32=>
          cond (!y32.1) (
           some (false,())) (
           ((f11 y28.1.1.1 y28.1.1.2 y28.1.2.1 y28.1.2.2)).bind fun y33=>
           cond (!y33.1) (
            some (false,())) (
            ((f11 y29.1.1.1 y29.1.1.2 y29.1.2.1 y29.1.2.2)).bind fun y34=>
            cond (!y34.1) (
             some (false,())) (
             cond (!(decide (y29.1.2.1=v3))) (
              some (false,())) (
              cond (!(decide (y29.1.2.2=v4))) (
               some (false,())) (
               cond (!(decide (y27.2.1=0))) (
                some (true,())) (
                cond (!(decide ((y27.1.1.2.length:Int)=(IntKind.wrap .i64 ((IntKind.wrap .i64 ((v2.length:Int)-1))+1))))) (
                 some (false,())) (
                 cond (decide ((IntKind.wrap .i64 ((v2.length:Int)-1))<0)) (
                  some (false,())) (
                  cond ((decide (0≤(IntKind.wrap .i64 ((v2.length:Int)-1))))&&(decide ((IntKind.wrap .i64 ((v2.length:Int)-1))<(v2.length:Int)))) (
                   cond ((decide (0≤(IntKind.wrap .i64 ((v2.length:Int)-1))))&&(decide ((IntKind.wrap .i64 ((v2.length:Int)-1))<(y27.1.1.2.length:Int)))) (
                    cond (decide ((rd (.pair (.int .i64) (.pair (.row (.int .u8)) (.int .i64))) y27.1.1.2 (Int.toNat (IntKind.wrap .i64 ((v2.length:Int)-1)))).2.2=(((rd (.pair (.int .i64) (.pair (.row (.int .u8)) (.int .i64))) y27.1.1.2 (Int.toNat (IntKind.wrap .i64 ((v2.length:Int)-1)))).2.1.length:Nat):Int))) (
                     cond (decide ((((rd (.pair (.int .i64) (.pair (.row (.int .u8)) (.int .i64))) v2 (Int.toNat (IntKind.wrap .i64 ((v2.length:Int)-1)))).2.1.length:Nat):Int)<(((rd (.pair (.int .i64) (.pair (.row (.int .u8)) (.int .i64))) y27.1.1.2 (Int.toNat (IntKind.wrap .i64 ((v2.length:Int)-1)))).2.1.length:Nat):Int))) (
                      cond ((decide (0≤(((rd (.pair (.int .i64) (.pair (.row (.int .u8)) (.int .i64))) v2 (Int.toNat (IntKind.wrap .i64 ((v2.length:Int)-1)))).2.1.length:Nat):Int)))&&(decide ((((rd (.pair (.int .i64) (.pair (.row (.int .u8)) (.int .i64))) v2 (Int.toNat (IntKind.wrap .i64 ((v2.length:Int)-1)))).2.1.length:Nat):Int)≤(((rd (.pair (.int .i64) (.pair (.row (.int .u8)) (.int .i64))) y27.1.1.2 (Int.toNat (IntKind.wrap .i64 ((v2.length:Int)-1)))).2.1.length:Nat):Int)))) (
                       some (((bytesStr (List.drop 0 (List.take (Int.toNat (((rd (.pair (.int .i64) (.pair (.row (.int .u8)) (.int .i64))) v2 (Int.toNat (IntKind.wrap .i64 ((v2.length:Int)-1)))).2.1.length:Nat):Int)) (rd (.pair (.int .i64) (.pair (.row (.int .u8)) (.int .i64))) y27.1.1.2 (Int.toNat (IntKind.wrap .i64 ((v2.length:Int)-1)))).2.1))).toList == (bytesStr (rd (.pair (.int .i64) (.pair (.row (.int .u8)) (.int .i64))) v2 (Int.toNat (IntKind.wrap .i64 ((v2.length:Int)-1)))).2.1).toList),())) (
                       none)) (
                      some (false,()))) (
                     some (false,()))) (
                    none)) (
                   none))))))))))) (
         ((f11 y27.1.1.1 y27.1.1.2 y27.1.2.1 y27.1.2.2)).bind fun y35=>
         cond (!y35.1) (
          some (false,())) (
          ((f11 y28.1.1.1 y28.1.1.2 y28.1.2.1 y28.1.2.2)).bind fun y36=>
          cond (!y36.1) (
           some (false,())) (
           ((f11 y29.1.1.1 y29.1.1.2 y29.1.2.1 y29.1.2.2)).bind fun y37=>
           cond (!y37.1) (
            some (false,())) (
            cond (!(decide (y29.1.2.1=v3))) (
             some (false,())) (
             cond (!(decide (y29.1.2.2=v4))) (
              some (false,())) (
              cond (!(decide (y27.2.1=0))) (
               some (true,())) (
               cond (!(decide ((y27.1.1.2.length:Int)=(IntKind.wrap .i64 ((IntKind.wrap .i64 ((v2.length:Int)-1))+1))))) (
                some (false,())) (
                cond (decide ((IntKind.wrap .i64 ((v2.length:Int)-1))<0)) (
                 some (false,())) (
                 cond ((decide (0≤(IntKind.wrap .i64 ((v2.length:Int)-1))))&&(decide ((IntKind.wrap .i64 ((v2.length:Int)-1))<(v2.length:Int)))) (
                  cond ((decide (0≤(IntKind.wrap .i64 ((v2.length:Int)-1))))&&(decide ((IntKind.wrap .i64 ((v2.length:Int)-1))<(y27.1.1.2.length:Int)))) (
                   cond (decide ((rd (.pair (.int .i64) (.pair (.row (.int .u8)) (.int .i64))) y27.1.1.2 (Int.toNat (IntKind.wrap .i64 ((v2.length:Int)-1)))).2.2=(((rd (.pair (.int .i64) (.pair (.row (.int .u8)) (.int .i64))) y27.1.1.2 (Int.toNat (IntKind.wrap .i64 ((v2.length:Int)-1)))).2.1.length:Nat):Int))) (
                    cond (decide ((((rd (.pair (.int .i64) (.pair (.row (.int .u8)) (.int .i64))) v2 (Int.toNat (IntKind.wrap .i64 ((v2.length:Int)-1)))).2.1.length:Nat):Int)<(((rd (.pair (.int .i64) (.pair (.row (.int .u8)) (.int .i64))) y27.1.1.2 (Int.toNat (IntKind.wrap .i64 ((v2.length:Int)-1)))).2.1.length:Nat):Int))) (
                     cond ((decide (0≤(((rd (.pair (.int .i64) (.pair (.row (.int .u8)) (.int .i64))) v2 (Int.toNat (IntKind.wrap .i64 ((v2.length:Int)-1)))).2.1.length:Nat):Int)))&&(decide ((((rd (.pair (.int .i64) (.pair (.row (.int .u8)) (.int .i64))) v2 (Int.toNat (IntKind.wrap .i64 ((v2.length:Int)-1)))).2.1.length:Nat):Int)≤(((rd (.pair (.int .i64) (.pair (.row (.int .u8)) (.int .i64))) y27.1.1.2 (Int.toNat (IntKind.wrap .i64 ((v2.length:Int)-1)))).2.1.length:Nat):Int)))) (
                      some (((bytesStr (List.drop 0 (List.take (Int.toNat (((rd (.pair (.int .i64) (.pair (.row (.int .u8)) (.int .i64))) v2 (Int.toNat (IntKind.wrap .i64 ((v2.length:Int)-1)))).2.1.length:Nat):Int)) (rd (.pair (.int .i64) (.pair (.row (.int .u8)) (.int .i64))) y27.1.1.2 (Int.toNat (IntKind.wrap .i64 ((v2.length:Int)-1)))).2.1))).toList == (bytesStr (rd (.pair (.int .i64) (.pair (.row (.int .u8)) (.int .i64))) v2 (Int.toNat (IntKind.wrap .i64 ((v2.length:Int)-1)))).2.1).toList),())) (
                      none)) (
                     some (false,()))) (
                    some (false,()))) (
                   none)) (
                  none)))))))))))) (
       cond (!(decide (y28.2.1=0))) (
        ((f15 y28.1.1.1 y28.1.1.2 y28.1.2.1 y28.1.2.2 v1 v2 v3 v4)).bind fun y38=>
        cond (!y38.1) (
         some (false,())) (
         ((f11 y27.1.1.1 y27.1.1.2 y27.1.2.1 y27.1.2.2)).bind fun y39=>
         cond (!y39.1) (
          some (false,())) (
          ((f11 y28.1.1.1 y28.1.1.2 y28.1.2.1 y28.1.2.2)).bind fun y40=>
          cond (!y40.1) (
           some (false,())) (
           ((f11 y29.1.1.1 y29.1.1.2 y29.1.2.1 y29.1.2.2)).bind fun y41=>
           cond (!y41.1) (
            some (false,())) (
            cond (!(decide (y29.1.2.1=v3))) (
             some (false,())) (
             cond (!(decide (y29.1.2.2=v4))) (
              some (false,())) (
              cond (!(decide (y27.2.1=0))) (
               some (true,())) (
               cond (!(decide ((y27.1.1.2.length:Int)=(IntKind.wrap .i64 ((IntKind.wrap .i64 ((v2.length:Int)-1))+1))))) (
                some (false,())) (
                cond (decide ((IntKind.wrap .i64 ((v2.length:Int)-1))<0)) (
                 some (false,())) (
                 cond ((decide (0≤(IntKind.wrap .i64 ((v2.length:Int)-1))))&&(decide ((IntKind.wrap .i64 ((v2.length:Int)-1))<(v2.length:Int)))) (
                  cond ((decide (0≤(IntKind.wrap .i64 ((v2.length:Int)-1))))&&(decide ((IntKind.wrap .i64 ((v2.length:Int)-1))<(y27.1.1.2.length:Int)))) (
                   cond (decide ((rd (.pair (.int .i64) (.pair (.row (.int .u8)) (.int .i64))) y27.1.1.2 (Int.toNat (IntKind.wrap .i64 ((v2.length:Int)-1)))).2.2=(((rd (.pair (.int .i64) (.pair (.row (.int .u8)) (.int .i64))) y27.1.1.2 (Int.toNat (IntKind.wrap .i64 ((v2.length:Int)-1)))).2.1.length:Nat):Int))) (
                    cond (decide ((((rd (.pair (.int .i64) (.pair (.row (.int .u8)) (.int .i64))) v2 (Int.toNat (IntKind.wrap .i64 ((v2.length:Int)-1)))).2.1.length:Nat):Int)<(((rd (.pair (.int .i64) (.pair (.row (.int .u8)) (.int .i64))) y27.1.1.2 (Int.toNat (IntKind.wrap .i64 ((v2.length:Int)-1)))).2.1.length:Nat):Int))) (
                     cond ((decide (0≤(((rd (.pair (.int .i64) (.pair (.row (.int .u8)) (.int .i64))) v2 (Int.toNat (IntKind.wrap .i64 ((v2.length:Int)-1)))).2.1.length:Nat):Int)))&&(decide ((((rd (.pair (.int .i64) (.pair (.row (.int .u8)) (.int .i64))) v2 (Int.toNat (IntKind.wrap .i64 ((v2.length:Int)-1)))).2.1.length:Nat):Int)≤(((rd (.pair (.int .i64) (.pair (.row (.int .u8)) (.int .i64))) y27.1.1.2 (Int.toNat (IntKind.wrap .i64 ((v2.length:Int)-1)))).2.1.length:Nat):Int)))) (
                      some (((bytesStr (List.drop 0 (List.take (Int.toNat (((rd (.pair (.int .i64) (.pair (.row (.int .u8)) (.int .i64))) v2 (Int.toNat (IntKind.wrap .i64 ((v2.length:Int)-1)))).2.1.length:Nat):Int)) (rd (.pair (.int .i64) (.pair (.row (.int .u8)) (.int .i64))) y27.1.1.2 (Int.toNat (IntKind.wrap .i64 ((v2.length:Int)-1)))).2.1))).toList == (bytesStr (rd (.pair (.int .i64) (.pair (.row (.int .u8)) (.int .i64))) v2 (Int.toNat (IntKind.wrap .i64 ((v2.length:Int)-1)))).2.1).toList),())) (
                      none)) (
                     some (false,()))) (
                    some (false,()))) (
                   none)) (
                  none))))))))))) (
        ((f11 y27.1.1.1 y27.1.1.2 y27.1.2.1 y27.1.2.2)).bind fun y42=>
        cond (!y42.1) (
         some (false,())) (
         ((f11 y28.1.1.1 y28.1.1.2 y28.1.2.1 y28.1.2.2)).bind fun y43=>
         cond (!y43.1) (
          some (false,())) (
          ((f11 y29.1.1.1 y29.1.1.2 y29.1.2.1 y29.1.2.2)).bind fun y44=>
          cond (!y44.1) (
           some (false,())) (
           cond (!(decide (y29.1.2.1=v3))) (
            some (false,())) (
            cond (!(decide (y29.1.2.2=v4))) (
             some (false,())) (
             cond (!(decide (y27.2.1=0))) (
              some (true,())) (
              cond (!(decide ((y27.1.1.2.length:Int)=(IntKind.wrap .i64 ((IntKind.wrap .i64 ((v2.length:Int)-1))+1))))) (
               some (false,())) (
               cond (decide ((IntKind.wrap .i64 ((v2.length:Int)-1))<0)) (
                some (false,())) (
                cond ((decide (0≤(IntKind.wrap .i64 ((v2.length:Int)-1))))&&(decide ((IntKind.wrap .i64 ((v2.length:Int)-1))<(v2.length:Int)))) (
                 cond ((decide (0≤(IntKind.wrap .i64 ((v2.length:Int)-1))))&&(decide ((IntKind.wrap .i64 ((v2.length:Int)-1))<(y27.1.1.2.length:Int)))) (
                  cond (decide ((rd (.pair (.int .i64) (.pair (.row (.int .u8)) (.int .i64))) y27.1.1.2 (Int.toNat (IntKind.wrap .i64 ((v2.length:Int)-1)))).2.2=(((rd (.pair (.int .i64) (.pair (.row (.int .u8)) (.int .i64))) y27.1.1.2 (Int.toNat (IntKind.wrap .i64 ((v2.length:Int)-1)))).2.1.length:Nat):Int))) (
                   cond (decide ((((rd (.pair (.int .i64) (.pair (.row (.int .u8)) (.int .i64))) v2 (Int.toNat (IntKind.wrap .i64 ((v2.length:Int)-1)))).2.1.length:Nat):Int)<(((rd (.pair (.int .i64) (.pair (.row (.int .u8)) (.int .i64))) y27.1.1.2 (Int.toNat (IntKind.wrap .i64 ((v2.length:Int)-1)))).2.1.length:Nat):Int))) (
                    cond ((decide (0≤(((rd (.pair (.int .i64) (.pair (.row (.int .u8)) (.int .i64))) v2 (Int.toNat (IntKind.wrap .i64 ((v2.length:Int)-1)))).2.1.length:Nat):Int)))&&(decide ((((rd (.pair (.int .i64) (.pair (.row (.int .u8)) (.int .i64))) v2 (Int.toNat (IntKind.wrap .i64 ((v2.length:Int)-1)))).2.1.length:Nat):Int)≤(((rd (.pair (.int .i64) (.pair (.row (.int .u8)) (.int .i64))) y27.1.1.2 (Int.toNat (IntKind.wrap .i64 ((v2.length:Int)-1)))).2.1.length:Nat):Int)))) (
                     some (((bytesStr (List.drop 0 (List.take (Int.toNat (((rd (.pair (.int .i64) (.pair (.row (.int .u8)) (.int .i64))) v2 (Int.toNat (IntKind.wrap .i64 ((v2.length:Int)-1)))).2.1.length:Nat):Int)) (rd (.pair (.int .i64) (.pair (.row (.int .u8)) (.int .i64))) y27.1.1.2 (Int.toNat (IntKind.wrap .i64 ((v2.length:Int)-1)))).2.1))).toList == (bytesStr (rd (.pair (.int .i64) (.pair (.row (.int .u8)) (.int .i64))) v2 (Int.toNat (IntKind.wrap .i64 ((v2.length:Int)-1)))).2.1).toList),())) (
                     none)) (
                    some (false,()))) (
                   some (false,()))) (
                  none)) (
                 none))))))))))))))))
set_option maxHeartbeats 0
abbrev ps6:List Ty:=[.pair (.pair (.int .i64) (.row (.pair (.int .i64) (.pair (.row (.int .u8)) (.int .i64))))) (.pair (.int .i64) (.int .i64)),.pair (.pair (.pair (.int .i64) (.int .i64)) (.pair (.pair (.int .i64) (.int .i64)) (.pair (.int .i64) (.pair (.int .i64) (.pair (.int .i64) (.int .i64)))))) (.pair (.pair (.int .i64) (.pair (.int .i64) (.pair (.int .i64) (.bool)))) (.pair (.int .i64) (.pair (.row (.pair (.int .i64) (.pair (.int .i64) (.int .i64)))) (.pair (.row (.pair (.int .i64) (.pair (.int .i64) (.pair (.int .i64) (.pair (.int .i64) (.int .i64)))))) (.row (.pair (.int .i64) (.pair (.int .i64) (.int .i64)))))))),.row (.pair (.int .i64) (.pair (.int .i64) (.pair (.int .i64) (.pair (.int .i64) (.pair (.int .i64) (.pair (.int .i64) (.pair (.int .i64) (.pair (.int .i64) (.bool))))))))),.int .i64]
abbrev rs6:List RTy:=[.val (.bool)]
noncomputable abbrev L6:List (Nat×Con):=[(8,con8),(9,con9),(10,con10),(11,con11),(14,con14),(15,con15),(16,con16),(17,con17)]
noncomputable abbrev U6:List (Nat×UCon):=[]
noncomputable abbrev C6:Cons:=lookC L6 U6
noncomputable abbrev S6:List (Nat×Nat×LSum):=[]
noncomputable def con6:Con:=⟨ps6,rs6,fun x=>f6 x.1.1.1 x.1.1.2 x.1.2.1 x.1.2.2 x.2.1.1.1.1 x.2.1.1.1.2 x.2.1.1.2.1.1 x.2.1.1.2.1.2 x.2.1.1.2.2.1 x.2.1.1.2.2.2.1 x.2.1.1.2.2.2.2.1 x.2.1.1.2.2.2.2.2 x.2.1.2.1.1 x.2.1.2.1.2.1 x.2.1.2.1.2.2.1 x.2.1.2.1.2.2.2 x.2.1.2.2.1 x.2.1.2.2.2.1 x.2.1.2.2.2.2.1 x.2.1.2.2.2.2.2 x.2.2.1 x.2.2.2.1⟩
theorem e6 (x:Args ps6):kTop Tryz.prog C6 (lookS S6) big 10 6 ps6 rs6 x=con6.f x:=by kernel_rfl
theorem ok6 [Glob][RngG Tryz.prog](h:AllOK Tryz.prog L6)(h':AllU Tryz.prog U6):con6.OK Tryz.prog 6:=con_of_tree (lookC_ok h h') (rounds_of (l:=S6) trivial) e6
theorem k6:con6.OK Tryz.prog 6:=ok6 ⟨k8,k9,k10,k11,k14,k15,k16,k17,trivial⟩ trivial
set_option linter.unusedSimpArgs false
theorem f6_true (c:Int)(F:List FD)(no now:Int)(s:ST)(l:List ET)(t:Int)(hl:F.length≤9223372036854775807)(hB:BytD F) :
  f6 c F no now s.1.1.1 s.1.1.2 s.1.2.1.1 s.1.2.1.2 s.1.2.2.1 s.1.2.2.2.1 s.1.2.2.2.2.1 s.1.2.2.2.2.2 s.2.1.1 s.2.1.2.1 s.2.1.2.2.1 s.2.1.2.2.2 s.2.2.1 s.2.2.2.1 s.2.2.2.2.1 s.2.2.2.2.2 l t=some (true,()):=by
 obtain⟨q,h9,hq⟩:=f9_eq c F no now hl
 unfold f6
 rw[f8_eq,h9,f10_eq s]
 simp only[Option.bind_some,Bool.not_true,cond_false]
 cases q with
 | false=>rfl
 | true=>
  have hD:=(hq rfl).sz
  simp only[Bool.not_true,cond_false]
  by_cases hs:Few s
  case neg=>rw[decide_eq_false hs];rfl
  rw[decide_eq_true hs]
  simp only[Bool.not_true,cond_false]
  by_cases h40:l.length≤40
  case neg=>rw[decide_eq_true (by omega)];rfl
  rw[decide_eq_false (by omega),f11_eq c F no now hD]
  simp only[Option.bind_some,cond_false]
  by_cases hm:MayW c F no now
  case neg=>rw[decide_eq_false hm];rfl
  rw[decide_eq_true hm,f16_eq c F no now t hD hB,if_pos hm]
  have h17:=f17_eq c F no now l hD (by omega)
  have h14:=f14_eq c F no now s hD hs.sm
  have hsame:=same_self c F no now hD
  have hmF:f11 c F no now=some (true,()):=by rw[f11_eq c F no now hD,decide_eq_true hm]
  have hmC:f11 c (trimF t F) no now=some (true,()):=by
   have k:=trim_may t hm
   rw[f11_eq c _ no now (mayD_Sz k.1),decide_eq_true k]
  have hlD:=hD.1
  rcases addW_cases l hm with⟨e,hA,he⟩|⟨G,f,body,now',rfl,hno,hA,hmA,hpos⟩
  ·rw[hA] at h17
   simp only[h17,Option.bind_some,Bool.not_true,cond_false,decide_eq_false he,Bool.not_false,cond_true,hsame]
   rcases turnW_cases (c:=c) (F:=F) (no:=no) (now:=now) s with⟨e',hT⟩|⟨hE,hT⟩
   ·rw[hT] at h14
    by_cases he':e'=0
    ·subst he'
     simp only[h14,Option.bind_some,decide_true,Bool.not_true,cond_false,hmF,hmC,Bool.not_false,cond_true]
    ·simp only[h14,Option.bind_some,decide_eq_false he',Bool.not_false,cond_true,hsame,Bool.not_true,cond_false,hmF,hmC,decide_true]
   ·rw[hT] at h14
    have hmB:f11 c (newF F s) (lastN F+1) s.2.2.1=some (true,()):=by rw[f11_eq c _ _ _ (newF_sz hE),decide_eq_true (newF_mayW hE)]
    simp only[h14,Option.bind_some,decide_true,Bool.not_true,cond_false,hmF,hmB,hmC,Bool.not_false,cond_true]
  ·rw[hA] at h17
   have hmA':f11 c (G++[(no,f.2.1++ints (addR body),((f.2.1++ints (addR body)).length:Int))]) no now'=some (true,()):=by
    rw[f11_eq c _ _ _ (mayD_Sz hmA.1),decide_eq_true hmA]
   have hlen:(G++[f]).length=G.length+1:=by simp
   have hlenA:(G++[((no,f.2.1++ints (addR body),((f.2.1++ints (addR body)).length:Int)):FD)]).length=G.length+1:=by simp
   have hlt:G.length<(G++[f]).length:=by simp
   have hltA:G.length<(G++[((no,f.2.1++ints (addR body),((f.2.1++ints (addR body)).length:Int)):FD)]).length:=by simp
   have ew:IntKind.wrap .i64 ((((G++[f]).length:Nat):Int)-1)=(G.length:Int):=by rw[hlen,w64 (by omega) (by omega)];omega
   have ew2:IntKind.wrap .i64 ((G.length:Int)+1)=((G.length+1:Nat):Int):=by rw[w64 (by omega) (by omega)];omega
   have htk:List.drop 0 (List.take f.2.1.length (f.2.1++ints (addR body)))=f.2.1:=by rw[List.drop_zero,List.take_left' rfl]
   have hll:f.2.1.length<(f.2.1++ints (addR body)).length:=by rw[List.length_append,ints_len];omega
   have fin:∀ X:Option (Bool×Unit),X=some (true,())→X=some (true,()):=fun _ h=>h
   simp only[h17,Option.bind_some,Bool.not_true,cond_false,decide_true]
   rcases turnW_cases (c:=c) (F:=G++[f]) (no:=no) (now:=now) s with⟨e',hT⟩|⟨hE,hT⟩
   ·rw[hT] at h14
    by_cases he':e'=0
    ·subst he'
     simp only[h14,Option.bind_some,decide_true,Bool.not_true,cond_false,hmF,hmA',hmC,ew,ew2,hlenA,decide_eq_false (show ¬ ((G.length:Nat):Int)<0 by omega),ge0,ltn hlt,ltn hltA,decide_eq_true (show ((G.length:Nat):Int)<((G.length+1:Nat):Int) by omega),Bool.and_self,cond_true,Int.toNat_natCast,rdFD hlt,rdFD hltA,get_snoc,ltn hll,dec_le (Nat.le_of_lt hll),htk,strEq]
    ·simp only[h14,Option.bind_some,decide_eq_false he',Bool.not_false,hsame,decide_true,Bool.not_true,cond_false,hmF,hmA',hmC,ew,ew2,hlenA,decide_eq_false (show ¬ ((G.length:Nat):Int)<0 by omega),ge0,ltn hlt,ltn hltA,decide_eq_true (show ((G.length:Nat):Int)<((G.length+1:Nat):Int) by omega),Bool.and_self,cond_true,Int.toNat_natCast,rdFD hlt,rdFD hltA,get_snoc,ltn hll,dec_le (Nat.le_of_lt hll),htk,strEq]
   ·rw[hT] at h14
    have hmB:f11 c (newF (G++[f]) s) (lastN (G++[f])+1) s.2.2.1=some (true,()):=by rw[f11_eq c _ _ _ (newF_sz hE),decide_eq_true (newF_mayW hE)]
    simp only[h14,Option.bind_some,decide_true,Bool.not_true,cond_false,hmB,hmA',hmC,ew,ew2,hlenA,decide_eq_false (show ¬ ((G.length:Nat):Int)<0 by omega),ge0,ltn hlt,ltn hltA,decide_eq_true (show ((G.length:Nat):Int)<((G.length+1:Nat):Int) by omega),Bool.and_self,cond_true,Int.toNat_natCast,rdFD hlt,rdFD hltA,get_snoc,ltn hll,dec_le (Nat.le_of_lt hll),htk,strEq]
end Go.Proofs.Zz
namespace Go.Proofs.YtadlmipfbockgaaGreat.walStays
open Go Go.Sy Go.RowKit Go.Proofs.Zz Go.ChangeShapes
set_option linter.unusedVariables false
set_option maxRecDepth 100000
theorem lifted (os:Os)(started:os.Started)(H:Type)(enc:TypeId×Value→H) :
  ReturnsInHanded {} Tryz.checked os 6 .any (Rows.walStaysSpec.pre6 enc Tryz.prog Tryz.f6 Rows.walStaysRow.domain false) (Rows.walStaysSpec.post enc Tryz.prog Tryz.f6 false true false false):=
 law_lifted6 (C:=Tryz.checked) (Ts:=ps6) (F:=con6.f) (ts:=[26,37,54,3]) (tb:=4) own started (by kernel_rfl) Tryz.func6
  (ChangeSpec.witness6 (enc:=enc) (C:=Tryz.checked) false ⟨#[],#[.agg #[.int .i64 0,.slice none 0 0,.int .i64 0,.int .i64 0],.agg #[.int .i64 0,.int .i64 0,.int .i64 0,.int .i64 0,.int .i64 0,.int .i64 0,.int .i64 0,.int .i64 0,.int .i64 0,.int .i64 0,.int .i64 0,.bool false,.int .i64 0,.slice none 0 0,.slice none 0 0,.slice none 0 0],.slice none 0 0,.int .i64 0],[]⟩ 8 (by kernel_rfl) (by kernel_rfl) (by kernel_rfl) (by kernel_rfl))
  (fun W hs=>trivial) laidOut k6 Tryz.params6 (by kernel_rfl) Tryz.underlying4
  (fun t ht=>by
   have h:([26,37,54,3].all fun t=>Tryz.prog.readableRec t&&decide (t<Tryz.prog.types.size))=true:=by kernel_rfl
   have:=List.all_eq_true.1 h t ht
   rw[Bool.and_eq_true,decide_eq_true_eq] at this
   exact this)
  ⟨by kernel_rfl,by kernel_rfl,by kernel_rfl,by kernel_rfl,trivial⟩ rfl (fun ds hds=>by
   match ds,hds with
   | [d1,d2,d3,d4],_=>rfl)
  (fun x hx=>f6_true x.1.1.1 x.1.1.2 x.1.2.1 x.1.2.2 x.2.1 x.2.2.1 x.2.2.2.1 (lenW hx.1.1.2.1) (bytD_of hx.1.1.2.2))
theorem holds:Rows.WalStaysSaid:=
 OpenClaim.holds_of_wide 6 Tryz.f6 rfl rfl rfl rfl rfl rfl rfl ⟨rfl,rfl,rfl,rfl,rfl⟩ rfl rfl rfl rfl rfl (by kernel_rfl) Tryz.func6 (by kernel_rfl)
  (of_decide_eq_true (by kernel_rfl)) (by unfold Func.isWrapper;first|(rw[if_pos (by decide +kernel)];kernel_rfl)|(rw[if_neg (by decide +kernel)];exact⟨rfl,rfl⟩))
  (fun os started H enc _=>lifted os started H enc)
end Go.Proofs.YtadlmipfbockgaaGreat.walStays
namespace Go.Proofs.YtadlmipfbockgaaGreat
theorem walStays_holds:Rows.WalStaysSaid:=walStays.holds
end Go.Proofs.YtadlmipfbockgaaGreat
