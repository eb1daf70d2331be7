/- Pure17_5, Eq17_5, P17_5, Law17_5. -/
import Derived.Test.YtjkplgcpgpicnaaGreatPU
import Derived.Test.YtjkplgcpgpicnaaGreatEQ
import Derived.Test.YtjkplgcpgpicnaaGreatFD
import Derived.Test.YtjkplgcpgpicnaaGreatPD
namespace Go.Proofs.Zz
open Go Go.Sy
set_option linter.unusedVariables false
set_option maxRecDepth 100000
noncomputable def f5 (v1:Int)(v2:(List (Int×(List Int)×Int)))(v3:Int):Option (Bool×Unit):=
 (f7).bind fun y4=>
 ((f8 v1 v2)).bind fun y5=>
 cond (!y4.1) (
  some (y4.1,())) (
  cond (!y5.1) (
   some (y4.1,())) (
   cond (decide (v3<0)) (
    some (y4.1,())) (
    cond (decide ((v2.length:Int)≤v3)) (
     some (y4.1,())) (
     ((f9 v1 v2)).bind fun y6=>
     ((f19 y6.2.1.1.1.1 y6.2.1.1.1.2 y6.2.1.1.2.1.1 y6.2.1.1.2.1.2 y6.2.1.1.2.2.1 y6.2.1.1.2.2.2.1 y6.2.1.1.2.2.2.2.1 y6.2.1.1.2.2.2.2.2 y6.2.1.2.1.1 y6.2.1.2.1.2.1 y6.2.1.2.1.2.2.1 y6.2.1.2.1.2.2.2 y6.2.1.2.2.1 y6.2.1.2.2.2.1 y6.2.1.2.2.2.2.1 y6.2.1.2.2.2.2.2)).bind fun y7=>
     cond (!(decide (y6.2.2.1=0))) (
      some (true,())) (
      cond ((decide (0≤v3))&&(decide (v3<(v2.length:Int)))) (
       ((f16 (rd (.pair (.int .i64) (.pair (.row (.int .u8)) (.int .i64))) v2 (Int.toNat v3)).2.1)).bind fun y8=>
       cond (!y7.1) (
        some (false,())) (
        cond (decide ((IntKind.wrap .i64 ((y6.1.1.2.length:Int)-1))<0)) (
         some (false,())) (
         cond (decide ((v2.length:Int)≤(IntKind.wrap .i64 ((y6.1.1.2.length:Int)-1)))) (
          some (false,())) (
          cond (decide ((IntKind.wrap .i64 ((y6.1.1.2.length:Int)-1))<v3)) (
           cond y8.2.1 (
            some (false,())) (
            cond ((decide (0≤(IntKind.wrap .i64 ((y6.1.1.2.length:Int)-1))))&&(decide ((IntKind.wrap .i64 ((y6.1.1.2.length:Int)-1))<(v2.length:Int)))) (
             ((f16 (rd (.pair (.int .i64) (.pair (.row (.int .u8)) (.int .i64))) v2 (Int.toNat (IntKind.wrap .i64 ((y6.1.1.2.length:Int)-1)))).2.1)).bind fun y9=>
             cond y9.2.1 (
              cond ((decide (0≤(IntKind.wrap .i64 ((y6.1.1.2.length:Int)-1))))&&(decide ((IntKind.wrap .i64 ((y6.1.1.2.length:Int)-1))<(v2.length:Int)))) (
               cond (decide (y6.1.2.1=(rd (.pair (.int .i64) (.pair (.row (.int .u8)) (.int .i64))) v2 (Int.toNat (IntKind.wrap .i64 ((y6.1.1.2.length:Int)-1)))).1)) (
                cond (decide ((IntKind.wrap .i64 ((y6.1.1.2.length:Int)-1))≤v3)) (
                 some (true,())) (
                 cond ((decide (0≤v3))&&(decide (v3<(y6.1.1.2.length:Int)))) (
                  cond ((decide (0≤v3))&&(decide (v3<(v2.length:Int)))) (
                   cond (decide ((rd (.pair (.int .i64) (.pair (.row (.int .u8)) (.int .i64))) y6.1.1.2 (Int.toNat v3)).1=(rd (.pair (.int .i64) (.pair (.row (.int .u8)) (.int .i64))) v2 (Int.toNat v3)).1)) (
                    cond ((decide (0≤v3))&&(decide (v3<(y6.1.1.2.length:Int)))) (
                     cond ((decide (0≤v3))&&(decide (v3<(v2.length:Int)))) (
                      some (((cy (rd (.pair (.int .i64) (.pair (.row (.int .u8)) (.int .i64))) y6.1.1.2 (Int.toNat v3)).2.1).toList == (cy (rd (.pair (.int .i64) (.pair (.row (.int .u8)) (.int .i64))) v2 (Int.toNat v3)).2.1).toList),())) (
                      none)) (
                     none)) (
                    some (false,()))) (
                   none)) (
                  none))) (
                some (false,()))) (
               none)) (
              some (false,()))) (
             none))) (
           cond ((decide (0≤(IntKind.wrap .i64 ((y6.1.1.2.length:Int)-1))))&&(decide ((IntKind.wrap .i64 ((y6.1.1.2.length:Int)-1))<(v2.length:Int)))) (
            ((f16 (rd (.pair (.int .i64) (.pair (.row (.int .u8)) (.int .i64))) v2 (Int.toNat (IntKind.wrap .i64 ((y6.1.1.2.length:Int)-1)))).2.1)).bind fun y10=>
            cond y10.2.1 (
             cond ((decide (0≤(IntKind.wrap .i64 ((y6.1.1.2.length:Int)-1))))&&(decide ((IntKind.wrap .i64 ((y6.1.1.2.length:Int)-1))<(v2.length:Int)))) (
              cond (decide (y6.1.2.1=(rd (.pair (.int .i64) (.pair (.row (.int .u8)) (.int .i64))) v2 (Int.toNat (IntKind.wrap .i64 ((y6.1.1.2.length:Int)-1)))).1)) (
               cond (decide ((IntKind.wrap .i64 ((y6.1.1.2.length:Int)-1))≤v3)) (
                some (true,())) (
                cond ((decide (0≤v3))&&(decide (v3<(y6.1.1.2.length:Int)))) (
                 cond ((decide (0≤v3))&&(decide (v3<(v2.length:Int)))) (
                  cond (decide ((rd (.pair (.int .i64) (.pair (.row (.int .u8)) (.int .i64))) y6.1.1.2 (Int.toNat v3)).1=(rd (.pair (.int .i64) (.pair (.row (.int .u8)) (.int .i64))) v2 (Int.toNat v3)).1)) (
                   cond ((decide (0≤v3))&&(decide (v3<(y6.1.1.2.length:Int)))) (
                    cond ((decide (0≤v3))&&(decide (v3<(v2.length:Int)))) (
                     some (((cy (rd (.pair (.int .i64) (.pair (.row (.int .u8)) (.int .i64))) y6.1.1.2 (Int.toNat v3)).2.1).toList == (cy (rd (.pair (.int .i64) (.pair (.row (.int .u8)) (.int .i64))) v2 (Int.toNat v3)).2.1).toList),())) (
                     none)) (
                    none)) (
                   some (false,()))) (
                  none)) (
                 none))) (
               some (false,()))) (
              none)) (
             some (false,()))) (
            none)))))) (
       none))))))
set_option maxHeartbeats 0
abbrev ZR:List Ty:=[.pair (.int .i64) (.row (.pair (.int .i64) (.pair (.row (.int .u8)) (.int .i64)))),.int .i64]
abbrev rs5:List dM:=[.val (.bool)]
noncomputable abbrev L5:List (Nat×aS):=[(7,Nu),(8,Uo),(9,RH),(16,Cn),(19,Tf)]
noncomputable abbrev U5:List (Nat×bI):=[]
noncomputable abbrev C5:Cons:=xI L5 U5
noncomputable abbrev S5:List (Nat×Nat×aK):=[]
noncomputable def QI:aS:=⟨ZR,rs5,fun x=>f5 x.1.1 x.1.2 x.2.1⟩
theorem e5 (x:cS ZR):Fh Tryz.prog C5 (kN S5) aA 10 5 ZR rs5 x=QI.f x:=by kernel_rfl
theorem ok5 [aq][BP Tryz.prog](h:r7 Tryz.prog L5)(h':CF Tryz.prog U5):QI.OK Tryz.prog 5:=aa (ak h h') (ah (l:=S5) trivial) e5
theorem k5:QI.OK Tryz.prog 5:=ok5 ⟨k7,k8,k9,ZK,k19,trivial⟩ trivial
set_option linter.unusedSimpArgs false
theorem Vc (x:List Int):((cy x).toList == (cy x).toList)=true:=beq_self_eq_true _
theorem QZ (c:Int)(F:List FD)(i:Int)(hl:F.length≤9223372036854775807)(hB:BM F):f5 c F i=some (true,()):=by
 obtain⟨q,h8,hq⟩:=SD c F hl
 unfold f5
 rw[Ig,h8]
 simp only[Option.bind_some,Bool.not_true,cond_false]
 cases q with
 | false=>rfl
 | true=>
  have hD:=(hq rfl).sz
  simp only[Bool.not_true,cond_false]
  by_cases h0:i<0
  ·rw[decide_eq_true h0];rfl
  rw[decide_eq_false h0]
  by_cases h1:((F.length:Nat):Int)≤i
  ·rw[decide_eq_true h1];rfl
  rw[decide_eq_false h1]
  obtain⟨j,rfl⟩:∃ j:Nat,i=j:=⟨i.toNat,by omega⟩
  have hj:j<F.length:=by omega
  simp only[cond_false]
  have hz:=OU lI
  cases hm:dx c F with
  | false=>
   rw[Gv c F hD hm]
   simp only[Option.bind_some]
   refine (congrArg (fun o=>Option.bind o _) hz).trans ?_
   rfl
  | true=>
   rcases AP c F hm hB with⟨_,k⟩|⟨A,f,B,r,l,rfl,k2,k3,k4⟩
   ·rw[k]
    simp only[Option.bind_some]
    refine (congrArg (fun o=>Option.bind o _) hz).trans ?_
    rfl
   ·have e:A++f::B=(A++[f])++B:=by simp
    have hmf:dx c (A++[f])=true:=wJ (by rw[← e];exact hm)
    obtain⟨b,hbb,hb⟩:=hB f (by simp)
    have hfl:=hD.2 f (by simp)
    have hfl':b.length≤1000000:=by rw[hbb,aC] at hfl;exact hfl
    obtain⟨s,n,g1,g2,g3,g4,g5⟩:=jN hb hfl' (by rw[← hbb];exact k3)
    have h19:=OU r.1
    have hfew:RF r.1:=⟨by have:=g3.len;omega,by have:=g3.Vt;omega,by have:=g3.HV.len;omega⟩
    rw[decide_eq_true hfew] at h19
    have hS2:=iw (yF hmf (k:=r.2) (by rw[hbb,aC];exact g4))
    have hlA:=hS2.1
    have hl2:(A++[gL f r.2]).length=A.length+1:=by simp
    have hlt1:A.length<(A++[gL f r.2]).length:=by simp
    have hlt2:A.length<(A++f::B).length:=by simp
    have hg2:(A++f::B)[A.length]'hlt2=f:=by rw[List.getElem_append_right (Nat.le_refl _)];simp
    have ew:IntKind.wrap .i64 ((((A++[gL f r.2]).length:Nat):Int)-1)=(A.length:Int):=by rw[hl2] at *;rw[bN (by omega) (by omega)];omega
    have hcf:(A++[(f.1,f.2.1.take r.2,(r.2:Int))])=A++[gL f r.2]:=rfl
    have h16:=uD k3
    rw[k4,hcf]
    obtain⟨o,ho,hoj⟩:∃ o,f16 (A++f::B)[j].2.1=some o∧(A.length<j→o.2.1=false):=by
     obtain⟨b',hb1,hb2⟩:=hB _ (List.getElem_mem hj)
     have hl':=hD.at hj
     rw[hb1,aC] at hl'
     obtain⟨o,_,h25⟩:=fU b' hb2 hl'
     rw[← hb1] at h25
     refine⟨_,uP h25,fun hlt=>?_⟩
     have hmem:(A++f::B)[j]∈B:=by
      have hy:=List.getElem_of_eq e hj
      rw[hy,List.getElem_append_right (by rw[List.length_append,List.length_singleton];omega)]
      exact List.getElem_mem _
     have:=k2 _ hmem
     rw[h25] at this
     rw[Option.some.inj this];rfl
    simp only[Option.bind_some,h19,decide_true,Bool.not_true,cond_false,fe,eO hj,Bool.and_self,cond_true,Int.toNat_natCast,j3 hj,ho,ew,decide_eq_false (show ¬ ((A.length:Nat):Int)<0 by omega),decide_eq_false (show ¬ (((A++f::B).length:Nat):Int)≤((A.length:Nat):Int) by omega),eO hlt2,j3 hlt2,hg2,h16]
    by_cases hja:A.length<j
    ·rw[decide_eq_true (show ((A.length:Nat):Int)<((j:Nat):Int) by omega),hoj hja,decide_eq_true (show ((A.length:Nat):Int)≤((j:Nat):Int) by omega)];rfl
    ·rw[decide_eq_false (show ¬ ((A.length:Nat):Int)<((j:Nat):Int) by omega)]
     simp only[cond_false]
     by_cases hje:A.length≤j
     ·rw[decide_eq_true (show ((A.length:Nat):Int)≤((j:Nat):Int) by omega)];rfl
     ·rw[decide_eq_false (show ¬ ((A.length:Nat):Int)≤((j:Nat):Int) by omega)]
      have hj1:j<(A++[gL f r.2]).length:=by omega
      have hja':j<A.length:=by omega
      have e1:(A++[gL f r.2])[j]'hj1=A[j]:=List.getElem_append_left hja'
      have e2:(A++f::B)[j]'hj=A[j]:=List.getElem_append_left hja'
      simp only[cond_false,eO hj1,eO hj,cond_true,j3 hj1,j3 hj,e1,e2,decide_true,Vc]
      rfl
end Go.Proofs.Zz
namespace Go.Proofs.YtjkplgcpgpicnaaGreat.recoverFinds
open Go Go.Sy Go.RowKit Go.Proofs.Zz Go.ChangeShapes
set_option linter.unusedVariables false
set_option maxRecDepth 100000
theorem lifted (os:Os)(started:os.Started)(H:Type)(enc:TypeId×Value→H) :
  ReturnsInHanded {} Tryz.checked os 5 .any (Rows.recoverFindsSpec.pre6 enc Tryz.prog Tryz.f5 Rows.recoverFindsRow.domain false) (Rows.recoverFindsSpec.post enc Tryz.prog Tryz.f5 false true false false):=
 iH (C:=Tryz.checked) (Ts:=ZR) (F:=QI.f) (ts:=[24,3]) (tb:=4) own started (by kernel_rfl) Tryz.func5
  (ChangeSpec.witness6 (enc:=enc) (C:=Tryz.checked) false ⟨#[],#[.agg #[.int .i64 0,.slice none 0 0],.int .i64 0],[]⟩ 8 (by kernel_rfl) (by kernel_rfl) (by kernel_rfl) (by kernel_rfl))
  (fun W hs=>trivial) laidOut k5 Tryz.params5 (by kernel_rfl) Tryz.underlying4
  (fun t ht=>by
   have h:([24,3].all fun t=>Tryz.prog.readableRec t&&decide (t<Tryz.prog.types.size))=true:=by kernel_rfl
   have:=List.all_eq_true.1 h t ht
   rw[Bool.and_eq_true,decide_eq_true_eq] at this
   exact this)
  ⟨by kernel_rfl,by kernel_rfl,trivial⟩ rfl (fun ds hds=>by
   match ds,hds with
   | [d1,d2],_=>rfl)
  (fun x hx=>QZ x.1.1 x.1.2 x.2.1 (XX hx.1.2.1) (G8 hx.1.2.2))
theorem holds:Rows.RecoverFindsSaid:=
 OpenClaim.holds_of_wide 5 Tryz.f5 rfl rfl rfl rfl rfl rfl rfl ⟨rfl,rfl,rfl,rfl,rfl⟩ rfl rfl rfl rfl rfl (by kernel_rfl) Tryz.func5 (by kernel_rfl)
  (of_decide_eq_true (by kernel_rfl)) (by unfold Func.isWrapper;first|(rw[if_pos (by decide +kernel)];kernel_rfl)|(rw[if_neg (by decide +kernel)];exact⟨rfl,rfl⟩))
  (fun os started H enc _=>lifted os started H enc)
end Go.Proofs.YtjkplgcpgpicnaaGreat.recoverFinds
namespace Go.Proofs.YtjkplgcpgpicnaaGreat
theorem recoverFinds_holds:Rows.RecoverFindsSaid:=recoverFinds.holds
end Go.Proofs.YtjkplgcpgpicnaaGreat
