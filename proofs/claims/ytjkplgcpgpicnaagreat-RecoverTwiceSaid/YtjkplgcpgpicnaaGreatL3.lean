/- Pure17_3, Eq17_3, P17_3, Law17_3. -/
import Derived.Test.YtjkplgcpgpicnaaGreatPU
import Derived.Test.YtjkplgcpgpicnaaGreatEQ
import Derived.Test.YtjkplgcpgpicnaaGreatFD
import Derived.Test.YtjkplgcpgpicnaaGreatPD
namespace Go.Proofs.Zz
open Go Go.Sy
set_option linter.unusedVariables false
set_option maxRecDepth 100000
noncomputable def f3 (v1:Int)(v2:(List (Int×(List Int)×Int))):Option (Bool×Unit):=
 (f7).bind fun y3=>
 ((f8 v1 v2)).bind fun y4=>
 cond (!y3.1) (
  some (y3.1,())) (
  cond (!y4.1) (
   some (y3.1,())) (
   ((f9 v1 v2)).bind fun y5=>
   cond (!(decide (y5.2.2.1=0))) (
    cond (decide ((y5.1.1.2.length:Int)=0)) (
     some ((decide ((y5.2.1.2.2.2.1.length:Int)=0)),())) (
     some (false,()))) (
    ((f9 y5.1.1.1 y5.1.1.2)).bind fun y6=>
    cond (!(decide (y6.2.2.1=0))) (
     some (false,())) (
     ((f10 y5.1.1.1 y5.1.1.2 y5.1.2.1 y5.1.2.2)).bind fun y7=>
     cond (!y7.1) (
      some (false,())) (
      ((f11 y5.2.1.1.1.1 y5.2.1.1.1.2 y5.2.1.1.2.1.1 y5.2.1.1.2.1.2 y5.2.1.1.2.2.1 y5.2.1.1.2.2.2.1 y5.2.1.1.2.2.2.2.1 y5.2.1.1.2.2.2.2.2 y5.2.1.2.1.1 y5.2.1.2.1.2.1 y5.2.1.2.1.2.2.1 y5.2.1.2.1.2.2.2 y5.2.1.2.2.1 y5.2.1.2.2.2.1 y5.2.1.2.2.2.2.1 y5.2.1.2.2.2.2.2)).bind fun y8=>
      cond (!y8.1) (
       some (false,())) (
       ((f12 y5.1.1.1 y5.1.1.2 y5.1.2.1 y5.1.2.2 y6.1.1.1 y6.1.1.2 y6.1.2.1 y6.1.2.2)).bind fun y9=>
       cond (!y9.1) (
        some (false,())) (
        ((f13 y5.2.1.1.1.1 y5.2.1.1.1.2 y5.2.1.1.2.1.1 y5.2.1.1.2.1.2 y5.2.1.1.2.2.1 y5.2.1.1.2.2.2.1 y5.2.1.1.2.2.2.2.1 y5.2.1.1.2.2.2.2.2 y5.2.1.2.1.1 y5.2.1.2.1.2.1 y5.2.1.2.1.2.2.1 y5.2.1.2.1.2.2.2 y5.2.1.2.2.1 y5.2.1.2.2.2.1 y5.2.1.2.2.2.2.1 y5.2.1.2.2.2.2.2 y6.2.1.1.1.1 y6.2.1.1.1.2 y6.2.1.1.2.1.1 y6.2.1.1.2.1.2 y6.2.1.1.2.2.1 y6.2.1.1.2.2.2.1 y6.2.1.1.2.2.2.2.1 y6.2.1.1.2.2.2.2.2 y6.2.1.2.1.1 y6.2.1.2.1.2.1 y6.2.1.2.1.2.2.1 y6.2.1.2.1.2.2.2 y6.2.1.2.2.1 y6.2.1.2.2.2.1 y6.2.1.2.2.2.2.1 y6.2.1.2.2.2.2.2)).bind fun y10=>
        cond (!y10.1) (
         some (false,())) (
         cond (decide ((IntKind.wrap .i64 ((y5.1.1.2.length:Int)-1))<0)) (
          some (false,())) (
          cond (decide ((v2.length:Int)≤(IntKind.wrap .i64 ((y5.1.1.2.length:Int)-1)))) (
           some (false,())) (
           cond ((decide (0≤(IntKind.wrap .i64 ((y5.1.1.2.length:Int)-1))))&&(decide ((IntKind.wrap .i64 ((y5.1.1.2.length:Int)-1))<(y5.1.1.2.length:Int)))) (
            cond ((decide (0≤(IntKind.wrap .i64 ((y5.1.1.2.length:Int)-1))))&&(decide ((IntKind.wrap .i64 ((y5.1.1.2.length:Int)-1))<(v2.length:Int)))) (
             cond (!(decide ((rd (.pair (.int .i64) (.pair (.row (.int .u8)) (.int .i64))) y5.1.1.2 (Int.toNat (IntKind.wrap .i64 ((y5.1.1.2.length:Int)-1)))).1=(rd (.pair (.int .i64) (.pair (.row (.int .u8)) (.int .i64))) v2 (Int.toNat (IntKind.wrap .i64 ((y5.1.1.2.length:Int)-1)))).1))) (
              some (false,())) (
              cond ((decide (0≤(IntKind.wrap .i64 ((y5.1.1.2.length:Int)-1))))&&(decide ((IntKind.wrap .i64 ((y5.1.1.2.length:Int)-1))<(y5.1.1.2.length:Int)))) (
               cond ((decide (0≤(IntKind.wrap .i64 ((y5.1.1.2.length:Int)-1))))&&(decide ((IntKind.wrap .i64 ((y5.1.1.2.length:Int)-1))<(y5.1.1.2.length:Int)))) (
                cond (decide ((rd (.pair (.int .i64) (.pair (.row (.int .u8)) (.int .i64))) y5.1.1.2 (Int.toNat (IntKind.wrap .i64 ((y5.1.1.2.length:Int)-1)))).2.2=(((rd (.pair (.int .i64) (.pair (.row (.int .u8)) (.int .i64))) y5.1.1.2 (Int.toNat (IntKind.wrap .i64 ((y5.1.1.2.length:Int)-1)))).2.1.length:Nat):Int))) (
                 cond ((decide (0≤(IntKind.wrap .i64 ((y5.1.1.2.length:Int)-1))))&&(decide ((IntKind.wrap .i64 ((y5.1.1.2.length:Int)-1))<(v2.length:Int)))) (
                  cond (decide ((((rd (.pair (.int .i64) (.pair (.row (.int .u8)) (.int .i64))) y5.1.1.2 (Int.toNat (IntKind.wrap .i64 ((y5.1.1.2.length:Int)-1)))).2.1.length:Nat):Int)≤(((rd (.pair (.int .i64) (.pair (.row (.int .u8)) (.int .i64))) v2 (Int.toNat (IntKind.wrap .i64 ((y5.1.1.2.length:Int)-1)))).2.1.length:Nat):Int))) (
                   cond ((decide (0≤(IntKind.wrap .i64 ((y5.1.1.2.length:Int)-1))))&&(decide ((IntKind.wrap .i64 ((y5.1.1.2.length:Int)-1))<(v2.length:Int)))) (
                    cond ((decide (0≤(((rd (.pair (.int .i64) (.pair (.row (.int .u8)) (.int .i64))) y5.1.1.2 (Int.toNat (IntKind.wrap .i64 ((y5.1.1.2.length:Int)-1)))).2.1.length:Nat):Int)))&&(decide ((((rd (.pair (.int .i64) (.pair (.row (.int .u8)) (.int .i64))) y5.1.1.2 (Int.toNat (IntKind.wrap .i64 ((y5.1.1.2.length:Int)-1)))).2.1.length:Nat):Int)≤(((rd (.pair (.int .i64) (.pair (.row (.int .u8)) (.int .i64))) v2 (Int.toNat (IntKind.wrap .i64 ((y5.1.1.2.length:Int)-1)))).2.1.length:Nat):Int)))) (
                     some (((cy (rd (.pair (.int .i64) (.pair (.row (.int .u8)) (.int .i64))) y5.1.1.2 (Int.toNat (IntKind.wrap .i64 ((y5.1.1.2.length:Int)-1)))).2.1).toList == (cy (List.drop 0 (List.take (Int.toNat (((rd (.pair (.int .i64) (.pair (.row (.int .u8)) (.int .i64))) y5.1.1.2 (Int.toNat (IntKind.wrap .i64 ((y5.1.1.2.length:Int)-1)))).2.1.length:Nat):Int)) (rd (.pair (.int .i64) (.pair (.row (.int .u8)) (.int .i64))) v2 (Int.toNat (IntKind.wrap .i64 ((y5.1.1.2.length:Int)-1)))).2.1))).toList),())) (
                     none)) (
                    none)) (
                   some (false,()))) (
                  none)) (
                 some (false,()))) (
                none)) (
               none))) (
             none)) (
            none)))))))))))
set_option maxHeartbeats 0
abbrev ZH:List Ty:=[.pair (.int .i64) (.row (.pair (.int .i64) (.pair (.row (.int .u8)) (.int .i64))))]
abbrev rs3:List dM:=[.val (.bool)]
noncomputable abbrev L3:List (Nat×aS):=[(7,Nu),(8,Uo),(9,RH),(10,KB),(11,uC),(12,Mj),(13,GF)]
noncomputable abbrev U3:List (Nat×bI):=[]
noncomputable abbrev C3:Cons:=xI L3 U3
noncomputable abbrev S3:List (Nat×Nat×aK):=[]
noncomputable def Qw:aS:=⟨ZH,rs3,fun x=>f3 x.1.1 x.1.2⟩
theorem e3 (x:cS ZH):Fh Tryz.prog C3 (kN S3) aA 10 3 ZH rs3 x=Qw.f x:=by kernel_rfl
theorem ok3 [aq][BP Tryz.prog](h:r7 Tryz.prog L3)(h':CF Tryz.prog U3):Qw.OK Tryz.prog 3:=aa (ak h h') (ah (l:=S3) trivial) e3
theorem k3:Qw.OK Tryz.prog 3:=ok3 ⟨k7,k8,k9,k10,WM,k12,k13,trivial⟩ trivial
set_option linter.unusedSimpArgs false
theorem W6 (x:List Int):((cy x).toList == (cy x).toList)=true:=beq_self_eq_true _
theorem Qh (c:Int)(F:List FD)(hl:F.length≤9223372036854775807)(hB:BM F):f3 c F=some (true,()):=by
 obtain⟨q,h8,hq⟩:=SD c F hl
 unfold f3
 rw[Ig,h8]
 simp only[Option.bind_some,Bool.not_true,cond_false]
 cases q with
 | false=>rfl
 | true=>
  have hD:=(hq rfl).sz
  simp only[Bool.not_true,cond_false]
  cases hm:dx c F with
  | false=>rw[Gv c F hD hm];rfl
  | true=>
   rcases AP c F hm hB with⟨_,k⟩|⟨A,f,B,r,l,rfl,k2,k3,k4⟩
   ·rw[k];rfl
   ·have e:A++f::B=(A++[f])++B:=by simp
    have hmf:dx c (A++[f])=true:=wJ (by rw[← e];exact hm)
    obtain⟨b,hbb,hb⟩:=hB f (by simp)
    have hfl:=hD.2 f (by simp)
    have hfl':b.length≤1000000:=by rw[hbb,aC] at hfl;exact hfl
    obtain⟨s,n,g1,g2,g3,g4,g5⟩:=jN hb hfl' (by rw[← hbb];exact k3)
    have hk:r.2≤f.2.1.length:=by rw[hbb,aC];exact g4
    have h2:=Fa c A f r l hmf (fun g hg=>hB g (by simp[hg])) b hbb hb k3
    have hm2:=yF hmf hk
    have hS2:=iw hm2
    have hf0:=(tM (nL hm).1 f (by simp)).1
    have hW:OV c (A++[gL f r.2]) f.1 r.1.2.2.1:=⟨hm2,by rw[oc];exact hf0,by rw[oc],g3.Yr,g3.YA⟩
    have h10:=Wd c _ f.1 r.1.2.2.1 hS2
    rw[decide_eq_true hW] at h10
    have hsm:=g3.sm
    have h11:=uj r.1 hsm.WX hsm.Wq hsm.WN
    rw[decide_eq_true g3] at h11
    have h12:=UZ c (A++[gL f r.2]) f.1 r.1.2.2.1 c (A++[gL f r.2]) f.1 r.1.2.2.1 hS2
    rw[decide_eq_true rfl] at h12
    have h13:=MC r.1 r.1 hsm
    rw[decide_eq_true rfl] at h13
    have hlA:=hS2.1
    have hl2:(A++[gL f r.2]).length=A.length+1:=by simp
    have hlt1:A.length<(A++[gL f r.2]).length:=by simp
    have hlt2:A.length<(A++f::B).length:=by simp
    have hg2:(A++f::B)[A.length]'hlt2=f:=by rw[List.getElem_append_right (Nat.le_refl _)];simp
    have ew:IntKind.wrap .i64 ((((A++[gL f r.2]).length:Nat):Int)-1)=(A.length:Int):=by rw[hl2] at *;rw[bN (by omega) (by omega)];omega
    have ht:(f.2.1.take r.2).length=r.2:=by rw[List.length_take];omega
    have hcf:(A++[(f.1,f.2.1.take r.2,(r.2:Int))])=A++[gL f r.2]:=rfl
    rw[k4,hcf]
    simp only[Option.bind_some,decide_true,Bool.not_true,cond_false,h2,h10,h11,h12,h13,ew,decide_eq_false (show ¬ ((A.length:Nat):Int)<0 by omega),decide_eq_false (show ¬ (((A++f::B).length:Nat):Int)≤((A.length:Nat):Int) by omega),fe,eO hlt1,eO hlt2,Bool.and_self,cond_true,Int.toNat_natCast,j3 hlt1,j3 hlt2,jv,hg2,ht,
     decide_eq_true (show ((r.2:Nat):Int)≤((f.2.1.length:Nat):Int) by omega),List.drop_zero,W6]
end Go.Proofs.Zz
namespace Go.Proofs.YtjkplgcpgpicnaaGreat.recoverTwice
open Go Go.Sy Go.RowKit Go.Proofs.Zz Go.ChangeShapes
set_option linter.unusedVariables false
set_option maxRecDepth 100000
theorem lifted (os:Os)(started:os.Started)(H:Type)(enc:TypeId×Value→H) :
  ReturnsInHanded {} Tryz.checked os 3 .any (Rows.recoverTwiceSpec.pre6 enc Tryz.prog Tryz.f3 Rows.recoverTwiceRow.domain false) (Rows.recoverTwiceSpec.post enc Tryz.prog Tryz.f3 false true false false):=
 iH (C:=Tryz.checked) (Ts:=ZH) (F:=Qw.f) (ts:=[24]) (tb:=4) own started (by kernel_rfl) Tryz.func3
  (ChangeSpec.witness6 (enc:=enc) (C:=Tryz.checked) false ⟨#[],#[.agg #[.int .i64 0,.slice none 0 0]],[]⟩ 8 (by kernel_rfl) (by kernel_rfl) (by kernel_rfl) (by kernel_rfl))
  (fun W hs=>trivial) laidOut k3 Tryz.params3 (by kernel_rfl) Tryz.underlying4
  (fun t ht=>by
   have h:([24].all fun t=>Tryz.prog.readableRec t&&decide (t<Tryz.prog.types.size))=true:=by kernel_rfl
   have:=List.all_eq_true.1 h t ht
   rw[Bool.and_eq_true,decide_eq_true_eq] at this
   exact this)
  ⟨by kernel_rfl,trivial⟩ rfl (fun ds hds=>by
   match ds,hds with
   | [d1],_=>rfl)
  (fun x hx=>Qh x.1.1 x.1.2 (XX hx.1.2.1) (G8 hx.1.2.2))
theorem holds:Rows.RecoverTwiceSaid:=
 OpenClaim.holds_of_wide 3 Tryz.f3 rfl rfl rfl rfl rfl rfl rfl ⟨rfl,rfl,rfl,rfl,rfl⟩ rfl rfl rfl rfl rfl (by kernel_rfl) Tryz.func3 (by kernel_rfl)
  (of_decide_eq_true (by kernel_rfl)) (by unfold Func.isWrapper;first|(rw[if_pos (by decide +kernel)];kernel_rfl)|(rw[if_neg (by decide +kernel)];exact⟨rfl,rfl⟩))
  (fun os started H enc _=>lifted os started H enc)
end Go.Proofs.YtjkplgcpgpicnaaGreat.recoverTwice
namespace Go.Proofs.YtjkplgcpgpicnaaGreat
theorem recoverTwice_holds:Rows.RecoverTwiceSaid:=recoverTwice.holds
end Go.Proofs.YtjkplgcpgpicnaaGreat
