/- Pure17_4, Eq17_4, P17_4, Law17_4. -/
import Derived.Test.YtjkplgcpgpicnaaGreatPU
import Derived.Test.YtjkplgcpgpicnaaGreatEQ
import Derived.Test.YtjkplgcpgpicnaaGreatFD
import Derived.Test.YtjkplgcpgpicnaaGreatPD
namespace Go.Proofs.Zz
open Go Go.Sy
set_option linter.unusedVariables false
set_option maxRecDepth 100000
noncomputable def f4 (v1:(List Int)):Option (Bool×Unit):=
 (f7).bind fun y2=>
 cond (!y2.1) (
  some (y2.1,())) (
  cond (decide (3000<(v1.length:Int))) (
   some (y2.1,())) (
   ((f14 v1)).bind fun y3=>
   ((f15 v1)).bind fun y4=>
   ((f16 v1)).bind fun y5=>
   cond (!(y3.2.2.1 == y4.2.1)) (
    some (false,())) (
    cond (!(y3.2.2.1 == y5.2.1)) (
     some (false,())) (
     cond (decide (y5.1<0)) (
      some (false,())) (
      cond (decide ((v1.length:Int)<y5.1)) (
       some (false,())) (
       ((f18 v1)).bind fun y6=>
       ((f17 y3.1.1.1.1 y3.1.1.1.2 y3.1.1.2.1.1 y3.1.1.2.1.2 y3.1.1.2.2.1 y3.1.1.2.2.2.1 y3.1.1.2.2.2.2.1 y3.1.1.2.2.2.2.2 y3.1.2.1.1 y3.1.2.1.2.1 y3.1.2.1.2.2.1 y3.1.2.1.2.2.2 y3.1.2.2.1 y3.1.2.2.2.1 y3.1.2.2.2.2.1 y3.1.2.2.2.2.2 y6.1)).bind fun y7=>
       cond (!y3.2.2.1) (
        some (true,())) (
        cond (decide (y7.2.1=0)) (
         ((f13 y7.1.1.1.1 y7.1.1.1.2 y7.1.1.2.1.1 y7.1.1.2.1.2 y7.1.1.2.2.1 y7.1.1.2.2.2.1 y7.1.1.2.2.2.2.1 y7.1.1.2.2.2.2.2 y7.1.2.1.1 y7.1.2.1.2.1 y7.1.2.1.2.2.1 y7.1.2.1.2.2.2 y7.1.2.2.1 y7.1.2.2.2.1 y7.1.2.2.2.2.1 y7.1.2.2.2.2.2 y4.1.1.1.1 y4.1.1.1.2 y4.1.1.2.1.1 y4.1.1.2.1.2 y4.1.1.2.2.1 y4.1.1.2.2.2.1 y4.1.1.2.2.2.2.1 y4.1.1.2.2.2.2.2 y4.1.2.1.1 y4.1.2.1.2.1 y4.1.2.1.2.2.1 y4.1.2.1.2.2.2 y4.1.2.2.1 y4.1.2.2.2.1 y4.1.2.2.2.2.1 y4.1.2.2.2.2.2)).bind fun y8=>
         some (y8.1,())) (
         some (false,())))))))))
set_option maxHeartbeats 0
abbrev ZW:List Ty:=[.row (.int .u8)]
abbrev rs4:List dM:=[.val (.bool)]
noncomputable abbrev L4:List (Nat×aS):=[(7,Nu),(13,GF),(14,LU),(15,OQ),(16,Cn),(17,M6),(18,Gx)]
noncomputable abbrev U4:List (Nat×bI):=[]
noncomputable abbrev C4:Cons:=xI L4 U4
noncomputable abbrev S4:List (Nat×Nat×aK):=[]
noncomputable def Q0:aS:=⟨ZW,rs4,fun x=>f4 x.1⟩
theorem e4 (x:cS ZW):Fh Tryz.prog C4 (kN S4) aA 10 4 ZW rs4 x=Q0.f x:=by kernel_rfl
theorem ok4 [aq][BP Tryz.prog](h:r7 Tryz.prog L4)(h':CF Tryz.prog U4):Q0.OK Tryz.prog 4:=aa (ak h h') (ah (l:=S4) trivial) e4
theorem k4:Q0.OK Tryz.prog 4:=ok4 ⟨k7,k13,k14,k15,ZK,k17,k18,trivial⟩ trivial
set_option linter.unusedSimpArgs false
theorem Py (xs:List Int)(hB:Qr xs):f4 xs=some (true,()):=by
 obtain⟨b,rfl,hb⟩:=hB
 unfold f4
 rw[Ig]
 simp only[Option.bind_some,Bool.not_true,cond_false,aC]
 by_cases hl:b.length≤3000
 case neg=>rw[decide_eq_true (by omega)];rfl
 rw[decide_eq_false (by omega)]
 obtain⟨o,ho,h25⟩:=fU b hb (by omega)
 rw[Er b hb (by omega),Ud h25,uP h25,zi h25]
 cases ho with
 | bad h=>
  rw[h]
  have h17:=EA lI [] (by refine⟨?_,?_,?_⟩<;>simp[lI]) (by simp)
  simp only[cond_false,Option.bind_some,EI,bg,beq_self_eq_true,Bool.not_true,decide_eq_false (Int.lt_irrefl 0),decide_eq_false (show ¬ ((b.length:Nat):Int)<0 by omega),h17,Bool.not_false,cond_true]
 | @good s n r l h hr=>
  rw[h]
  obtain⟨hM,_,hn⟩:=gW hb h
  have hle:=Reads.le bU eC hb hr
  have hr2:=hle.2.1 hn
  have hg:=Li hr
  have hall:dh s l=(r.1,0):=by unfold dh;rw[hg];rfl
  have h17:=EA s l hM.ZO (by have:=hle.2.2;omega)
  rw[hall] at h17
  have h13:=MC r.1 r.1 (xo hr hM).sm
  simp only[cond_false,Option.bind_some,EI,bg,beq_self_eq_true,Bool.not_true,decide_eq_false (show ¬ ((r.2:Nat):Int)<0 by omega),decide_eq_false (show ¬ ((b.length:Nat):Int)<((r.2:Nat):Int) by omega),h17,decide_true,cond_true,h13]
end Go.Proofs.Zz
namespace Go.Proofs.YtjkplgcpgpicnaaGreat.recoverLast
open Go Go.Sy Go.RowKit Go.Proofs.Zz Go.ChangeShapes
set_option linter.unusedVariables false
set_option maxRecDepth 100000
theorem lifted (os:Os)(started:os.Started)(H:Type)(enc:TypeId×Value→H) :
  ReturnsInHanded {} Tryz.checked os 4 .any (Rows.recoverLastSpec.pre6 enc Tryz.prog Tryz.f4 Rows.recoverLastRow.domain false) (Rows.recoverLastSpec.post enc Tryz.prog Tryz.f4 false true false false):=
 iH (C:=Tryz.checked) (Ts:=ZW) (F:=Q0.f) (ts:=[47]) (tb:=4) own started (by kernel_rfl) Tryz.func4
  (ChangeSpec.witness6 (enc:=enc) (C:=Tryz.checked) false ⟨#[],#[.slice none 0 0],[]⟩ 8 (by kernel_rfl) (by kernel_rfl) (by kernel_rfl) (by kernel_rfl))
  (fun W hs=>trivial) laidOut k4 Tryz.params4 (by kernel_rfl) Tryz.underlying4
  (fun t ht=>by
   have h:([47].all fun t=>Tryz.prog.readableRec t&&decide (t<Tryz.prog.types.size))=true:=by kernel_rfl
   have:=List.all_eq_true.1 h t ht
   rw[Bool.and_eq_true,decide_eq_true_eq] at this
   exact this)
  ⟨by kernel_rfl,trivial⟩ rfl (fun ds hds=>by
   match ds,hds with
   | [d1],_=>rfl)
  (fun x hx=>Py x.1 (Bb hx.1.2))
theorem holds:Rows.RecoverLastSaid:=
 OpenClaim.holds_of_wide 4 Tryz.f4 rfl rfl rfl rfl rfl rfl rfl ⟨rfl,rfl,rfl,rfl,rfl⟩ rfl rfl rfl rfl rfl (by kernel_rfl) Tryz.func4 (by kernel_rfl)
  (of_decide_eq_true (by kernel_rfl)) (by unfold Func.isWrapper;first|(rw[if_pos (by decide +kernel)];kernel_rfl)|(rw[if_neg (by decide +kernel)];exact⟨rfl,rfl⟩))
  (fun os started H enc _=>lifted os started H enc)
end Go.Proofs.YtjkplgcpgpicnaaGreat.recoverLast
namespace Go.Proofs.YtjkplgcpgpicnaaGreat
theorem recoverLast_holds:Rows.RecoverLastSaid:=recoverLast.holds
end Go.Proofs.YtjkplgcpgpicnaaGreat
