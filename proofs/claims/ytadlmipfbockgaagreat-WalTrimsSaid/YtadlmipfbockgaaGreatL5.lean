/- Pure9_5, Eq9_5, P9_5, Law9_5. -/
import Derived.Test.YtadlmipfbockgaaGreatPU
import Derived.Test.YtadlmipfbockgaaGreatEQ
import Derived.Test.YtadlmipfbockgaaGreatFD
import Derived.Test.YtadlmipfbockgaaGreatPC
namespace Go.Proofs.Zz
open Go Go.Sy
set_option linter.unusedVariables false
set_option maxRecDepth 100000
abbrev X5_11:Type:=(Int×Unit×Unit×Int×Int×Unit)×((Int×(List (Int×(List Int)×Int))×Int×Int×Unit)×(Int×(List (Int×(List Int)×Int))×Int×Int×Unit)×Unit)×(Unit)
abbrev Y5_11:Type:=(Int×Unit×Int×Unit)×((Int×(List (Int×(List Int)×Int))×Int×Int×Unit)×Unit)×(Unit)
abbrev Z5_11:Type:=(Bool×Unit)×(Unit)×(Unit)
noncomputable def t5_11 (v1 v2 v3 v4:Int)(v5:(List (Int×(List Int)×Int)))(v6 v7 v8:Int)(v9:(List (Int×(List Int)×Int)))(v10 v11:Int):Option (R3 X5_11 Y5_11 Z5_11):=
 cond (decide (v3<(v9.length:Int))) (
  cond ((decide (0≤v3))&&(decide (v3<(v9.length:Int)))) (
   cond ((decide (0≤(IntKind.wrap .i64 (v2+v3))))&&(decide ((IntKind.wrap .i64 (v2+v3))<(v5.length:Int)))) (
    cond (!(decide ((rd (.pair (.int .i64) (.pair (.row (.int .u8)) (.int .i64))) v9 (Int.toNat v3)).1=(rd (.pair (.int .i64) (.pair (.row (.int .u8)) (.int .i64))) v5 (Int.toNat (IntKind.wrap .i64 (v2+v3)))).1))) (
     some (R3.ret ((false,()),(),()))) (
     cond ((decide (0≤v3))&&(decide (v3<(v9.length:Int)))) (
      cond ((decide (0≤(IntKind.wrap .i64 (v2+v3))))&&(decide ((IntKind.wrap .i64 (v2+v3))<(v5.length:Int)))) (
       cond (!((bytesStr (rd (.pair (.int .i64) (.pair (.row (.int .u8)) (.int .i64))) v9 (Int.toNat v3)).2.1).toList == (bytesStr (rd (.pair (.int .i64) (.pair (.row (.int .u8)) (.int .i64))) v5 (Int.toNat (IntKind.wrap .i64 (v2+v3)))).2.1).toList)) (
        some (R3.ret ((false,()),(),()))) (
        some (R3.next ((v1,(),(),v2,(IntKind.wrap .i64 (v3+1)),()),((v4,v5,v6,v7,()),(v8,v9,v10,v11,()),()),())))) (
       none)) (
      none))) (
    none)) (
   none)) (
  some (R3.out ((v1,(),v2,()),((v8,v9,v10,v11,()),()),())))
noncomputable def u5_11 (z:X5_11):Option (R3 X5_11 Y5_11 Z5_11):=t5_11 z.1.1 z.1.2.2.2.1 z.1.2.2.2.2.1 z.2.1.1.1 z.2.1.1.2.1 z.2.1.1.2.2.1 z.2.1.1.2.2.2.1 z.2.1.2.1.1 z.2.1.2.1.2.1 z.2.1.2.1.2.2.1 z.2.1.2.1.2.2.2.1
noncomputable def f5 (v1:Int)(v2:(List (Int×(List Int)×Int)))(v3 v4 v5 v6:Int):Option (Bool×Unit):=
 (f8).bind fun y7=>
 ((f9 v1 v2 v3 v4)).bind fun y8=>
 cond (!y7.1) (
  some (y7.1,())) (
  cond (!y8.1) (
   some (y7.1,())) (
   ((f11 v1 v2 v3 v4)).bind fun y9=>
   cond (!y9.1) (
    some (y7.1,())) (
    cond (decide (v6<v5)) (
     some (y7.1,())) (
     ((f16 v1 v2 v3 v4 v5)).bind fun y10=>
     ((f16 v1 v2 v3 v4 v6)).bind fun y11=>
     cond (decide ((IntKind.wrap .i64 ((v2.length:Int)-(y10.1.1.2.length:Int)))<0)) (
      some (false,())) (
      cond (decide ((y10.1.1.2.length:Int)<1)) (
       some (false,())) (
       cond (decide ((y10.1.1.2.length:Int)<(y11.1.1.2.length:Int))) (
        some (false,())) (
        cond (decide ((y11.1.1.2.length:Int)<1)) (
         some (false,())) (
         ((f16 y10.1.1.1 y10.1.1.2 y10.1.2.1 y10.1.2.2 v5)).bind fun y12=>
         ((f15 y12.1.1.1 y12.1.1.2 y12.1.2.1 y12.1.2.2 y10.1.1.1 y10.1.1.2 y10.1.2.1 y10.1.2.2)).bind fun y13=>
         cond (!y13.1) (
          some (false,())) (
          ((iter big u5_11 ((v5,(),(),(IntKind.wrap .i64 ((v2.length:Int)-(y10.1.1.2.length:Int))),0,()),((v1,v2,v3,v4,()),(y10.1.1.1,y10.1.1.2,y10.1.2.1,y10.1.2.2,()),()),()))).bind fun r=>match r with
          | .inl y14=>
            cond (decide (y14.1.2.2.1=0)) (
             some (true,())) (
             cond (decide (0<(y14.2.1.1.2.1.length:Int))) (
              ((f13 (rd (.pair (.int .i64) (.pair (.row (.int .u8)) (.int .i64))) y14.2.1.1.2.1 0).2.1)).bind fun y16=>
              cond y16.2.2.1 (
               some ((decide (y16.1.2.2.1≤(IntKind.wrap .i64 (y14.1.1-1000)))),())) (
               some (false,()))) (
              none))
          | .inr z15=>
            some (z15.1.1,()))))))))))
set_option maxHeartbeats 0
abbrev ps5:List Ty:=[.pair (.pair (.int .i64) (.row (.pair (.int .i64) (.pair (.row (.int .u8)) (.int .i64))))) (.pair (.int .i64) (.int .i64)),.int .i64,.int .i64]
abbrev rs5:List RTy:=[.val (.bool)]
noncomputable abbrev L5:List (Nat×Con):=[(8,con8),(9,con9),(11,con11),(13,con13),(15,con15),(16,con16)]
noncomputable abbrev U5:List (Nat×UCon):=[]
noncomputable abbrev C5:Cons:=lookC L5 U5
abbrev s5_11:LShape:=⟨153,[(1,.int .i64),(3,.fix (.ptr 4294967296 0)),(9,.fix (.ptr 4294987824 0)),(11,.int .i64),(12,.int .i64)],[],[(4294967296,.box 26 [.int .i64,.cont (.pair (.int .i64) (.pair (.row (.int .u8)) (.int .i64))),.int .i64,.int .i64]),(4294987824,.box 26 [.int .i64,.cont (.pair (.int .i64) (.pair (.row (.int .u8)) (.int .i64))),.int .i64,.int .i64])],[]⟩
abbrev o5_11:LShape:=⟨153,[(1,.int .i64),(9,.fix (.ptr 4294987824 0)),(11,.int .i64)],[],[(4294987824,.box 26 [.int .i64,.cont (.pair (.int .i64) (.pair (.row (.int .u8)) (.int .i64))),.int .i64,.int .i64])],[]⟩
abbrev q5_11:LShape:=⟨153,[(6,.bool)],[],[],[]⟩
noncomputable def l5_11:LSum:=⟨9,5,s5_11,0,o5_11,q5_11,u5_11,false,none,none,[]⟩
noncomputable abbrev S5:List (Nat×Nat×LSum):=[(4294967296,11,l5_11)]
noncomputable def con5:Con:=⟨ps5,rs5,fun x=>f5 x.1.1.1 x.1.1.2 x.1.2.1 x.1.2.2 x.2.1 x.2.2.1⟩
theorem r5_11:Round Tryz.prog C5 (lookS S5) big 4294967296 11 l5_11:=⟨by kernel_rfl,fun z=>by kernel_rfl⟩
theorem e5 (x:Args ps5):kTop Tryz.prog C5 (lookS S5) big 10 5 ps5 rs5 x=con5.f x:=by kernel_rfl
theorem ok5 [Glob][RngG Tryz.prog](h:AllOK Tryz.prog L5)(h':AllU Tryz.prog U5):con5.OK Tryz.prog 5:=con_of_tree (lookC_ok h h') (rounds_of (l:=S5) ⟨r5_11,trivial⟩) e5
theorem k5:con5.OK Tryz.prog 5:=ok5 ⟨k8,k9,k11,k13,k15,k16,trivial⟩ trivial
set_option linter.unusedSimpArgs false
theorem loop5 (t c:Int)(F:List FD)(no now c' no' now':Int)(n:Nat)(hn:n≤F.length)(hl:F.length≤1000000) :
  iter big u5_11 ((t,(),(),((n:Nat):Int),0,()),((c,F,no,now,()),(c',F.drop n,no',now',()),()),())=some (.inl ((t,(),((n:Nat):Int),()),((c',F.drop n,no',now',()),()),())):=by
 have k:=it_outs (u:=u5_11) (fun j=>((t,(),(),((n:Nat):Int),((j:Nat):Int),()),((c,F,no,now,()),(c',F.drop n,no',now',()),()),())) (n:=(F.drop n).length)
  (y:=((t,(),((n:Nat):Int),()),((c',F.drop n,no',now',()),()),())) (fun j hj=>by
  have hlen:(F.drop n).length=F.length-n:=List.length_drop ..
  have hlt:n+j<F.length:=by omega
  have hg:(F.drop n)[j]'hj=F[n+j]:=List.getElem_drop ..
  have ew:IntKind.wrap .i64 (((n:Nat):Int)+((j:Nat):Int))=((n+j:Nat):Int):=by rw[w64 (by omega) (by omega)];omega
  simp only[u5_11,t5_11,ltn hj,ge0,ew,ltn hlt,Bool.and_self,cond_true,Int.toNat_natCast,rdFD hj,rdFD hlt,hg,decide_true,Bool.not_true,cond_false,strEq,nx hj (show (F.drop n).length≤9223372036854775807 by omega)]) (by
  simp only[u5_11,t5_11]
  rw[nlt];rfl) (by rw[List.length_drop];omega)
 exact k
theorem f5_true (c:Int)(F:List FD)(no now t t':Int)(hl:F.length≤9223372036854775807)(hB:BytD F)(ht:t≤9223372036854775807):f5 c F no now t t'=some (true,()):=by
 obtain⟨q,h9,hq⟩:=f9_eq c F no now hl
 unfold f5
 rw[f8_eq,h9]
 simp only[Option.bind_some,Bool.not_true,cond_false]
 cases q with
 | false=>rfl
 | true=>
  have hD:=(hq rfl).sz
  simp only[Bool.not_true,cond_false]
  rw[f11_eq c F no now hD]
  simp only[Option.bind_some,Bool.not_true,cond_false]
  by_cases hm:MayW c F no now
  case neg=>rw[decide_eq_false hm];rfl
  rw[decide_eq_true hm]
  simp only[Bool.not_true,cond_false]
  by_cases htt:t'<t
  ·rw[decide_eq_true htt];rfl
  rw[decide_eq_false htt,f16_eq c F no now t hD hB,f16_eq c F no now t' hD hB,if_pos hm,if_pos hm]
  have hlD:=hD.1
  have hne:F≠[]:=fun k=>by have:=hm.2.1;rw[k] at this;simp[lastN] at this
  obtain⟨a1,a2,a3⟩:=trimF_len t F hne
  obtain⟨b1,b2,b3⟩:=trimF_len t' F hne
  have hmono:=trimF_mono (show t≤t' by omega) F
  have hmA:=trim_may t hm
  have hDA:SzD (trimF t F):=mayD_Sz hmA.1
  have hBA:BytD (trimF t F):=fun f hf=>by rw[a3] at hf;exact hB f (List.mem_of_mem_drop hf)
  have hself:=same_self c (trimF t F) no now hDA
  have ew:IntKind.wrap .i64 (((F.length:Nat):Int)-((trimF t F).length:Int))=((F.length-(trimF t F).length:Nat):Int):=by rw[w64 (by omega) (by omega)];omega
  have hloop:=loop5 t c F no now c no now (F.length-(trimF t F).length) (by omega) (by omega)
  rw[← a3] at hloop
  simp only[Option.bind_some,cond_false,ew,decide_eq_false (show ¬ ((F.length-(trimF t F).length:Nat):Int)<0 by omega),decide_eq_false (show ¬ (((trimF t F).length:Nat):Int)<1 by omega),decide_eq_false (show ¬ (((trimF t F).length:Nat):Int)<(((trimF t' F).length:Nat):Int) by omega),decide_eq_false (show ¬ (((trimF t' F).length:Nat):Int)<1 by omega),
   f16_eq c (trimF t F) no now t hDA hBA,if_pos hmA,trimF_idem,hself,Bool.not_true,hloop]
  by_cases h0:F.length-(trimF t F).length=0
  ·rw[decide_eq_true (by omega)];rfl
  ·rw[decide_eq_false (by omega)]
   rcases trimF_head t F with h|⟨g,q,h,hg⟩
   ·rw[h] at h0;omega
   ·have e0:rd (.pair (.int .i64) (.pair (.row (.int .u8)) (.int .i64))) (trimF t F) 0=g:=by rw[h];rfl
    have hgm:g∈trimF t F:=by rw[h];exact List.mem_cons_self ..
    have hf13:=f13_byt (hBA g hgm) (hDA.2 g hgm)
    unfold goesB at hg
    cases hf:firstD g.2.1 with
    | none=>rw[hf] at hg;cases hg
    | some y=>
     rw[hf] at hg hf13
     simp only[decide_eq_true_eq] at hg
     have hM:=(firstD_may (hBA g hgm) (s:=y.1) (n:=y.2) hf).1
     have:=hM.now0
     simp only[cond_false,decide_eq_true (show (0:Int)<(((trimF t F).length:Nat):Int) by omega),cond_true,e0,hf13,Option.bind_some,firstO]
     have ht2:IntKind.wrap .i64 (t-1000)=t-1000:=w64 (by omega) (by omega)
     rw[ht2,decide_eq_true (show y.1.2.2.1≤t-1000 by omega)]
end Go.Proofs.Zz
namespace Go.Proofs.YtadlmipfbockgaaGreat.walTrims
open Go Go.Sy Go.RowKit Go.Proofs.Zz Go.ChangeShapes
set_option linter.unusedVariables false
set_option maxRecDepth 100000
theorem lifted (os:Os)(started:os.Started)(H:Type)(enc:TypeId×Value→H) :
  ReturnsInHanded {} Tryz.checked os 5 .any (Rows.walTrimsSpec.pre6 enc Tryz.prog Tryz.f5 Rows.walTrimsRow.domain false) (Rows.walTrimsSpec.post enc Tryz.prog Tryz.f5 false true false false):=
 law_lifted6 (C:=Tryz.checked) (Ts:=ps5) (F:=con5.f) (ts:=[26,3,3]) (tb:=4) own started (by kernel_rfl) Tryz.func5
  (ChangeSpec.witness6 (enc:=enc) (C:=Tryz.checked) false ⟨#[],#[.agg #[.int .i64 0,.slice none 0 0,.int .i64 0,.int .i64 0],.int .i64 0,.int .i64 0],[]⟩ 8 (by kernel_rfl) (by kernel_rfl) (by kernel_rfl) (by kernel_rfl))
  (fun W hs=>trivial) laidOut k5 Tryz.params5 (by kernel_rfl) Tryz.underlying4
  (fun t ht=>by
   have h:([26,3,3].all fun t=>Tryz.prog.readableRec t&&decide (t<Tryz.prog.types.size))=true:=by kernel_rfl
   have:=List.all_eq_true.1 h t ht
   rw[Bool.and_eq_true,decide_eq_true_eq] at this
   exact this)
  ⟨by kernel_rfl,by kernel_rfl,by kernel_rfl,trivial⟩ rfl (fun ds hds=>by
   match ds,hds with
   | [d1,d2,d3],_=>rfl)
  (fun x hx=>f5_true x.1.1.1 x.1.1.2 x.1.2.1 x.1.2.2 x.2.1 x.2.2.1 (lenW hx.1.1.2.1) (bytD_of hx.1.1.2.2) (int64W hx.2.1))
theorem holds:Rows.WalTrimsSaid:=
 OpenClaim.holds_of_wide 5 Tryz.f5 rfl rfl rfl rfl rfl rfl rfl ⟨rfl,rfl,rfl,rfl,rfl⟩ rfl rfl rfl rfl rfl (by kernel_rfl) Tryz.func5 (by kernel_rfl)
  (of_decide_eq_true (by kernel_rfl)) (by unfold Func.isWrapper;first|(rw[if_pos (by decide +kernel)];kernel_rfl)|(rw[if_neg (by decide +kernel)];exact⟨rfl,rfl⟩))
  (fun os started H enc _=>lifted os started H enc)
end Go.Proofs.YtadlmipfbockgaaGreat.walTrims
namespace Go.Proofs.YtadlmipfbockgaaGreat
theorem walTrims_holds:Rows.WalTrimsSaid:=walTrims.holds
end Go.Proofs.YtadlmipfbockgaaGreat
