/- Pure9_3, Eq9_3, P9_3, Law9_3. -/
import Derived.Test.YtadlmipfbockgaaGreatPU
import Derived.Test.YtadlmipfbockgaaGreatEQ
import Derived.Test.YtadlmipfbockgaaGreatFD
import Derived.Test.YtadlmipfbockgaaGreatPC
namespace Go.Proofs.Zz
open Go Go.Sy
set_option linter.unusedVariables false
set_option maxRecDepth 100000
abbrev X3_13:Type:=(Unit×Unit×Int×Int×Unit)×((Int×(List (Int×(List Int)×Int))×Int×Int×Unit)×(Int×(List (Int×(List Int)×Int))×Int×Int×Unit)×Unit)×(Unit)
abbrev Y3_13:Type:=(Unit×Int×Unit)×((Int×(List (Int×(List Int)×Int))×Int×Int×Unit)×Unit)×(Unit)
abbrev Z3_13:Type:=(Bool×Unit)×(Unit)×(Unit)
noncomputable def t3_13 (v1 v2 v3:Int)(v4:(List (Int×(List Int)×Int)))(v5 v6 v7:Int)(v8:(List (Int×(List Int)×Int)))(v9 v10:Int):Option (R3 X3_13 Y3_13 Z3_13):=
 cond (decide (v2<v1)) (
  cond ((decide (0≤v2))&&(decide (v2<(v8.length:Int)))) (
   cond ((decide (0≤v2))&&(decide (v2<(v4.length:Int)))) (
    cond (!(decide ((rd (.pair (.int .i64) (.pair (.row (.int .u8)) (.int .i64))) v8 (Int.toNat v2)).1=(rd (.pair (.int .i64) (.pair (.row (.int .u8)) (.int .i64))) v4 (Int.toNat v2)).1))) (
     some (R3.ret ((false,()),(),()))) (
     cond ((decide (0≤v2))&&(decide (v2<(v8.length:Int)))) (
      cond ((decide (0≤v2))&&(decide (v2<(v4.length:Int)))) (
       cond (!((bytesStr (rd (.pair (.int .i64) (.pair (.row (.int .u8)) (.int .i64))) v8 (Int.toNat v2)).2.1).toList == (bytesStr (rd (.pair (.int .i64) (.pair (.row (.int .u8)) (.int .i64))) v4 (Int.toNat v2)).2.1).toList)) (
        some (R3.ret ((false,()),(),()))) (
        cond ((decide (0≤v2))&&(decide (v2<(v8.length:Int)))) (
         cond ((decide (0≤v2))&&(decide (v2<(v4.length:Int)))) (
          cond (!(decide ((rd (.pair (.int .i64) (.pair (.row (.int .u8)) (.int .i64))) v8 (Int.toNat v2)).2.2=(rd (.pair (.int .i64) (.pair (.row (.int .u8)) (.int .i64))) v4 (Int.toNat v2)).2.2))) (
           some (R3.ret ((false,()),(),()))) (
           some (R3.next (((),(),v1,(IntKind.wrap .i64 (v2+1)),()),((v3,v4,v5,v6,()),(v7,v8,v9,v10,()),()),())))) (
          none)) (
         none))) (
       none)) (
      none))) (
    none)) (
   none)) (
  some (R3.out (((),v1,()),((v7,v8,v9,v10,()),()),())))
noncomputable def u3_13 (z:X3_13):Option (R3 X3_13 Y3_13 Z3_13):=t3_13 z.1.2.2.1 z.1.2.2.2.1 z.2.1.1.1 z.2.1.1.2.1 z.2.1.1.2.2.1 z.2.1.1.2.2.2.1 z.2.1.2.1.1 z.2.1.2.1.2.1 z.2.1.2.1.2.2.1 z.2.1.2.1.2.2.2.1
noncomputable def f3 (v1:Int)(v2:(List (Int×(List Int)×Int)))(v3 v4 v5 v6 v7 v8 v9 v10 v11 v12 v13 v14 v15:Int)(v16:Bool)(v17:Int)(v18:(List (Int×Int×Int)))(v19:(List (Int×Int×Int×Int×Int)))(v20:(List (Int×Int×Int))):Option (Bool×Unit):=
 (f8).bind fun y21=>
 ((f9 v1 v2 v3 v4)).bind fun y22=>
 ((f10 v5 v6 v7 v8 v9 v10 v11 v12 v13 v14 v15 v16 v17 v18 v19 v20)).bind fun y23=>
 cond (!y21.1) (
  some (y21.1,())) (
  cond (!y22.1) (
   some (y21.1,())) (
   cond (!y23.1) (
    some (y21.1,())) (
    ((f11 v1 v2 v3 v4)).bind fun y24=>
    cond (!y24.1) (
     some (y21.1,())) (
     ((f12 v1 v2 v5 v6 v7 v8 v9 v10 v11 v12 v13 v14 v15 v16 v17 v18 v19 v20)).bind fun y25=>
     cond (!(decide (y25.2.1=0))) (
      cond (decide ((y25.1.1.2.length:Int)=0)) (
       cond (decide (y25.1.2.1=0)) (
        some ((decide (y25.1.2.2=0)),())) (
        some (false,()))) (
       some (false,()))) (
      cond (!(decide ((y25.1.1.2.length:Int)=(IntKind.wrap .i64 ((v2.length:Int)+1))))) (
       some (false,())) (
       cond (!(decide (y25.1.2.1=(IntKind.wrap .i64 (v3+1))))) (
        some (false,())) (
        cond (!(decide (y25.1.2.2=v17))) (
         some (false,())) (
         ((f11 y25.1.1.1 y25.1.1.2 y25.1.2.1 y25.1.2.2)).bind fun y26=>
         cond (!y26.1) (
          some (false,())) (
          ((iter big u3_13 (((),(),(v2.length:Int),0,()),((v1,v2,v3,v4,()),(y25.1.1.1,y25.1.1.2,y25.1.2.1,y25.1.2.2,()),()),()))).bind fun r=>match r with
          | .inl y27=>
            cond ((decide (0≤y27.1.2.1))&&(decide (y27.1.2.1<(y27.2.1.1.2.1.length:Int)))) (
             ((f13 (rd (.pair (.int .i64) (.pair (.row (.int .u8)) (.int .i64))) y27.2.1.1.2.1 (Int.toNat y27.1.2.1)).2.1)).bind fun y29=>
             cond y29.2.2.1 (
              cond ((decide (0≤y27.1.2.1))&&(decide (y27.1.2.1<(y27.2.1.1.2.1.length:Int)))) (
               cond (decide (y29.2.1=(((rd (.pair (.int .i64) (.pair (.row (.int .u8)) (.int .i64))) y27.2.1.1.2.1 (Int.toNat y27.1.2.1)).2.1.length:Nat):Int))) (
                cond ((decide (0≤y27.1.2.1))&&(decide (y27.1.2.1<(y27.2.1.1.2.1.length:Int)))) (
                 some ((decide ((rd (.pair (.int .i64) (.pair (.row (.int .u8)) (.int .i64))) y27.2.1.1.2.1 (Int.toNat y27.1.2.1)).2.2=y29.2.1)),())) (
                 none)) (
                some (false,()))) (
               none)) (
              some (false,()))) (
             none)
          | .inr z28=>
            some (z28.1.1,()))))))))))
set_option maxHeartbeats 0
abbrev ps3:List Ty:=[.pair (.pair (.int .i64) (.row (.pair (.int .i64) (.pair (.row (.int .u8)) (.int .i64))))) (.pair (.int .i64) (.int .i64)),.pair (.pair (.pair (.int .i64) (.int .i64)) (.pair (.pair (.int .i64) (.int .i64)) (.pair (.int .i64) (.pair (.int .i64) (.pair (.int .i64) (.int .i64)))))) (.pair (.pair (.int .i64) (.pair (.int .i64) (.pair (.int .i64) (.bool)))) (.pair (.int .i64) (.pair (.row (.pair (.int .i64) (.pair (.int .i64) (.int .i64)))) (.pair (.row (.pair (.int .i64) (.pair (.int .i64) (.pair (.int .i64) (.pair (.int .i64) (.int .i64)))))) (.row (.pair (.int .i64) (.pair (.int .i64) (.int .i64))))))))]
abbrev rs3:List RTy:=[.val (.bool)]
noncomputable abbrev L3:List (Nat×Con):=[(8,con8),(9,con9),(10,con10),(11,con11),(12,con12),(13,con13)]
noncomputable abbrev U3:List (Nat×UCon):=[]
noncomputable abbrev C3:Cons:=lookC L3 U3
abbrev s3_13:LShape:=⟨183,[(2,.fix (.ptr 4294967296 0)),(8,.fix (.ptr 4294991984 0)),(10,.int .i64),(11,.int .i64)],[],[(4294967296,.box 26 [.int .i64,.cont (.pair (.int .i64) (.pair (.row (.int .u8)) (.int .i64))),.int .i64,.int .i64]),(4294991984,.box 26 [.int .i64,.cont (.pair (.int .i64) (.pair (.row (.int .u8)) (.int .i64))),.int .i64,.int .i64])],[]⟩
abbrev o3_13:LShape:=⟨183,[(8,.fix (.ptr 4294991984 0)),(10,.int .i64)],[],[(4294991984,.box 26 [.int .i64,.cont (.pair (.int .i64) (.pair (.row (.int .u8)) (.int .i64))),.int .i64,.int .i64])],[]⟩
abbrev q3_13:LShape:=⟨183,[(4,.bool)],[],[],[]⟩
noncomputable def l3_13:LSum:=⟨9,3,s3_13,0,o3_13,q3_13,u3_13,false,none,none,[]⟩
noncomputable abbrev S3:List (Nat×Nat×LSum):=[(4294967296,13,l3_13)]
noncomputable def con3:Con:=⟨ps3,rs3,fun x=>f3 x.1.1.1 x.1.1.2 x.1.2.1 x.1.2.2 x.2.1.1.1.1 x.2.1.1.1.2 x.2.1.1.2.1.1 x.2.1.1.2.1.2 x.2.1.1.2.2.1 x.2.1.1.2.2.2.1 x.2.1.1.2.2.2.2.1 x.2.1.1.2.2.2.2.2 x.2.1.2.1.1 x.2.1.2.1.2.1 x.2.1.2.1.2.2.1 x.2.1.2.1.2.2.2 x.2.1.2.2.1 x.2.1.2.2.2.1 x.2.1.2.2.2.2.1 x.2.1.2.2.2.2.2⟩
theorem r3_13:Round Tryz.prog C3 (lookS S3) big 4294967296 13 l3_13:=⟨by kernel_rfl,fun z=>by kernel_rfl⟩
theorem e3 (x:Args ps3):kTop Tryz.prog C3 (lookS S3) big 10 3 ps3 rs3 x=con3.f x:=by kernel_rfl
theorem ok3 [Glob][RngG Tryz.prog](h:AllOK Tryz.prog L3)(h':AllU Tryz.prog U3):con3.OK Tryz.prog 3:=con_of_tree (lookC_ok h h') (rounds_of (l:=S3) ⟨r3_13,trivial⟩) e3
theorem k3:con3.OK Tryz.prog 3:=ok3 ⟨k8,k9,k10,k11,k12,k13,trivial⟩ trivial
set_option linter.unusedSimpArgs false
theorem loop3 (c:Int)(F:List FD)(no now c' no' now':Int)(x:FD)(hl:F.length≤1000000) :
  iter big u3_13 (((),(),((F.length:Nat):Int),0,()),((c,F,no,now,()),(c',F++[x],no',now',()),()),())=some (.inl (((),((F.length:Nat):Int),()),((c',F++[x],no',now',()),()),())):=by
 have k:=it_outs (u:=u3_13) (fun j=>(((),(),((F.length:Nat):Int),((j:Nat):Int),()),((c,F,no,now,()),(c',F++[x],no',now',()),()),())) (n:=F.length)
  (y:=(((),((F.length:Nat):Int),()),((c',F++[x],no',now',()),()),())) (fun j hj=>by
  have hlt:j<(F++[x]).length:=by rw[List.length_append];omega
  have hg:(F++[x])[j]'hlt=F[j]:=List.getElem_append_left hj
  simp only[u3_13,t3_13,ltn hj,ge0,ltn hlt,Bool.and_self,cond_true,Int.toNat_natCast,rdFD hj,rdFD hlt,hg,decide_true,Bool.not_true,cond_false,strEq,nx hj (show F.length≤9223372036854775807 by omega)]) (by
  simp only[u3_13,t3_13]
  rw[nlt];rfl) (by omega)
 exact k
theorem f3_true (c:Int)(F:List FD)(no now:Int)(s:ST)(hl:F.length≤9223372036854775807) :
  f3 c F no now s.1.1.1 s.1.1.2 s.1.2.1.1 s.1.2.1.2 s.1.2.2.1 s.1.2.2.2.1 s.1.2.2.2.2.1 s.1.2.2.2.2.2 s.2.1.1 s.2.1.2.1 s.2.1.2.2.1 s.2.1.2.2.2 s.2.2.1 s.2.2.2.1 s.2.2.2.2.1 s.2.2.2.2.2=some (true,()):=by
 obtain⟨q,h9,hq⟩:=f9_eq c F no now hl
 unfold f3
 rw[f8_eq,h9,f10_eq s]
 simp only[Option.bind_some,Bool.not_true,cond_false]
 cases q with
 | false=>rfl
 | true=>
  have hD:=(hq rfl).sz
  simp only[Bool.not_true,cond_false]
  by_cases hs:Few s
  case neg=>rw[decide_eq_false hs];rfl
  rw[decide_eq_true hs,f11_eq c F no now hD]
  simp only[Option.bind_some,Bool.not_true,cond_false]
  by_cases hm:MayW c F no now
  case neg=>rw[decide_eq_false hm];rfl
  rw[decide_eq_true hm,f12_eq c F s hD hs.sm]
  simp only[Option.bind_some,Bool.not_true,cond_false]
  by_cases he:newE c F s=0
  case neg=>
   rw[newW_no he]
   simp only[decide_eq_false he,Bool.not_false,cond_true]
   rfl
  rw[newW_ok he]
  obtain⟨M,hS,hmD,hl',h12,hr⟩:=newE_zero he
  have hno:=hm.2.2.1
  have hlD:=hD.1
  have hL:=lastN_le hmD
  have hg:(newF F s)[F.length]'(by rw[newF_len];omega)=(lastN F+1,ints (newR s),((newR s).length:Int)):=get_snoc F _
  have hlt:F.length<(newF F s).length:=by rw[newF_len];omega
  have hloop:=loop3 c F no now c (lastN F+1) s.2.2.1 (lastN F+1,ints (newR s),((newR s).length:Int)) (by omega)
  have hF:F++[(lastN F+1,ints (newR s),((newR s).length:Int))]=newF F s:=rfl
  rw[hF] at hloop
  have e1:IntKind.wrap .i64 (((F.length:Nat):Int)+1)=(((newF F s).length:Nat):Int):=by rw[newF_len,w64 (by omega) (by omega)];omega
  have e2:IntKind.wrap .i64 (no+1)=lastN F+1:=by rw[w64 (by omega) (by omega)];omega
  simp only[decide_true,Bool.not_true,cond_false,e1,e2,f11_eq c (newF F s) (lastN F+1) s.2.2.1 (newF_sz he),decide_eq_true (newF_mayW he),Option.bind_some,hloop,ge0,ltn hlt,Bool.and_self,cond_true,Int.toNat_natCast,rdFD hlt,hg,f13_new M hS,ints_len]
end Go.Proofs.Zz
namespace Go.Proofs.YtadlmipfbockgaaGreat.walNew
open Go Go.Sy Go.RowKit Go.Proofs.Zz Go.ChangeShapes
set_option linter.unusedVariables false
set_option maxRecDepth 100000
theorem lifted (os:Os)(started:os.Started)(H:Type)(enc:TypeId×Value→H) :
  ReturnsInHanded {} Tryz.checked os 3 .any (Rows.walNewSpec.pre6 enc Tryz.prog Tryz.f3 Rows.walNewRow.domain false) (Rows.walNewSpec.post enc Tryz.prog Tryz.f3 false true false false):=
 law_lifted6 (C:=Tryz.checked) (Ts:=ps3) (F:=con3.f) (ts:=[26,37]) (tb:=4) own started (by kernel_rfl) Tryz.func3
  (ChangeSpec.witness6 (enc:=enc) (C:=Tryz.checked) false ⟨#[],#[.agg #[.int .i64 0,.slice none 0 0,.int .i64 0,.int .i64 0],.agg #[.int .i64 0,.int .i64 0,.int .i64 0,.int .i64 0,.int .i64 0,.int .i64 0,.int .i64 0,.int .i64 0,.int .i64 0,.int .i64 0,.int .i64 0,.bool false,.int .i64 0,.slice none 0 0,.slice none 0 0,.slice none 0 0]],[]⟩ 8 (by kernel_rfl) (by kernel_rfl) (by kernel_rfl) (by kernel_rfl))
  (fun W hs=>trivial) laidOut k3 Tryz.params3 (by kernel_rfl) Tryz.underlying4
  (fun t ht=>by
   have h:([26,37].all fun t=>Tryz.prog.readableRec t&&decide (t<Tryz.prog.types.size))=true:=by kernel_rfl
   have:=List.all_eq_true.1 h t ht
   rw[Bool.and_eq_true,decide_eq_true_eq] at this
   exact this)
  ⟨by kernel_rfl,by kernel_rfl,trivial⟩ rfl (fun ds hds=>by
   match ds,hds with
   | [d1,d2],_=>rfl)
  (fun x hx=>f3_true x.1.1.1 x.1.1.2 x.1.2.1 x.1.2.2 x.2.1 (lenW hx.1.1.2.1))
theorem holds:Rows.WalNewSaid:=
 OpenClaim.holds_of_wide 3 Tryz.f3 rfl rfl rfl rfl rfl rfl rfl ⟨rfl,rfl,rfl,rfl,rfl⟩ rfl rfl rfl rfl rfl (by kernel_rfl) Tryz.func3 (by kernel_rfl)
  (of_decide_eq_true (by kernel_rfl)) (by unfold Func.isWrapper;first|(rw[if_pos (by decide +kernel)];kernel_rfl)|(rw[if_neg (by decide +kernel)];exact⟨rfl,rfl⟩))
  (fun os started H enc _=>lifted os started H enc)
end Go.Proofs.YtadlmipfbockgaaGreat.walNew
namespace Go.Proofs.YtadlmipfbockgaaGreat
theorem walNew_holds:Rows.WalNewSaid:=walNew.holds
end Go.Proofs.YtadlmipfbockgaaGreat
