/- Pure9_4, Eq9_4, P9_4, Law9_4. -/
import Derived.Test.YtadlmipfbockgaaGreatPU
import Derived.Test.YtadlmipfbockgaaGreatEQ
import Derived.Test.YtadlmipfbockgaaGreatFD
import Derived.Test.YtadlmipfbockgaaGreatPC
namespace Go.Proofs.Zz
open Go Go.Sy
set_option linter.unusedVariables false
set_option maxRecDepth 100000
noncomputable def f4 (v1:Int)(v2:(List (Int×(List Int)×Int)))(v3 v4 v5 v6 v7 v8 v9 v10 v11 v12 v13 v14 v15:Int)(v16:Bool)(v17:Int)(v18:(List (Int×Int×Int)))(v19:(List (Int×Int×Int×Int×Int)))(v20:(List (Int×Int×Int))):Option (Bool×Unit):=
 (f8).bind fun y21=>
 ((f9 v1 v2 v3 v4)).bind fun y22=>
 ((f10 v5 v6 v7 v8 v9 v10 v11 v12 v13 v14 v15 v16 v17 v18 v19 v20)).bind fun y23=>
 cond (!y21.1) (
  some (y21.1,())) (
  cond (!y22.1) (
   some (y21.1,())) (
   cond (!y23.1) (
    some (y21.1,())) (
    ((f11 v1 v2 v3 v4)).bind fun y24=>
    cond (!y24.1) (
     some (y21.1,())) (
     cond (decide ((v2.length:Int)=0)) (
      some (y21.1,())) (
      cond ((decide (0≤(IntKind.wrap .i64 ((v2.length:Int)-1))))&&(decide ((IntKind.wrap .i64 ((v2.length:Int)-1))<(v2.length:Int)))) (
       ((f14 v1 v2 v3 v4 v5 v6 v7 v8 v9 v10 v11 v12 v13 v14 v15 v16 v17 v18 v19 v20)).bind fun y25=>
       ((f12 v1 v2 v5 v6 v7 v8 v9 v10 v11 v12 v13 v14 v15 v16 v17 v18 v19 v20)).bind fun y26=>
       cond (!(decide (300≤(((rd (.pair (.int .i64) (.pair (.row (.int .u8)) (.int .i64))) v2 (Int.toNat (IntKind.wrap .i64 ((v2.length:Int)-1)))).2.1.length:Nat):Int)))) (
        cond (decide (y25.2.1=0)) (
         ((f15 y25.1.1.1 y25.1.1.2 y25.1.2.1 y25.1.2.2 v1 v2 v3 v4)).bind fun y27=>
         some (y27.1,())) (
         some (false,()))) (
        cond (decide (y25.2.1=y26.2.1)) (
         cond (!(decide (y25.2.1=0))) (
          ((f15 y25.1.1.1 y25.1.1.2 y25.1.2.1 y25.1.2.2 v1 v2 v3 v4)).bind fun y28=>
          cond y28.1 (
           some (true,())) (
           cond (decide (y25.2.1=0)) (
            ((f15 y25.1.1.1 y25.1.1.2 y25.1.2.1 y25.1.2.2 y26.1.1.1 y26.1.1.2 y26.1.2.1 y26.1.2.2)).bind fun y29=>
            some (y29.1,())) (
            some (false,())))) (
          cond (decide (y25.2.1=0)) (
           ((f15 y25.1.1.1 y25.1.1.2 y25.1.2.1 y25.1.2.2 y26.1.1.1 y26.1.1.2 y26.1.2.1 y26.1.2.2)).bind fun y30=>
           some (y30.1,())) (
           some (false,())))) (
         some (false,())))) (
       none))))))
set_option maxHeartbeats 0
abbrev ps4:List Ty:=[.pair (.pair (.int .i64) (.row (.pair (.int .i64) (.pair (.row (.int .u8)) (.int .i64))))) (.pair (.int .i64) (.int .i64)),.pair (.pair (.pair (.int .i64) (.int .i64)) (.pair (.pair (.int .i64) (.int .i64)) (.pair (.int .i64) (.pair (.int .i64) (.pair (.int .i64) (.int .i64)))))) (.pair (.pair (.int .i64) (.pair (.int .i64) (.pair (.int .i64) (.bool)))) (.pair (.int .i64) (.pair (.row (.pair (.int .i64) (.pair (.int .i64) (.int .i64)))) (.pair (.row (.pair (.int .i64) (.pair (.int .i64) (.pair (.int .i64) (.pair (.int .i64) (.int .i64)))))) (.row (.pair (.int .i64) (.pair (.int .i64) (.int .i64))))))))]
abbrev rs4:List RTy:=[.val (.bool)]
noncomputable abbrev L4:List (Nat×Con):=[(8,con8),(9,con9),(10,con10),(11,con11),(12,con12),(14,con14),(15,con15)]
noncomputable abbrev U4:List (Nat×UCon):=[]
noncomputable abbrev C4:Cons:=lookC L4 U4
noncomputable abbrev S4:List (Nat×Nat×LSum):=[]
noncomputable def con4:Con:=⟨ps4,rs4,fun x=>f4 x.1.1.1 x.1.1.2 x.1.2.1 x.1.2.2 x.2.1.1.1.1 x.2.1.1.1.2 x.2.1.1.2.1.1 x.2.1.1.2.1.2 x.2.1.1.2.2.1 x.2.1.1.2.2.2.1 x.2.1.1.2.2.2.2.1 x.2.1.1.2.2.2.2.2 x.2.1.2.1.1 x.2.1.2.1.2.1 x.2.1.2.1.2.2.1 x.2.1.2.1.2.2.2 x.2.1.2.2.1 x.2.1.2.2.2.1 x.2.1.2.2.2.2.1 x.2.1.2.2.2.2.2⟩
theorem e4 (x:Args ps4):kTop Tryz.prog C4 (lookS S4) big 10 4 ps4 rs4 x=con4.f x:=by kernel_rfl
theorem ok4 [Glob][RngG Tryz.prog](h:AllOK Tryz.prog L4)(h':AllU Tryz.prog U4):con4.OK Tryz.prog 4:=con_of_tree (lookC_ok h h') (rounds_of (l:=S4) trivial) e4
theorem k4:con4.OK Tryz.prog 4:=ok4 ⟨k8,k9,k10,k11,k12,k14,k15,trivial⟩ trivial
set_option linter.unusedSimpArgs false
theorem f4_true (c:Int)(F:List FD)(no now:Int)(s:ST)(hl:F.length≤9223372036854775807) :
  f4 c F no now s.1.1.1 s.1.1.2 s.1.2.1.1 s.1.2.1.2 s.1.2.2.1 s.1.2.2.2.1 s.1.2.2.2.2.1 s.1.2.2.2.2.2 s.2.1.1 s.2.1.2.1 s.2.1.2.2.1 s.2.1.2.2.2 s.2.2.1 s.2.2.2.1 s.2.2.2.2.1 s.2.2.2.2.2=some (true,()):=by
 obtain⟨q,h9,hq⟩:=f9_eq c F no now hl
 unfold f4
 rw[f8_eq,h9,f10_eq s]
 simp only[Option.bind_some,Bool.not_true,cond_false]
 cases q with
 | false=>rfl
 | true=>
  have hD:=(hq rfl).sz
  simp only[Bool.not_true,cond_false]
  by_cases hs:Few s
  case neg=>rw[decide_eq_false hs];rfl
  rw[decide_eq_true hs,f11_eq c F no now hD]
  simp only[Option.bind_some,Bool.not_true,cond_false]
  by_cases hm:MayW c F no now
  case neg=>rw[decide_eq_false hm];rfl
  rw[decide_eq_true hm,f12_eq c F s hD hs.sm,f14_eq c F no now s hD hs.sm]
  simp only[Option.bind_some,Bool.not_true,cond_false]
  rcases snoc_or F with rfl|⟨G,f,rfl⟩
  ·rfl
  have hlD:=hD.1
  have hlen:(G++[f]).length=G.length+1:=by simp
  have hlt:G.length<(G++[f]).length:=by simp
  have ew:IntKind.wrap .i64 ((((G++[f]).length:Nat):Int)-1)=(G.length:Int):=by rw[hlen,w64 (by omega) (by omega)];omega
  have hT:turnW c (G++[f]) no now s=if f.2.1.length<300 then (((c,G++[f]),no,now),0,()) else if newE c (G++[f]) s=0 then newW c (G++[f]) s else (((c,G++[f]),no,now),newE c (G++[f]) s,()):=by
   unfold turnW
   rw[if_neg (fun h=>h hm),tailD_snoc]
  simp only[decide_eq_false (show ¬ (((G++[f]).length:Nat):Int)=0 by rw[hlen];omega),cond_false,ew,ge0,ltn hlt,Bool.and_self,cond_true,Int.toNat_natCast,rdFD hlt,get_snoc,hT]
  have hsame:=same_self c (G++[f]) no now hD
  by_cases h3:f.2.1.length<300
  ·rw[if_pos h3,decide_eq_false (show ¬ (300:Int)≤((f.2.1.length:Nat):Int) by omega)]
   simp only[Bool.not_false,cond_true,decide_true,hsame,Option.bind_some]
  ·rw[if_neg h3,decide_eq_true (show (300:Int)≤((f.2.1.length:Nat):Int) by omega)]
   by_cases he:newE c (G++[f]) s=0
   ·rw[if_pos he,newW_ok he]
    have hsame2:=same_self c (newF (G++[f]) s) (lastN (G++[f])+1) s.2.2.1 (newF_sz he)
    simp only[Bool.not_true,cond_false,cond_true,decide_true,hsame2,Option.bind_some]
   ·rw[if_neg he,newW_no he]
    simp only[Bool.not_true,cond_false,cond_true,decide_true,hsame,Option.bind_some,decide_eq_false he,Bool.not_false]
end Go.Proofs.Zz
namespace Go.Proofs.YtadlmipfbockgaaGreat.walTurns
open Go Go.Sy Go.RowKit Go.Proofs.Zz Go.ChangeShapes
set_option linter.unusedVariables false
set_option maxRecDepth 100000
theorem lifted (os:Os)(started:os.Started)(H:Type)(enc:TypeId×Value→H) :
  ReturnsInHanded {} Tryz.checked os 4 .any (Rows.walTurnsSpec.pre6 enc Tryz.prog Tryz.f4 Rows.walTurnsRow.domain false) (Rows.walTurnsSpec.post enc Tryz.prog Tryz.f4 false true false false):=
 law_lifted6 (C:=Tryz.checked) (Ts:=ps4) (F:=con4.f) (ts:=[26,37]) (tb:=4) own started (by kernel_rfl) Tryz.func4
  (ChangeSpec.witness6 (enc:=enc) (C:=Tryz.checked) false ⟨#[],#[.agg #[.int .i64 0,.slice none 0 0,.int .i64 0,.int .i64 0],.agg #[.int .i64 0,.int .i64 0,.int .i64 0,.int .i64 0,.int .i64 0,.int .i64 0,.int .i64 0,.int .i64 0,.int .i64 0,.int .i64 0,.int .i64 0,.bool false,.int .i64 0,.slice none 0 0,.slice none 0 0,.slice none 0 0]],[]⟩ 8 (by kernel_rfl) (by kernel_rfl) (by kernel_rfl) (by kernel_rfl))
  (fun W hs=>trivial) laidOut k4 Tryz.params4 (by kernel_rfl) Tryz.underlying4
  (fun t ht=>by
   have h:([26,37].all fun t=>Tryz.prog.readableRec t&&decide (t<Tryz.prog.types.size))=true:=by kernel_rfl
   have:=List.all_eq_true.1 h t ht
   rw[Bool.and_eq_true,decide_eq_true_eq] at this
   exact this)
  ⟨by kernel_rfl,by kernel_rfl,trivial⟩ rfl (fun ds hds=>by
   match ds,hds with
   | [d1,d2],_=>rfl)
  (fun x hx=>f4_true x.1.1.1 x.1.1.2 x.1.2.1 x.1.2.2 x.2.1 (lenW hx.1.1.2.1))
theorem holds:Rows.WalTurnsSaid:=
 OpenClaim.holds_of_wide 4 Tryz.f4 rfl rfl rfl rfl rfl rfl rfl ⟨rfl,rfl,rfl,rfl,rfl⟩ rfl rfl rfl rfl rfl (by kernel_rfl) Tryz.func4 (by kernel_rfl)
  (of_decide_eq_true (by kernel_rfl)) (by unfold Func.isWrapper;first|(rw[if_pos (by decide +kernel)];kernel_rfl)|(rw[if_neg (by decide +kernel)];exact⟨rfl,rfl⟩))
  (fun os started H enc _=>lifted os started H enc)
end Go.Proofs.YtadlmipfbockgaaGreat.walTurns
namespace Go.Proofs.YtadlmipfbockgaaGreat
theorem walTurns_holds:Rows.WalTurnsSaid:=walTurns.holds
end Go.Proofs.YtadlmipfbockgaaGreat
