/- Pure18_6, Eq18_6, P18_6, Law18_6. -/
import Derived.Test.YtckgffnmfgjehaaGreatPU
import Derived.Test.YtckgffnmfgjehaaGreatEQ
import Derived.Test.YtckgffnmfgjehaaGreatFD
import Derived.Test.YtckgffnmfgjehaaGreatPA
namespace Go.Proofs.Zz
open Go Go.Sy
set_option linter.unusedVariables false
set_option maxRecDepth 100000
noncomputable def f6 (v1 v2 v3 v4 v5 v6 v7 v8:Int)(v9:(List (Int×Int×Int×Int×Int)))(v10 v11 v12 v13 v14 v15 v16 v17:Int):Option (Bool×Unit):=
 (f8).bind fun y18=>
 ((f9 v9)).bind fun y19=>
 cond (!y18.1) (
  some (y18.1,())) (
  cond (!y19.1) (
   some (y18.1,())) (
   cond (decide (v10<0)) (
    some (y18.1,())) (
    cond ((decide ((v9.length * 40)≤140737488355328))&&(decide (v9.length≤9223372036854775807))) (
     cond ((decide (((v9.length+1) * 40)≤140737488355328))&&(decide ((v9.length+1)≤9223372036854775807))) (
      ((f14 v1 v2 v3 v4 v5 v6 v7 v8 v9 v15 v16 v17)).bind fun y20=>
      ((f14 v1 v2 v3 v4 v5 v6 v7 v8 (v9++[(v10,v11,v12,v13,(-1))]) v15 v16 v17)).bind fun y21=>
      ((f15 v1 v2 v3 v4 v5 v6 v7 v8 v15 v16)).bind fun y22=>
      cond (decide (y22.1<0)) (
       cond (decide (v15=v11)) (
        ((f16 v1 v2 v3 v4 v5 v6 v7 v8 v15 v16)).bind fun y23=>
        cond (decide (y23.1=v12)) (
         cond (decide (0≤v12)) (
          cond (decide (v13≤v17)) (
           cond (decide (y21.1=v10)) (
            some (true,())) (
            cond (!(decide (v13≤v17))) (
             some ((decide (y21.1=y20.1)),())) (
             some (false,())))) (
           cond (!(decide (v13≤v17))) (
            some ((decide (y21.1=y20.1)),())) (
            some (false,())))) (
          some ((decide (y21.1=y20.1)),()))) (
         some ((decide (y21.1=y20.1)),()))) (
        some ((decide (y21.1=y20.1)),()))) (
       some ((decide (y21.1=y20.1)),()))) (
      none)) (
     none))))
set_option maxHeartbeats 0
abbrev Ue:List Ty:=[.pair (.pair (.int .i64) (.int .i64)) (.pair (.pair (.int .i64) (.int .i64)) (.pair (.int .i64) (.pair (.int .i64) (.pair (.int .i64) (.int .i64))))),.row (.pair (.int .i64) (.pair (.int .i64) (.pair (.int .i64) (.pair (.int .i64) (.int .i64))))),.pair (.int .i64) (.pair (.int .i64) (.pair (.int .i64) (.pair (.int .i64) (.int .i64)))),.int .i64,.int .i64,.int .i64]
abbrev VZ:List cO:=[.val (.bool)]
noncomputable abbrev L6:List (Nat×aT):=[(8,Iz),(9,Hf),(14,Dw),(15,Dz),(16,Ej)]
noncomputable abbrev U6:List (Nat×bF):=[]
noncomputable abbrev C6:Cons:=uh L6 U6
noncomputable abbrev S6:List (Nat×Nat×aG):=[]
noncomputable def KJ:aT:=⟨Ue,VZ,fun x=>f6 x.1.1.1 x.1.1.2 x.1.2.1.1 x.1.2.1.2 x.1.2.2.1 x.1.2.2.2.1 x.1.2.2.2.2.1 x.1.2.2.2.2.2 x.2.1 x.2.2.1.1 x.2.2.1.2.1 x.2.2.1.2.2.1 x.2.2.1.2.2.2.1 x.2.2.1.2.2.2.2 x.2.2.2.1 x.2.2.2.2.1 x.2.2.2.2.2.1⟩
theorem e6 (x:cC Ue):Cs Tryz.prog C6 (eC S6) aI 10 6 Ue VZ x=KJ.f x:=by kernel_rfl
theorem WD [aq][Ab Tryz.prog](h:oV Tryz.prog L6)(h':yG Tryz.prog U6):KJ.OK Tryz.prog 6:=aa (an h h') (aj (l:=S6) trivial) e6
theorem k6:KJ.OK Tryz.prog 6:=WD ⟨k8,k9,VE,VI,Vd,trivial⟩ trivial
set_option linter.unusedSimpArgs false
theorem KS (D:DT)(h:List LT)(x:LT)(at' port tick:Int)(hp : -9223372036854775808≤port)(hp2:port≤9223372036854775807) :
  f6 D.1.1 D.1.2 D.2.1.1 D.2.1.2 D.2.2.1 D.2.2.2.1 D.2.2.2.2.1 D.2.2.2.2.2 h x.1 x.2.1 x.2.2.1 x.2.2.2.1 x.2.2.2.2 at' port tick=some (true,()):=by
 unfold f6
 rw[Ee,Ez]
 simp only[Option.bind_some,Bool.not_true,cond_false]
 by_cases hl:((h.length:Nat):Int)≤200
 case neg=>rw[decide_eq_false hl];rfl
 rw[decide_eq_true hl]
 by_cases h0:x.1<0
 ·rw[decide_eq_true h0];rfl
 rw[decide_eq_false h0]
 obtain⟨w,w1,w2,_⟩:=Cw D at' port hp hp2
 obtain⟨b,c1,c2⟩:=AX D at' port hp hp2
 have e1:=u5 D h (by omega) at' port tick w b w1 c1
 have e2:=u5 D (h++[(x.1,x.2.1,x.2.2.1,x.2.2.2.1,(-1))]) (by rw[List.length_append,List.length_singleton];omega) at' port tick w b w1 c1
 simp only[Bool.not_true,cond_false,decide_eq_true (show h.length * 40≤140737488355328 by omega),decide_eq_true (show h.length≤9223372036854775807 by omega),decide_eq_true (show (h.length+1) * 40≤140737488355328 by omega),decide_eq_true (show h.length+1≤9223372036854775807 by omega),Bool.and_self,cond_true,e1,e2,w1,c1,Option.bind_some]
 have same:oE w b at' tick (h++[(x.1,x.2.1,x.2.2.1,x.2.2.2.1,(-1))])=if w = -1∧b ≠ -1∧x.2.1=at'∧x.2.2.1=b∧x.2.2.2.1≤tick then x.1 else oE w b at' tick h:=by
  by_cases q1:w = -1
  ·by_cases q2:b = -1
   ·have z:∀ l,oE w b at' tick l = -1:=fun l=>by unfold oE;rw[if_neg (fun k=>k q1),if_pos q2]
    rw[z,z,if_neg (fun k=>k.2.1 q2)]
   ·have z:∀ l,oE w b at' tick l=(yy at' b tick l).getD (-1):=fun l=>by unfold oE;rw[if_neg (fun k=>k q1),if_neg q2]
    rw[z,z,sW]
    unfold Aj
    by_cases q3:x.2.1=at'
    ·by_cases q4:x.2.2.1=b
     ·by_cases q5:x.2.2.2.1≤tick
      ·rw[if_pos (show w = -1∧b ≠ -1∧x.2.1=at'∧x.2.2.1=b∧x.2.2.2.1≤tick from ⟨q1,q2,q3,q4,q5⟩),if_pos (by simp[q3,q4,q5])];rfl
      ·rw[if_neg (show ¬ (w = -1∧b ≠ -1∧x.2.1=at'∧x.2.2.1=b∧x.2.2.2.1≤tick) from fun k=>q5 k.2.2.2.2),if_neg (by simp[q5])]
     ·rw[if_neg (show ¬ (w = -1∧b ≠ -1∧x.2.1=at'∧x.2.2.1=b∧x.2.2.2.1≤tick) from fun k=>q4 k.2.2.2.1),if_neg (by simp[q4])]
    ·rw[if_neg (show ¬ (w = -1∧b ≠ -1∧x.2.1=at'∧x.2.2.1=b∧x.2.2.2.1≤tick) from fun k=>q3 k.2.2.1),if_neg (by simp[q3])]
  ·have z:∀ l,oE w b at' tick l=w:=fun l=>by unfold oE;rw[if_pos q1]
   rw[z,z,if_neg (fun k=>q1 k.1)]
 rw[same]
 by_cases q1:w<0
 ·rw[decide_eq_true q1]
  have hw:w = -1:=by omega
  by_cases q3:at'=x.2.1
  ·rw[decide_eq_true q3]
   by_cases q4:b=x.2.2.1
   ·rw[decide_eq_true q4]
    by_cases q5:0≤x.2.2.1
    ·rw[decide_eq_true q5]
     by_cases q6:x.2.2.2.1≤tick
     ·rw[decide_eq_true q6,if_pos ⟨hw,by omega,q3.symm,q4.symm,q6⟩]
      simp only[cond_true,decide_true]
     ·rw[decide_eq_false q6,if_neg (fun k=>q6 k.2.2.2.2)]
      simp only[cond_true,cond_false,Bool.not_false,decide_true]
    ·rw[decide_eq_false q5,if_neg (fun k=>by have:=k.2.1;have:=k.2.2.2.1;omega)]
     simp only[cond_true,cond_false,decide_true]
   ·rw[decide_eq_false q4,if_neg (fun k=>q4 k.2.2.2.1.symm)]
    simp only[cond_true,cond_false,decide_true]
  ·rw[decide_eq_false q3,if_neg (fun k=>q3 k.2.2.1.symm)]
   simp only[cond_true,cond_false,decide_true]
 ·rw[decide_eq_false q1,if_neg (fun k=>by have:=k.1;omega)]
  simp only[cond_false,decide_true]
end Go.Proofs.Zz
namespace Go.Proofs.YtckgffnmfgjehaaGreat.indexMore
open Go Go.Sy Go.RowKit Go.Proofs.Zz Go.ChangeShapes
set_option linter.unusedVariables false
set_option maxRecDepth 100000
theorem lifted (os:Os)(started:os.Started)(H:Type)(enc:TypeId×Value→H) :
  ReturnsInHanded {} Tryz.checked os 6 .any (Rows.indexMoreSpec.pre6 enc Tryz.prog Tryz.f6 Rows.indexMoreRow.domain false) (Rows.indexMoreSpec.post enc Tryz.prog Tryz.f6 false true false false):=
 fH (C:=Tryz.checked) (Ts:=Ue) (F:=KJ.f) (ts:=[34,22,27,3,3,3]) (tb:=4) own started (by kernel_rfl) Tryz.func6
  (ChangeSpec.witness6 (enc:=enc) (C:=Tryz.checked) false ⟨#[],#[.agg #[.int .i64 0,.int .i64 0,.int .i64 0,.int .i64 0,.int .i64 0,.int .i64 0,.int .i64 0,.int .i64 0],.slice none 0 0,.agg #[.int .i64 0,.int .i64 0,.int .i64 0,.int .i64 0,.int .i64 0],.int .i64 0,.int .i64 0,.int .i64 0],[]⟩ 8 (by kernel_rfl) (by kernel_rfl) (by kernel_rfl) (by kernel_rfl))
  (fun W hs=>trivial) laidOut k6 Tryz.params6 (by kernel_rfl) Tryz.underlying4
  (fun t ht=>by
   have h:([34,22,27,3,3,3].all fun t=>Tryz.prog.readableRec t&&decide (t<Tryz.prog.types.size))=true:=by kernel_rfl
   have:=List.all_eq_true.1 h t ht
   rw[Bool.and_eq_true,decide_eq_true_eq] at this
   exact this)
  ⟨by kernel_rfl,by kernel_rfl,by kernel_rfl,by kernel_rfl,by kernel_rfl,by kernel_rfl,trivial⟩ rfl (fun ds hds=>by
   match ds,hds with
   | [d1,d2,d3,d4,d5,d6],_=>rfl)
  (fun x hx=>KS x.1 x.2.1 x.2.2.1 x.2.2.2.1 x.2.2.2.2.1 x.2.2.2.2.2.1 (Kg hx.2.2.2.2.1) (JN hx.2.2.2.2.1))
theorem holds:Rows.IndexMoreSaid:=
 OpenClaim.holds_of_wide 6 Tryz.f6 rfl rfl rfl rfl rfl rfl rfl ⟨rfl,rfl,rfl,rfl,rfl⟩ rfl rfl rfl rfl rfl (by kernel_rfl) Tryz.func6 (by kernel_rfl)
  (of_decide_eq_true (by kernel_rfl)) (by unfold Func.isWrapper;first|(rw[if_pos (by decide +kernel)];kernel_rfl)|(rw[if_neg (by decide +kernel)];exact⟨rfl,rfl⟩))
  (fun os started H enc _=>lifted os started H enc)
end Go.Proofs.YtckgffnmfgjehaaGreat.indexMore
namespace Go.Proofs.YtckgffnmfgjehaaGreat
theorem indexMore_holds:Rows.IndexMoreSaid:=indexMore.holds
end Go.Proofs.YtckgffnmfgjehaaGreat
