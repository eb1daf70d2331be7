/- Pure18_5, Eq18_5, P18_5, Law18_5. -/
import Derived.Test.YtckgffnmfgjehaaGreatPU
import Derived.Test.YtckgffnmfgjehaaGreatEQ
import Derived.Test.YtckgffnmfgjehaaGreatFD
import Derived.Test.YtckgffnmfgjehaaGreatPA
namespace Go.Proofs.Zz
open Go Go.Sy
set_option linter.unusedVariables false
set_option maxRecDepth 100000
noncomputable def f5 (v1 v2 v3 v4 v5 v6 v7 v8:Int)(v9:(List (Int×Int×Int×Int×Int)))(v10 v11 v12 v13:Int):Option (Bool×Unit):=
 (f8).bind fun y14=>
 ((f9 v9)).bind fun y15=>
 cond (!y14.1) (
  some (y14.1,())) (
  cond (!y15.1) (
   some (y14.1,())) (
   ((f13 v1 v2 v3 v4 v5 v6 v7 v8 v10)).bind fun y16=>
   cond y16.2.1 (
    ((f14 v1 v2 v3 v4 v5 v6 v7 v8 v9 y16.1.1 y16.1.2.1 v13)).bind fun y17=>
    cond (!(decide (y17.1=v10))) (
     some (false,())) (
     ((f14 v1 v2 v3 v4 v5 v6 v7 v8 v9 y16.1.1 y16.1.2.2 v13)).bind fun y18=>
     cond (!(decide (y18.1=v10))) (
      some (false,())) (
      ((f15 v1 v2 v3 v4 v5 v6 v7 v8 v11 v12)).bind fun y19=>
      cond (decide (y19.1<0)) (
       ((f16 v1 v2 v3 v4 v5 v6 v7 v8 v11 v12)).bind fun y20=>
       cond (!(decide (y20.1<0))) (
        some (true,())) (
        ((f14 v1 v2 v3 v4 v5 v6 v7 v8 v9 v11 v12 v13)).bind fun y21=>
        some ((decide (y21.1=(-1))),()))) (
       some (true,()))))) (
    ((f15 v1 v2 v3 v4 v5 v6 v7 v8 v11 v12)).bind fun y22=>
    cond (decide (y22.1<0)) (
     ((f16 v1 v2 v3 v4 v5 v6 v7 v8 v11 v12)).bind fun y23=>
     cond (!(decide (y23.1<0))) (
      some (true,())) (
      ((f14 v1 v2 v3 v4 v5 v6 v7 v8 v9 v11 v12 v13)).bind fun y24=>
      some ((decide (y24.1=(-1))),()))) (
     some (true,())))))
set_option maxHeartbeats 0
abbrev Uj:List Ty:=[.pair (.pair (.int .i64) (.int .i64)) (.pair (.pair (.int .i64) (.int .i64)) (.pair (.int .i64) (.pair (.int .i64) (.pair (.int .i64) (.int .i64))))),.row (.pair (.int .i64) (.pair (.int .i64) (.pair (.int .i64) (.pair (.int .i64) (.int .i64))))),.int .i64,.int .i64,.int .i64,.int .i64]
abbrev VS:List cO:=[.val (.bool)]
noncomputable abbrev L5:List (Nat×aT):=[(8,Iz),(9,Hf),(13,Dq),(14,Dw),(15,Dz),(16,Ej)]
noncomputable abbrev U5:List (Nat×bF):=[]
noncomputable abbrev C5:Cons:=uh L5 U5
noncomputable abbrev S5:List (Nat×Nat×aG):=[]
noncomputable def L8:aT:=⟨Uj,VS,fun x=>f5 x.1.1.1 x.1.1.2 x.1.2.1.1 x.1.2.1.2 x.1.2.2.1 x.1.2.2.2.1 x.1.2.2.2.2.1 x.1.2.2.2.2.2 x.2.1 x.2.2.1 x.2.2.2.1 x.2.2.2.2.1 x.2.2.2.2.2.1⟩
theorem e5 (x:cC Uj):Cs Tryz.prog C5 (eC S5) aI 10 5 Uj VS x=L8.f x:=by kernel_rfl
theorem WJ [aq][Ab Tryz.prog](h:oV Tryz.prog L5)(h':yG Tryz.prog U5):L8.OK Tryz.prog 5:=aa (an h h') (aj (l:=S5) trivial) e5
theorem k5:L8.OK Tryz.prog 5:=WJ ⟨k8,k9,Vw,VE,VI,Vd,trivial⟩ trivial
set_option linter.unusedSimpArgs false
theorem Tv (D:DT)(sub port tick:Int)(h:List LT)(hl:h.length≤1000000)(hS:pK D sub)(hp:port=bW D sub∨port=bW D sub+each D-1) :
  f14 D.1.1 D.1.2 D.2.1.1 D.2.1.2 D.2.2.1 D.2.2.2.1 D.2.2.2.2.1 D.2.2.2.2.2 h (sub / dz D) port tick=some (sub,()):=by
 have F:=hS.1
 have hr:=F.E6
 have he:=F.Ak
 obtain⟨b1,b2,b3,b4,b5⟩:=F.base hS.2.1 hS.2.2
 have hlo:=F.PJ
 have hhi:=F.hi
 have hg:=F.g1
 have hb:bW D sub=lC D+sub % dz D * each D:=rfl
 have hm:=Int.emod_lt_of_pos sub (show 0<dz D by omega)
 have hm0:=Int.emod_nonneg sub (show dz D≠0 by omega)
 have hk:(port-lC D) / each D=sub % dz D:=by
  rcases hp with rfl|rfl
  ·rw[hb,show lC D+sub % dz D * each D-lC D=sub % dz D * each D by omega,Int.mul_ediv_cancel _ (by omega)]
  ·have e:bW D sub+each D-1-lC D=(each D-1)+sub % dz D * each D:=by rw[hb];omega
   rw[e,Int.add_mul_ediv_right _ _ (by omega),Int.ediv_eq_zero_of_lt (by omega) (by omega)];omega
 have hsum:sub / dz D * dz D+sub % dz D=sub:=by rw[Int.mul_comm];exact Int.mul_ediv_add_emod sub (dz D)
 obtain⟨w,w1,w2,w3⟩:=Cw D (sub / dz D) port (by rcases hp with rfl|rfl<;>omega) (by rcases hp with rfl|rfl<;>omega)
 obtain⟨b,c1,c2⟩:=AX D (sub / dz D) port (by rcases hp with rfl|rfl<;>omega) (by rcases hp with rfl|rfl<;>omega)
 have hw:=w3 F b1 b2 (by rcases hp with rfl|rfl<;>omega) (by rcases hp with rfl|rfl<;>omega) (by rw[hk];exact hm) (by rw[hk,hsum];exact hS)
 rw[hk,hsum] at hw
 rw[u5 D h hl _ _ _ _ _ w1 c1]
 unfold oE
 rw[if_pos (by have:=hS.2.1;omega),hw]
theorem Lf (D:DT)(h:List LT)(sub at' port tick:Int)(hp : -9223372036854775808≤port)(hp2:port≤9223372036854775807) :
  f5 D.1.1 D.1.2 D.2.1.1 D.2.1.2 D.2.2.1 D.2.2.2.1 D.2.2.2.2.1 D.2.2.2.2.2 h sub at' port tick=some (true,()):=by
 unfold f5
 rw[Ee,Ez]
 simp only[Option.bind_some,Bool.not_true,cond_false]
 by_cases hl:((h.length:Nat):Int)≤200
 case neg=>rw[decide_eq_false hl];rfl
 rw[decide_eq_true hl,JQ (D:=D) sub]
 simp only[Bool.not_true,cond_false,Option.bind_some]
 obtain⟨w,w1,w2,_⟩:=Cw D at' port hp hp2
 obtain⟨b,c1,c2⟩:=AX D at' port hp hp2
 have h14:=u5 D h (by omega) at' port tick w b w1 c1
 have fin:∀ X:Option (Bool×Unit),X=(cond (decide (w<0)) (cond (!(decide (b<0))) (some (true,())) (some (decide (oE w b at' tick h = -1),()))) (some (true,())))→X=some (true,()):=by
  intro X hX
  rw[hX]
  by_cases q1:w<0
  ·rw[decide_eq_true q1]
   by_cases q2:b<0
   ·rw[decide_eq_true q2]
    have e1:w = -1:=by omega
    have e2:b = -1:=by omega
    unfold oE
    rw[if_neg (fun k=>k e1),if_pos e2];rfl
   ·rw[decide_eq_false q2];rfl
  ·rw[decide_eq_false q1];rfl
 by_cases hS:pK D sub
 ·rw[decide_eq_true hS,if_pos hS]
  have o1:=Tv D sub (bW D sub) tick h (by omega) hS (.inl rfl)
  have o2:=Tv D sub (bW D sub+each D-1) tick h (by omega) hS (.inr rfl)
  simp only[cond_true,DE,o1,o2,Option.bind_some,decide_true,Bool.not_true,cond_false,w1,c1,h14]
  exact fin _ rfl
 ·rw[decide_eq_false hS]
  simp only[cond_false,w1,c1,h14,Option.bind_some]
  exact fin _ rfl
end Go.Proofs.Zz
namespace Go.Proofs.YtckgffnmfgjehaaGreat.indexOwn
open Go Go.Sy Go.RowKit Go.Proofs.Zz Go.ChangeShapes
set_option linter.unusedVariables false
set_option maxRecDepth 100000
theorem lifted (os:Os)(started:os.Started)(H:Type)(enc:TypeId×Value→H) :
  ReturnsInHanded {} Tryz.checked os 5 .any (Rows.indexOwnSpec.pre6 enc Tryz.prog Tryz.f5 Rows.indexOwnRow.domain false) (Rows.indexOwnSpec.post enc Tryz.prog Tryz.f5 false true false false):=
 fH (C:=Tryz.checked) (Ts:=Uj) (F:=L8.f) (ts:=[34,22,3,3,3,3]) (tb:=4) own started (by kernel_rfl) Tryz.func5
  (ChangeSpec.witness6 (enc:=enc) (C:=Tryz.checked) false ⟨#[],#[.agg #[.int .i64 0,.int .i64 0,.int .i64 0,.int .i64 0,.int .i64 0,.int .i64 0,.int .i64 0,.int .i64 0],.slice none 0 0,.int .i64 0,.int .i64 0,.int .i64 0,.int .i64 0],[]⟩ 8 (by kernel_rfl) (by kernel_rfl) (by kernel_rfl) (by kernel_rfl))
  (fun W hs=>trivial) laidOut k5 Tryz.params5 (by kernel_rfl) Tryz.underlying4
  (fun t ht=>by
   have h:([34,22,3,3,3,3].all fun t=>Tryz.prog.readableRec t&&decide (t<Tryz.prog.types.size))=true:=by kernel_rfl
   have:=List.all_eq_true.1 h t ht
   rw[Bool.and_eq_true,decide_eq_true_eq] at this
   exact this)
  ⟨by kernel_rfl,by kernel_rfl,by kernel_rfl,by kernel_rfl,by kernel_rfl,by kernel_rfl,trivial⟩ rfl (fun ds hds=>by
   match ds,hds with
   | [d1,d2,d3,d4,d5,d6],_=>rfl)
  (fun x hx=>Lf x.1 x.2.1 x.2.2.1 x.2.2.2.1 x.2.2.2.2.1 x.2.2.2.2.2.1 (Kg hx.2.2.2.2.1) (JN hx.2.2.2.2.1))
theorem holds:Rows.IndexOwnSaid:=
 OpenClaim.holds_of_wide 5 Tryz.f5 rfl rfl rfl rfl rfl rfl rfl ⟨rfl,rfl,rfl,rfl,rfl⟩ rfl rfl rfl rfl rfl (by kernel_rfl) Tryz.func5 (by kernel_rfl)
  (of_decide_eq_true (by kernel_rfl)) (by unfold Func.isWrapper;first|(rw[if_pos (by decide +kernel)];kernel_rfl)|(rw[if_neg (by decide +kernel)];exact⟨rfl,rfl⟩))
  (fun os started H enc _=>lifted os started H enc)
end Go.Proofs.YtckgffnmfgjehaaGreat.indexOwn
namespace Go.Proofs.YtckgffnmfgjehaaGreat
theorem indexOwn_holds:Rows.IndexOwnSaid:=indexOwn.holds
end Go.Proofs.YtckgffnmfgjehaaGreat
