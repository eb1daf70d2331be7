/- Pure18_4, Eq18_4, P18_4, Law18_4. -/
import Derived.Test.YtckgffnmfgjehaaGreatPU
import Derived.Test.YtckgffnmfgjehaaGreatEQ
import Derived.Test.YtckgffnmfgjehaaGreatFD
import Derived.Test.YtckgffnmfgjehaaGreatPA
namespace Go.Proofs.Zz
open Go Go.Sy
set_option linter.unusedVariables false
set_option maxRecDepth 100000
abbrev Qo:Type:=((List (Int×Int×Int×Int×Int))×Int×Int×Int×Unit)×(Unit)×(Unit)
abbrev Jx:Type:=((List (Int×Int×Int×Int×Int))×Int×Int×Int×(List (Int×Int×Int×Int×Int))×Int×Unit)×(Unit)×(Unit)
abbrev NL:Type:=((List (Int×Int×Int×Int×Int))×Int×Int×Int×Unit)×(Unit)×(Unit)
abbrev M4:Type:=(Bool×Unit)×(Unit)×(Unit)
noncomputable def GM (v1:(List (Int×Int×Int×Int×Int)))(v2 v3 v4:Int)(v5:(List (Int×Int×Int×Int×Int)))(v6:Int):Option (R3 Jx NL M4):=
 cond (decide (v6<(v5.length:Int))) (
  cond ((decide (0≤v6))&&(decide (v6<(v5.length:Int)))) (
   cond (!(decide ((rd (.pair (.int .i64) (.pair (.int .i64) (.pair (.int .i64) (.pair (.int .i64) (.int .i64))))) v5 (Int.toNat v6)).1=v4))) (
    some (R3.ret ((false,()),(),()))) (
    some (R3.next ((v1,v2,v3,v4,v5,(IntKind.wrap .i64 (v6+1)),()),(),())))) (
   none)) (
  some (R3.out ((v1,v2,v3,v4,()),(),())))
noncomputable def tM (z:Jx):Option (R3 Jx NL M4):=GM z.1.1 z.1.2.1 z.1.2.2.1 z.1.2.2.2.1 z.1.2.2.2.2.1 z.1.2.2.2.2.2.1
abbrev Tg:Type:=((List (Int×Int×Int×Int×Int))×Int×Int×Unit)×(Unit)×(Unit)
abbrev Sw:Type:=(Bool×Unit)×(Unit)×(Unit)
noncomputable def Pq (v1:(List (Int×Int×Int×Int×Int)))(v2 v3 v4:Int):Option (R3 Qo Tg Sw):=
 cond (decide (v4<40)) (
  ((f11 v1 v4)).bind fun y5=>
  ((iter aI tM ((v1,(IntKind.wrap .i64 (v2+(y5.1.length:Int))),v3,v4,y5.1,0,()),(),()))).bind fun r=>match r with
  | .inl y6=>
    some (R3.next ((y6.1.1,y6.1.2.1,y6.1.2.2.1,(IntKind.wrap .i64 (y6.1.2.2.2.1+1)),()),(),()))
  | .inr z7=>
    some (R3.ret ((z7.1.1,()),(),()))) (
  some (R3.out ((v1,v2,v3,()),(),())))
noncomputable def CJ (z:Qo):Option (R3 Qo Tg Sw):=Pq z.1.1 z.1.2.1 z.1.2.2.1 z.1.2.2.2.1
abbrev G1:Type:=((List (Int×Int×Int×Int×Int))×Int×Int×Int×Unit)×(Unit)×(Unit)
abbrev MO:Type:=((List (Int×Int×Int×Int×Int))×Int×Int×Unit)×(Unit)×(Unit)
abbrev Mz:Type:=Unit×Unit×Unit
noncomputable def Kn (v1:(List (Int×Int×Int×Int×Int)))(v2 v3 v4:Int):Option (R3 G1 MO Mz):=
 cond (decide (v4<(v1.length:Int))) (
  cond ((decide (0≤v4))&&(decide (v4<(v1.length:Int)))) (
   cond (decide (0≤(rd (.pair (.int .i64) (.pair (.int .i64) (.pair (.int .i64) (.pair (.int .i64) (.int .i64))))) v1 (Int.toNat v4)).1)) (
    cond ((decide (0≤v4))&&(decide (v4<(v1.length:Int)))) (
     cond (decide ((rd (.pair (.int .i64) (.pair (.int .i64) (.pair (.int .i64) (.pair (.int .i64) (.int .i64))))) v1 (Int.toNat v4)).1<40)) (
      some (R3.next ((v1,v2,(IntKind.wrap .i64 (v3+1)),(IntKind.wrap .i64 (v4+1)),()),(),()))) (
      some (R3.next ((v1,v2,v3,(IntKind.wrap .i64 (v4+1)),()),(),())))) (
     none)) (
    some (R3.next ((v1,v2,v3,(IntKind.wrap .i64 (v4+1)),()),(),())))) (
   none)) (
  some (R3.out ((v1,v2,v3,()),(),())))
noncomputable def tE (z:G1):Option (R3 G1 MO Mz):=Kn z.1.1 z.1.2.1 z.1.2.2.1 z.1.2.2.2.1
noncomputable def f4 (v1:(List (Int×Int×Int×Int×Int))):Option (Bool×Unit):=
 (f8).bind fun y2=>
 ((f9 v1)).bind fun y3=>
 cond (!y2.1) (
  some (y2.1,())) (
  cond (!y3.1) (
   some (y2.1,())) (
   ((iter aI CJ ((v1,0,0,0,()),(),()))).bind fun r=>match r with
   | .inl y4=>
     ((iter aI tE ((y4.1.1,y4.1.2.1,y4.1.2.2.1,0,()),(),()))).bind fun r=>match r with
     | .inl y6=>
       cond (decide (y6.1.2.1=y6.1.2.2.1)) (
        ((f12 y6.1.1 y6.1.1)).bind fun y8=>
        some (y8.1,())) (
        some (false,()))
     | .inr z7=>
       none
   | .inr z5=>
     some (z5.1.1,())))
set_option maxHeartbeats 0
abbrev Ui:List Ty:=[.row (.pair (.int .i64) (.pair (.int .i64) (.pair (.int .i64) (.pair (.int .i64) (.int .i64)))))]
abbrev V1:List cO:=[.val (.bool)]
noncomputable abbrev L4:List (Nat×aT):=[(8,Iz),(9,Hf),(11,D5),(12,HG)]
noncomputable abbrev U4:List (Nat×bF):=[]
noncomputable abbrev C4:Cons:=uh L4 U4
abbrev Vm:ai:=⟨75,[(0,.cont (.pair (.int .i64) (.pair (.int .i64) (.pair (.int .i64) (.pair (.int .i64) (.int .i64)))))),(5,.int .i64),(6,.int .i64),(7,.int .i64)],[],[],[]⟩
abbrev Tu:ai:=⟨75,[(0,.cont (.pair (.int .i64) (.pair (.int .i64) (.pair (.int .i64) (.pair (.int .i64) (.int .i64)))))),(5,.int .i64),(6,.int .i64),(7,.int .i64),(8,.cont (.pair (.int .i64) (.pair (.int .i64) (.pair (.int .i64) (.pair (.int .i64) (.int .i64)))))),(9,.int .i64)],[],[],[]⟩
abbrev SQ:ai:=⟨75,[(0,.cont (.pair (.int .i64) (.pair (.int .i64) (.pair (.int .i64) (.pair (.int .i64) (.int .i64)))))),(5,.int .i64),(6,.int .i64),(7,.int .i64)],[],[],[]⟩
abbrev Se:ai:=⟨75,[(2,.bool)],[],[],[]⟩
noncomputable def MX:aG:=⟨9,4,Tu,2,SQ,Se,tM,false,none,none,[]⟩
abbrev UO:ai:=⟨75,[(0,.cont (.pair (.int .i64) (.pair (.int .i64) (.pair (.int .i64) (.pair (.int .i64) (.int .i64)))))),(5,.int .i64),(6,.int .i64)],[],[],[]⟩
abbrev VL:ai:=⟨75,[(2,.bool)],[],[],[]⟩
noncomputable def RZ:aG:=⟨9,4,Vm,0,UO,VL,CJ,false,none,none,[]⟩
abbrev Sh:ai:=⟨75,[(0,.cont (.pair (.int .i64) (.pair (.int .i64) (.pair (.int .i64) (.pair (.int .i64) (.int .i64)))))),(5,.int .i64),(6,.int .i64),(10,.int .i64)],[],[],[]⟩
abbrev TN:ai:=⟨75,[(0,.cont (.pair (.int .i64) (.pair (.int .i64) (.pair (.int .i64) (.pair (.int .i64) (.int .i64)))))),(5,.int .i64),(6,.int .i64)],[],[],[]⟩
abbrev RX:ai:=⟨75,[],[],[],[]⟩
noncomputable def MQ:aG:=⟨9,4,Sh,4,TN,RX,tE,false,none,none,[]⟩
noncomputable abbrev S4:List (Nat×Nat×aG):=[(4294967296,13,MX),(4294967296,8,RZ),(4294967296,18,MQ)]
noncomputable def KY:aT:=⟨Ui,V1,fun x=>f4 x.1⟩
theorem SI:Round Tryz.prog C4 (eC S4) aI 4294967296 13 MX:=⟨by kernel_rfl,fun z=>by kernel_rfl⟩
theorem Vv:Round Tryz.prog C4 (eC S4) aI 4294967296 8 RZ:=⟨by kernel_rfl,fun z=>by kernel_rfl⟩
theorem TJ:Round Tryz.prog C4 (eC S4) aI 4294967296 18 MQ:=⟨by kernel_rfl,fun z=>by kernel_rfl⟩
theorem e4 (x:cC Ui):Cs Tryz.prog C4 (eC S4) aI 10 4 Ui V1 x=KY.f x:=by kernel_rfl
theorem WG [aq][Ab Tryz.prog](h:oV Tryz.prog L4)(h':yG Tryz.prog U4):KY.OK Tryz.prog 4:=aa (an h h') (aj (l:=S4) ⟨SI,Vv,TJ,trivial⟩) e4
theorem k4:KY.OK Tryz.prog 4:=WG ⟨k8,k9,Up,V6,trivial⟩ trivial
set_option linter.unusedSimpArgs false
def kX (k:Nat)(x:LT):Bool:=decide (0≤x.1)&&decide (x.1<(k:Int))
theorem Ir (h:List LT)(k:Nat):(h.filter (kX (k+1))).length=(h.filter (kX k)).length+(h.filter (pL (k:Int))).length:=by
 induction h with
 | nil=>rfl
 | cons x r ih=>
  simp only[List.filter_cons]
  by_cases h1:x.1=(k:Int)
  ·have e1:kX (k+1) x=true:=by unfold kX;simp;omega
   have e2:kX k x=false:=by unfold kX;rw[decide_eq_false (show ¬ x.1<(k:Int) by omega)];simp
   have e3:pL (k:Int) x=true:=by unfold pL;exact decide_eq_true h1
   rw[e1,e2,e3]
   simp only[if_true,List.length_cons]
   rw[if_neg (by simp)];omega
  ·have e3:pL (k:Int) x=false:=by unfold pL;exact decide_eq_false h1
   have e4:kX (k+1) x=kX k x:=by
    unfold kX
    congr 1
    exact decide_eq_decide.2 (by omega)
   rw[e4,e3]
   cases kX k x<;>simp<;>omega
theorem QC (h:List LT)(n in' sub:Int)(l:List LT)(hl:l.length≤1000000)(hs:∀ x∈l,x.1=sub) :
  iter aI tM ((h,n,in',sub,l,0,()),(),())=some (.inl ((h,n,in',sub,()),(),())):=by
 have k:=gI (u:=tM) (fun j=>((h,n,in',sub,l,((j:Nat):Int),()),(),())) (n:=l.length) (y:=((h,n,in',sub,()),(),())) (fun j hj=>by
  have hx:=hs _ (List.getElem_mem hj)
  simp only[tM,GM,LC hj,K7,cond_true,Bool.and_self,Int.toNat_natCast,NN hj,hx,decide_true,Bool.not_true,cond_false,nx hj (show l.length≤9223372036854775807 by omega)]) (by
  simp only[tM,GM]
  rw[Rk];rfl) (by omega)
 exact k
theorem Q8 (h:List LT)(hl:h.length≤200)(in':Int) :
  iter aI CJ ((h,0,in',0,()),(),())=some (.inl ((h,(((h.filter (kX 40)).length:Nat):Int),in',()),(),())):=by
 have z:(h.filter (kX 0)).length=0:=by
  rw[List.length_eq_zero_iff,List.filter_eq_nil_iff]
  intro x _ hx
  unfold kX at hx
  simp only[Bool.and_eq_true,decide_eq_true_eq] at hx
  omega
 have k:=gI (u:=CJ) (fun j=>((h,(((h.filter (kX j)).length:Nat):Int),in',((j:Nat):Int),()),(),())) (n:=40) (y:=((h,(((h.filter (kX 40)).length:Nat):Int),in',()),(),())) (fun j hj=>by
  have h1:=List.length_filter_le (kX j) h
  have h2:=List.length_filter_le (pL (j:Int)) h
  have h3:=Ir h j
  simp only[CJ,Pq]
  rw[decide_eq_true (show ((j:Nat):Int)<40 by omega),Cv h _ (by omega)]
  simp only[cond_true,Option.bind_some]
  have hin:=QC h (IntKind.wrap .i64 ((((h.filter (kX j)).length:Nat):Int)+(((h.filter (pL ((j:Nat):Int))).length:Nat):Int))) in' ((j:Nat):Int) (h.filter (pL ((j:Nat):Int))) (by omega) (fun x hx=>of_decide_eq_true (List.mem_filter.1 hx).2)
  rw[hin]
  simp only[Option.bind_some]
  rw[iF (x:=(((h.filter (kX j)).length:Nat):Int)+(((h.filter (pL ((j:Nat):Int))).length:Nat):Int)) (by omega) (by omega),iF (x:=((j:Nat):Int)+1) (by omega) (by omega),h3]
  rfl) (by
  simp only[CJ,Pq]
  rfl) (by omega)
 have k:iter aI CJ ((h,(((h.filter (kX 0)).length:Nat):Int),in',0,()),(),())=_:=k
 rw[z] at k
 exact k
theorem Qn (h:List LT)(n:Int)(hl:h.length≤200) :
  iter aI tE ((h,n,0,0,()),(),())=some (.inl ((h,n,(((h.filter (kX 40)).length:Nat):Int),()),(),())):=by
 have k:=gI (u:=tE) (fun j=>((h,n,((((h.take j).filter (kX 40)).length:Nat):Int),((j:Nat):Int),()),(),())) (n:=h.length) (y:=((h,n,(((h.filter (kX 40)).length:Nat):Int),()),(),())) (fun j hj=>by
  have h1:=List.length_filter_le (kX 40) (h.take j)
  rw[List.length_take] at h1
  have ht:=iY (kX 40) h j hj
  simp only[tE,Kn,LC hj,K7,cond_true,Bool.and_self,Int.toNat_natCast,NN hj,nx hj (show h.length≤9223372036854775807 by omega)]
  rw[ht]
  by_cases q1:0≤h[j].1
  ·rw[decide_eq_true q1]
   by_cases q2:h[j].1<40
   ·have e:kX 40 h[j]=true:=by unfold kX;rw[decide_eq_true q1,decide_eq_true (show h[j].1<((40:Nat):Int) by omega)];rfl
    rw[decide_eq_true q2,if_pos e,iF (by omega) (by omega),List.length_append]
    rfl
   ·have e:¬ kX 40 h[j]=true:=by unfold kX;rw[decide_eq_false (show ¬ h[j].1<((40:Nat):Int) by omega)];simp
    rw[decide_eq_false q2,if_neg e,List.append_nil];rfl
  ·have e:¬ kX 40 h[j]=true:=by unfold kX;rw[decide_eq_false q1];simp
   rw[decide_eq_false q1,if_neg e,List.append_nil];rfl) (by
  simp only[tE,Kn]
  rw[Rk,List.take_length];rfl) (by omega)
 exact k
theorem LW (h:List LT):f4 h=some (true,()):=by
 unfold f4
 rw[Ee,Ez]
 simp only[Option.bind_some,Bool.not_true,cond_false]
 by_cases hl:((h.length:Nat):Int)≤200
 case neg=>rw[decide_eq_false hl];rfl
 rw[decide_eq_true hl]
 simp only[Bool.not_true,cond_false,Q8 h (by omega) 0,Option.bind_some,Qn h _ (show h.length≤200 by omega),decide_true,cond_true,Ji h (by omega)]
end Go.Proofs.Zz
namespace Go.Proofs.YtckgffnmfgjehaaGreat.indexOf
open Go Go.Sy Go.RowKit Go.Proofs.Zz Go.ChangeShapes
set_option linter.unusedVariables false
set_option maxRecDepth 100000
theorem lifted (os:Os)(started:os.Started)(H:Type)(enc:TypeId×Value→H) :
  ReturnsInHanded {} Tryz.checked os 4 .any (Rows.indexOfSpec.pre6 enc Tryz.prog Tryz.f4 Rows.indexOfRow.domain false) (Rows.indexOfSpec.post enc Tryz.prog Tryz.f4 false true false false):=
 fH (C:=Tryz.checked) (Ts:=Ui) (F:=KY.f) (ts:=[22]) (tb:=4) own started (by kernel_rfl) Tryz.func4
  (ChangeSpec.witness6 (enc:=enc) (C:=Tryz.checked) false ⟨#[],#[.slice none 0 0],[]⟩ 8 (by kernel_rfl) (by kernel_rfl) (by kernel_rfl) (by kernel_rfl))
  (fun W hs=>trivial) laidOut k4 Tryz.params4 (by kernel_rfl) Tryz.underlying4
  (fun t ht=>by
   have h:([22].all fun t=>Tryz.prog.readableRec t&&decide (t<Tryz.prog.types.size))=true:=by kernel_rfl
   have:=List.all_eq_true.1 h t ht
   rw[Bool.and_eq_true,decide_eq_true_eq] at this
   exact this)
  ⟨by kernel_rfl,trivial⟩ rfl (fun ds hds=>by
   match ds,hds with
   | [d1],_=>rfl)
  (fun x hx=>LW x.1)
theorem holds:Rows.IndexOfSaid:=
 OpenClaim.holds_of_wide 4 Tryz.f4 rfl rfl rfl rfl rfl rfl rfl ⟨rfl,rfl,rfl,rfl,rfl⟩ rfl rfl rfl rfl rfl (by kernel_rfl) Tryz.func4 (by kernel_rfl)
  (of_decide_eq_true (by kernel_rfl)) (by unfold Func.isWrapper;first|(rw[if_pos (by decide +kernel)];kernel_rfl)|(rw[if_neg (by decide +kernel)];exact⟨rfl,rfl⟩))
  (fun os started H enc _=>lifted os started H enc)
end Go.Proofs.YtckgffnmfgjehaaGreat.indexOf
namespace Go.Proofs.YtckgffnmfgjehaaGreat
theorem indexOf_holds:Rows.IndexOfSaid:=indexOf.holds
end Go.Proofs.YtckgffnmfgjehaaGreat
