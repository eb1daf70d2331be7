/- Pure18_7, Eq18_7, P18_7, Law18_7. -/
import Derived.Test.YtckgffnmfgjehaaGreatPU
import Derived.Test.YtckgffnmfgjehaaGreatEQ
import Derived.Test.YtckgffnmfgjehaaGreatFD
import Derived.Test.YtckgffnmfgjehaaGreatPD
open List.cons renaming injEq → ae
open Option.some renaming injEq → al, inj → be
open Int renaming toNat → ap
open Bool renaming not_true → aw
open Prod.mk renaming injEq → ba
namespace Go.Proofs.Zz
open Go Go.Sy
set_option linter.unusedVariables false
set_option maxRecDepth 100000
noncomputable def f7 (v1:Int)(v2:(List (Int×(List Int)×Int)))(v3:Int):Option (Bool×Unit):=
 (f8).bind fun y4=>
 ((f17 v1 v2)).bind fun y5=>
 cond (!y4.1) (
  some (y4.1,())) (
  cond (!y5.1) (
   some (y4.1,())) (
   ((f18 v1 v2)).bind fun y6=>
   ((f19 v1 v2)).bind fun y7=>
   cond (!(decide (y6.2.2.1=0))) (
    some ((decide ((y7.1.length:Int)=0)),())) (
    cond (decide (0≤v3)) (
     cond (decide (v3<(y6.2.1.2.2.2.2.1.length:Int))) (
      cond ((decide (0≤v3))&&(decide (v3<(y6.2.1.2.2.2.2.1.length:Int)))) (
       ((f20 y7.1 (rd (.pair (.int .i64) (.pair (.int .i64) (.pair (.int .i64) (.pair (.int .i64) (.int .i64))))) y6.2.1.2.2.2.2.1 (ap v3)).1 (rd (.pair (.int .i64) (.pair (.int .i64) (.pair (.int .i64) (.pair (.int .i64) (.int .i64))))) y6.2.1.2.2.2.2.1 (ap v3)).2.1 (rd (.pair (.int .i64) (.pair (.int .i64) (.pair (.int .i64) (.pair (.int .i64) (.int .i64))))) y6.2.1.2.2.2.2.1 (ap v3)).2.2.1 (rd (.pair (.int .i64) (.pair (.int .i64) (.pair (.int .i64) (.pair (.int .i64) (.int .i64))))) y6.2.1.2.2.2.2.1 (ap v3)).2.2.2.1 (rd (.pair (.int .i64) (.pair (.int .i64) (.pair (.int .i64) (.pair (.int .i64) (.int .i64))))) y6.2.1.2.2.2.2.1 (ap v3)).2.2.2.2)).bind fun y8=>
       cond (decide (y8.2.1=(y6.2.1.2.2.2.2.1.length:Int))) (
        cond (decide ((rd (.pair (.int .i64) (.pair (.int .i64) (.pair (.int .i64) (.pair (.int .i64) (.int .i64))))) y6.2.1.2.2.2.2.1 (ap v3)).1<0)) (
         some (true,())) (
         some ((decide (y8.1=1)),()))) (
        some (false,()))) (
       none)) (
      ((f20 y7.1 (-1) 0 0 0 0)).bind fun y9=>
      cond (decide (y9.2.1=(y6.2.1.2.2.2.2.1.length:Int))) (
       some (true,())) (
       some (false,())))) (
     ((f20 y7.1 (-1) 0 0 0 0)).bind fun y10=>
     cond (decide (y10.2.1=(y6.2.1.2.2.2.2.1.length:Int))) (
      some (true,())) (
      some (false,()))))))
set_option maxHeartbeats 0
abbrev ps7:List Ty:=[.pair (.int .i64) (.row (.pair (.int .i64) (.pair (.row (.int .u8)) (.int .i64)))),.int .i64]
abbrev rs7:List eG:=[.val (.bool)]
noncomputable abbrev L7:List (Nat×aX):=[(8,aaG),(17,UA),(18,Vz),(19,M8),(20,Vb)]
noncomputable abbrev U7:List (Nat×b5):=[]
noncomputable abbrev C7:Cons:=Oq L7 U7
noncomputable abbrev S7:List (Nat×Nat×aK):=[]
noncomputable def Uw:aX:=⟨ps7,rs7,fun x=>f7 x.1.1 x.1.2 x.2.1⟩
theorem e7 (x:dQ ps7):Ud Tryz.prog C7 (pZ S7) az 10 7 ps7 rs7 x=Uw.f x:=by kernel_rfl
theorem ok7 [aq][Ng Tryz.prog](h:C6 Tryz.prog L7)(h':NO Tryz.prog U7):Uw.OK Tryz.prog 7:=aa (an h h') (ak (l:=S7) trivial) e7
theorem k7:Uw.OK Tryz.prog 7:=ok7 ⟨k8,k17,k18,k19,k20,trivial⟩ trivial
set_option linter.unusedSimpArgs false
theorem Tz (c:Int)(F:List FD)(i:Int)(hl:F.length≤9223372036854775807)(hi:i≤9223372036854775807)(hB:IC F):f7 c F i=some (true,()):=by
 obtain⟨q,h17,hq⟩:=Zc c F hl
 unfold f7
 rw[aaO,h17]
 simp only[Option.bind_some,aw,cond_false]
 cases q with
 | false=>rfl
 | true=>
  have hD:=(hq rfl).sz
  simp only[aw,cond_false]
  cases hm:gA c F with
  | false=>rw[Un c F hD hm,RJ c F hD hm];rfl
  | true=>
   obtain⟨b,L,h1,hT,hL,hP,hlen⟩:=Tc c F hm hB
   have hb:b.1.length≤1000000000000:=by have:=hD.1;have:401000000 * F.length≤401000000 * 1000:=Nat.mul_le_mul_left _ this;omega
   rw[h1]
   obtain⟨k1,k2⟩:=FW hT hP
   have hx0:=fun a1 a2 a3 a4 a5=>XK b.1 (a1,a2,a3,a4,a5) hb
   simp only at hx0
   rcases Sj c F hm hB with⟨hn,k⟩|⟨A,f,B,r,l,e,g2,g3,k⟩
   ·rw[k]
    have hL0:b.1=[]:=by
     rcases hL with⟨_,_,h⟩|⟨A,f,B,r,l,e,_,g3,_⟩
     ·exact h
     ·have:=hn f (by rw[e];simp)
      rw[g3] at this
      simp only[bN,al,ba] at this
      exact absurd this.2.2.1 (by simp)
    rw[hL0];rfl
   ·rw[k]
    have hL0:L=r.1.2.2.2.2.1:=by
     rcases hL with⟨hn,_⟩|⟨A',f',B',r',l',e',g2',g3',h⟩
     ·have:=hn f (by rw[e];simp)
      rw[g3] at this
      simp only[bN,al,ba] at this
      exact absurd this.2.2.1 (by simp)
     ·
      have ea:A++f::B=A'++f'::B':=by rw[← e,e']
      have bad:∀ g:FD,∀ (r:ST×Nat) (l:List ET),f36 g.2.1=some (bN (some (r,l)))→f36 g.2.1=some (bN none)→False:=by
       intro g r l ha hb
       rw[ha] at hb
       simp only[bN,al,ba] at hb
       exact absurd hb.2.2.1 (by simp)
      rcases List.append_eq_append_iff.1 ea with⟨T,e1,e2⟩|⟨T,e1,e2⟩
      ·cases T with
       | nil=>
        simp only[List.nil_append,ae] at e2
        rw[← e2.1,g3] at g3'
        have:=(ym (be g3')).1
        rw[h,this]
       | cons t T=>
        simp only[List.cons_append,ae] at e2
        exact absurd (g2 f' (by rw[e2.2];simp)) (fun hb=>bad f' r' l' g3' hb)
      ·cases T with
       | nil=>
        simp only[List.nil_append,ae] at e2
        rw[e2.1,g3] at g3'
        have:=(ym (be g3')).1
        rw[h,this]
       | cons t T=>
        simp only[List.cons_append,ae] at e2
        exact absurd (g2' f (by rw[e2.2];simp)) (fun hb=>bad f r l g3 hb)
    subst hL0
    simp only[Option.bind_some,decide_true,aw,cond_false,hx0,k1]
    by_cases i0:0≤i
    case neg=>rw[decide_eq_false i0];rfl
    rw[decide_eq_true i0]
    by_cases i1:i<((r.1.2.2.2.2.1.length:Nat):Int)
    case neg=>rw[decide_eq_false i1];rfl
    rw[decide_eq_true i1]
    obtain⟨j,rfl⟩:∃ j:Nat,i=(j:Int):=⟨i.toNat,by omega⟩
    have hj:j<r.1.2.2.2.2.1.length:=by omega
    simp only[cond_true,Bool.and_self,Int.toNat_natCast,N8 hj]
    have:=k2 _ (List.getElem_mem hj)
    cases decide ((r.1.2.2.2.2.1)[j].1<0) with
    | true=>rfl
    | false=>
     have e:(b.1.filter fun z=>decide (z.2.2.2.2 = -1)&&decide (q4 z=q4 ((r.1.2.2.2.2.1)[j].1,(r.1.2.2.2.2.1)[j].2.1,(r.1.2.2.2.2.1)[j].2.2.1,(r.1.2.2.2.2.1)[j].2.2.2.1,(r.1.2.2.2.2.1)[j].2.2.2.2))).length=1:=this
     rw[cond_false,e];rfl
end Go.Proofs.Zz
namespace Go.Proofs.YtckgffnmfgjehaaGreat.indexOpen
open Go Go.Sy Go.RowKit Go.Proofs.Zz Go.ChangeShapes
set_option linter.unusedVariables false
set_option maxRecDepth 100000
theorem lifted (os:Os)(started:os.Started)(H:Type)(enc:TypeId×Value→H) :
  ReturnsInHanded {} Tryz.checked os 7 .any (Rows.indexOpenSpec.pre6 enc Tryz.prog Tryz.f7 Rows.indexOpenRow.domain false) (Rows.indexOpenSpec.post enc Tryz.prog Tryz.f7 false true false false):=
 DV (C:=Tryz.checked) (Ts:=ps7) (F:=Uw.f) (ts:=[45,3]) (tb:=4) own started (by kernel_rfl) Tryz.func7
  (ChangeSpec.witness6 (enc:=enc) (C:=Tryz.checked) false ⟨#[],#[.agg #[.int .i64 0,.slice none 0 0],.int .i64 0],[]⟩ 8 (by kernel_rfl) (by kernel_rfl) (by kernel_rfl) (by kernel_rfl))
  (fun W hs=>trivial) laidOut k7 Tryz.params7 (by kernel_rfl) Tryz.underlying4
  (fun t ht=>by
   have h:([45,3].all fun t=>Tryz.prog.readableRec t&&decide (t<Tryz.prog.types.size))=true:=by kernel_rfl
   have:=List.all_eq_true.1 h t ht
   rw[Bool.and_eq_true,decide_eq_true_eq] at this
   exact this)
  ⟨by kernel_rfl,by kernel_rfl,trivial⟩ rfl (fun ds hds=>by
   match ds,hds with
   | [d1,d2],_=>rfl)
  (fun x hx=>Tz x.1.1 x.1.2 x.2.1 (ac9 hx.1.2.1) (Zj hx.2.1) (Us hx.1.2.2))
theorem holds:Rows.IndexOpenSaid:=
 OpenClaim.holds_of_wide 7 Tryz.f7 rfl rfl rfl rfl rfl rfl rfl ⟨rfl,rfl,rfl,rfl,rfl⟩ rfl rfl rfl rfl rfl (by kernel_rfl) Tryz.func7 (by kernel_rfl)
  (of_decide_eq_true (by kernel_rfl)) (by unfold Func.isWrapper;first|(rw[if_pos (by decide +kernel)];kernel_rfl)|(rw[if_neg (by decide +kernel)];exact⟨rfl,rfl⟩))
  (fun os started H enc _=>lifted os started H enc)
end Go.Proofs.YtckgffnmfgjehaaGreat.indexOpen
namespace Go.Proofs.YtckgffnmfgjehaaGreat
theorem indexOpen_holds:Rows.IndexOpenSaid:=indexOpen.holds
end Go.Proofs.YtckgffnmfgjehaaGreat
