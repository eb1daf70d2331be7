/- Pure18_3, Eq18_3, P18_3, Law18_3. -/
import Derived.Test.YtckgffnmfgjehaaGreatPU
import Derived.Test.YtckgffnmfgjehaaGreatEQ
import Derived.Test.YtckgffnmfgjehaaGreatFD
import Derived.Test.YtckgffnmfgjehaaGreatPA
namespace Go.Proofs.Zz
open Go Go.Sy
set_option linter.unusedVariables false
set_option maxRecDepth 100000
abbrev Pn:Type:=((List (Int×Int×Int×Int×Int))×Int×Int×Int×(List (Int×Int×Int×Int×Int))×Bool×Int×Unit)×(Unit)×(Unit)
abbrev TO:Type:=((List (Int×Int×Int×Int×Int))×Int×Int×Int×(List (Int×Int×Int×Int×Int))×Bool×Unit)×(Unit)×(Unit)
abbrev RQ:Type:=Unit×Unit×Unit
noncomputable def Qs (v1:(List (Int×Int×Int×Int×Int)))(v2 v3 v4:Int)(v5:(List (Int×Int×Int×Int×Int)))(v6:Bool)(v7:Int):Option (R3 Pn TO RQ):=
 cond (decide (v7<(v5.length:Int))) (
  cond v6 (
   some (R3.next ((v1,v2,v3,v4,v5,true,(IntKind.wrap .i64 (v7+1)),()),(),()))) (
   cond ((decide (0≤v7))&&(decide (v7<(v5.length:Int)))) (
    cond ((decide (0≤v4))&&(decide (v4<(v1.length:Int)))) (
     some (R3.next ((v1,v2,v3,v4,v5,((decide ((rd (.pair (.int .i64) (.pair (.int .i64) (.pair (.int .i64) (.pair (.int .i64) (.int .i64))))) v5 (Int.toNat v7)).1=(rd (.pair (.int .i64) (.pair (.int .i64) (.pair (.int .i64) (.pair (.int .i64) (.int .i64))))) v1 (Int.toNat v4)).1))&&((decide ((rd (.pair (.int .i64) (.pair (.int .i64) (.pair (.int .i64) (.pair (.int .i64) (.int .i64))))) v5 (Int.toNat v7)).2.1=(rd (.pair (.int .i64) (.pair (.int .i64) (.pair (.int .i64) (.pair (.int .i64) (.int .i64))))) v1 (Int.toNat v4)).2.1))&&((decide ((rd (.pair (.int .i64) (.pair (.int .i64) (.pair (.int .i64) (.pair (.int .i64) (.int .i64))))) v5 (Int.toNat v7)).2.2.1=(rd (.pair (.int .i64) (.pair (.int .i64) (.pair (.int .i64) (.pair (.int .i64) (.int .i64))))) v1 (Int.toNat v4)).2.2.1))&&((decide ((rd (.pair (.int .i64) (.pair (.int .i64) (.pair (.int .i64) (.pair (.int .i64) (.int .i64))))) v5 (Int.toNat v7)).2.2.2.1=(rd (.pair (.int .i64) (.pair (.int .i64) (.pair (.int .i64) (.pair (.int .i64) (.int .i64))))) v1 (Int.toNat v4)).2.2.2.1))&&((decide ((rd (.pair (.int .i64) (.pair (.int .i64) (.pair (.int .i64) (.pair (.int .i64) (.int .i64))))) v5 (Int.toNat v7)).2.2.2.2=(rd (.pair (.int .i64) (.pair (.int .i64) (.pair (.int .i64) (.pair (.int .i64) (.int .i64))))) v1 (Int.toNat v4)).2.2.2.2))&&true))))),(IntKind.wrap .i64 (v7+1)),()),(),()))) (
     none)) (
    none))) (
  some (R3.out ((v1,v2,v3,v4,v5,v6,()),(),())))
noncomputable def FF (z:Pn):Option (R3 Pn TO RQ):=Qs z.1.1 z.1.2.1 z.1.2.2.1 z.1.2.2.2.1 z.1.2.2.2.2.1 z.1.2.2.2.2.2.1 z.1.2.2.2.2.2.2.1
noncomputable def f3 (v1:(List (Int×Int×Int×Int×Int)))(v2 v3 v4:Int):Option (Bool×Unit):=
 (f8).bind fun y5=>
 ((f9 v1)).bind fun y6=>
 cond (!y5.1) (
  some (y5.1,())) (
  cond (!y6.1) (
   some (y5.1,())) (
   cond (decide (v4<0)) (
    some (y5.1,())) (
    cond (decide ((v1.length:Int)≤v4)) (
     some (y5.1,())) (
     cond (decide (v3<v2)) (
      some (y5.1,())) (
      ((f10 v1 v2 v3)).bind fun y7=>
      ((iter aI FF ((v1,v2,v3,v4,y7.1,false,0,()),(),()))).bind fun r=>match r with
      | .inl y8=>
        cond ((decide (0≤y8.1.2.2.2.1))&&(decide (y8.1.2.2.2.1<(y8.1.1.length:Int)))) (
         cond (!(decide ((rd (.pair (.int .i64) (.pair (.int .i64) (.pair (.int .i64) (.pair (.int .i64) (.int .i64))))) y8.1.1 (Int.toNat y8.1.2.2.2.1)).2.2.2.2=(-1)))) (
          cond (decide ((rd (.pair (.int .i64) (.pair (.int .i64) (.pair (.int .i64) (.pair (.int .i64) (.int .i64))))) y8.1.1 (Int.toNat y8.1.2.2.2.1)).2.2.2.1≤y8.1.2.2.1)) (
           cond (y8.1.2.2.2.2.2.1 == (!(decide ((rd (.pair (.int .i64) (.pair (.int .i64) (.pair (.int .i64) (.pair (.int .i64) (.int .i64))))) y8.1.1 (Int.toNat y8.1.2.2.2.1)).2.2.2.2≤y8.1.2.1)))) (
            cond (decide ((y8.1.2.2.2.2.1.length:Int)≤(y8.1.1.length:Int))) (
             ((f11 y8.1.2.2.2.2.1 (rd (.pair (.int .i64) (.pair (.int .i64) (.pair (.int .i64) (.pair (.int .i64) (.int .i64))))) y8.1.1 (Int.toNat y8.1.2.2.2.1)).1)).bind fun y10=>
             ((f11 y8.1.1 (rd (.pair (.int .i64) (.pair (.int .i64) (.pair (.int .i64) (.pair (.int .i64) (.int .i64))))) y8.1.1 (Int.toNat y8.1.2.2.2.1)).1)).bind fun y11=>
             some ((decide ((y10.1.length:Int)≤(y11.1.length:Int))),())) (
             some (false,()))) (
            some (false,()))) (
           cond (y8.1.2.2.2.2.2.1 == false) (
            cond (decide ((y8.1.2.2.2.2.1.length:Int)≤(y8.1.1.length:Int))) (
             ((f11 y8.1.2.2.2.2.1 (rd (.pair (.int .i64) (.pair (.int .i64) (.pair (.int .i64) (.pair (.int .i64) (.int .i64))))) y8.1.1 (Int.toNat y8.1.2.2.2.1)).1)).bind fun y12=>
             ((f11 y8.1.1 (rd (.pair (.int .i64) (.pair (.int .i64) (.pair (.int .i64) (.pair (.int .i64) (.int .i64))))) y8.1.1 (Int.toNat y8.1.2.2.2.1)).1)).bind fun y13=>
             some ((decide ((y12.1.length:Int)≤(y13.1.length:Int))),())) (
             some (false,()))) (
            some (false,())))) (
          cond (decide ((rd (.pair (.int .i64) (.pair (.int .i64) (.pair (.int .i64) (.pair (.int .i64) (.int .i64))))) y8.1.1 (Int.toNat y8.1.2.2.2.1)).2.2.2.1≤y8.1.2.2.1)) (
           cond (y8.1.2.2.2.2.2.1 == true) (
            cond (decide ((y8.1.2.2.2.2.1.length:Int)≤(y8.1.1.length:Int))) (
             ((f11 y8.1.2.2.2.2.1 (rd (.pair (.int .i64) (.pair (.int .i64) (.pair (.int .i64) (.pair (.int .i64) (.int .i64))))) y8.1.1 (Int.toNat y8.1.2.2.2.1)).1)).bind fun y14=>
             ((f11 y8.1.1 (rd (.pair (.int .i64) (.pair (.int .i64) (.pair (.int .i64) (.pair (.int .i64) (.int .i64))))) y8.1.1 (Int.toNat y8.1.2.2.2.1)).1)).bind fun y15=>
             some ((decide ((y14.1.length:Int)≤(y15.1.length:Int))),())) (
             some (false,()))) (
            some (false,()))) (
           cond (y8.1.2.2.2.2.2.1 == false) (
            cond (decide ((y8.1.2.2.2.2.1.length:Int)≤(y8.1.1.length:Int))) (
             ((f11 y8.1.2.2.2.2.1 (rd (.pair (.int .i64) (.pair (.int .i64) (.pair (.int .i64) (.pair (.int .i64) (.int .i64))))) y8.1.1 (Int.toNat y8.1.2.2.2.1)).1)).bind fun y16=>
             ((f11 y8.1.1 (rd (.pair (.int .i64) (.pair (.int .i64) (.pair (.int .i64) (.pair (.int .i64) (.int .i64))))) y8.1.1 (Int.toNat y8.1.2.2.2.1)).1)).bind fun y17=>
             some ((decide ((y16.1.length:Int)≤(y17.1.length:Int))),())) (
             some (false,()))) (
            some (false,()))))) (
         none)
      | .inr z9=>
        none)))))
set_option maxHeartbeats 0
abbrev Ud:List Ty:=[.row (.pair (.int .i64) (.pair (.int .i64) (.pair (.int .i64) (.pair (.int .i64) (.int .i64))))),.int .i64,.int .i64,.int .i64]
abbrev Wj:List cO:=[.val (.bool)]
noncomputable abbrev L3:List (Nat×aT):=[(8,Iz),(9,Hf),(10,HO),(11,D5)]
noncomputable abbrev U3:List (Nat×bF):=[]
noncomputable abbrev C3:Cons:=uh L3 U3
abbrev VG:ai:=⟨106,[(0,.cont (.pair (.int .i64) (.pair (.int .i64) (.pair (.int .i64) (.pair (.int .i64) (.int .i64)))))),(1,.int .i64),(2,.int .i64),(3,.int .i64),(11,.cont (.pair (.int .i64) (.pair (.int .i64) (.pair (.int .i64) (.pair (.int .i64) (.int .i64)))))),(12,.bool),(13,.int .i64)],[],[],[]⟩
abbrev Ur:ai:=⟨106,[(0,.cont (.pair (.int .i64) (.pair (.int .i64) (.pair (.int .i64) (.pair (.int .i64) (.int .i64)))))),(1,.int .i64),(2,.int .i64),(3,.int .i64),(11,.cont (.pair (.int .i64) (.pair (.int .i64) (.pair (.int .i64) (.pair (.int .i64) (.int .i64)))))),(12,.bool)],[],[],[]⟩
abbrev Ul:ai:=⟨106,[],[],[],[]⟩
noncomputable def Sd:aG:=⟨9,3,VG,0,Ur,Ul,FF,false,none,none,[]⟩
noncomputable abbrev S3:List (Nat×Nat×aG):=[(4294967296,8,Sd)]
noncomputable def Lr:aT:=⟨Ud,Wj,fun x=>f3 x.1 x.2.1 x.2.2.1 x.2.2.2.1⟩
theorem UJ:Round Tryz.prog C3 (eC S3) aI 4294967296 8 Sd:=⟨by kernel_rfl,fun z=>by kernel_rfl⟩
theorem e3 (x:cC Ud):Cs Tryz.prog C3 (eC S3) aI 10 3 Ud Wj x=Lr.f x:=by kernel_rfl
theorem WY [aq][Ab Tryz.prog](h:oV Tryz.prog L3)(h':yG Tryz.prog U3):Lr.OK Tryz.prog 3:=aa (an h h') (aj (l:=S3) ⟨UJ,trivial⟩) e3
theorem k3:Lr.OK Tryz.prog 3:=WY ⟨k8,k9,Wk,Up,trivial⟩ trivial
set_option linter.unusedSimpArgs false
theorem Th (h l:List LT)(frm to:Int)(i:Nat)(hi:i<h.length)(hl:l.length≤1000000) :
  iter aI FF ((h,frm,to,((i:Nat):Int),l,false,0,()),(),())=some (.inl ((h,frm,to,((i:Nat):Int),l,(l.any fun x=>decide (x=h[i]),())),(),())):=by
 have k:=gI (u:=FF) (fun j=>((h,frm,to,((i:Nat):Int),l,((l.take j).any fun x=>decide (x=h[i]),(((j:Nat):Int),()))),(),())) (n:=l.length) (y:=((h,frm,to,((i:Nat):Int),l,(l.any fun x=>decide (x=h[i]),())),(),())) (fun j hj=>by
  have ht:((l.take (j+1)).any fun x=>decide (x=h[i]))=(((l.take j).any fun x=>decide (x=h[i]))||decide (l[j]=h[i])):=by
   rw[List.take_succ_eq_append_getElem hj,List.any_append];simp
  simp only[FF,Qs,LC hj,K7,LC hi,cond_true,Bool.and_self,Int.toNat_natCast,NN hj,NN hi,H8,nx hj (show l.length≤9223372036854775807 by omega)]
  rw[ht]
  cases ((l.take j).any fun x=>decide (x=h[i])) with
  | true=>rfl
  | false=>rfl) (by
  simp only[FF,Qs]
  rw[Rk,List.take_length];rfl) (by omega)
 exact k
theorem LY (h:List LT)(frm to i:Int):f3 h frm to i=some (true,()):=by
 unfold f3
 rw[Ee,Ez]
 simp only[Option.bind_some,Bool.not_true,cond_false]
 by_cases hl:((h.length:Nat):Int)≤200
 case neg=>rw[decide_eq_false hl];rfl
 rw[decide_eq_true hl]
 by_cases h0:i<0
 ·rw[decide_eq_true h0];rfl
 rw[decide_eq_false h0]
 by_cases h1:((h.length:Nat):Int)≤i
 ·rw[decide_eq_true h1];rfl
 rw[decide_eq_false h1]
 by_cases h2:to<frm
 ·rw[decide_eq_true h2];rfl
 rw[decide_eq_false h2]
 obtain⟨j,rfl⟩:∃ j:Nat,i=j:=⟨i.toNat,by omega⟩
 have hj:j<h.length:=by omega
 have hle:=List.length_filter_le (qg frm to) h
 have hloop:=Th h (h.filter (qg frm to)) frm to j hj (by omega)
 have hany:((h.filter (qg frm to)).any fun x=>decide (x=h[j]))=qg frm to h[j]:=by
  cases hb:qg frm to h[j] with
  | true=>
   rw[List.any_eq_true]
   exact⟨h[j],List.mem_filter.2 ⟨List.getElem_mem hj,hb⟩,by simp⟩
  | false=>
   rw[List.any_eq_false]
   intro x hx hh
   have he:=of_decide_eq_true hh
   have:=(List.mem_filter.1 hx).2
   rw[he,hb] at this;cases this
 have hs:((h.filter (qg frm to)).filter (pL h[j].1)).length≤(h.filter (pL h[j].1)).length:=by
  rw[List.filter_filter]
  have e:(h.filter fun a=>pL h[j].1 a&&qg frm to a)=(h.filter (pL h[j].1)).filter (qg frm to):=by rw[List.filter_filter];congr 1;funext a;rw[Bool.and_comm]
  rw[e];exact List.length_filter_le _ _
 rw[hany] at hloop
 simp only[Bool.not_true,cond_false,QZ h frm to (by omega),Option.bind_some,hloop,K7,LC hj,Bool.and_self,cond_true,Int.toNat_natCast,NN hj,Cv (h.filter (qg frm to)) h[j].1 (by omega),Cv h h[j].1 (by omega),
  decide_eq_true (show (((h.filter (qg frm to)).length:Nat):Int)≤((h.length:Nat):Int) by omega),decide_eq_true (show ((((h.filter (qg frm to)).filter (pL h[j].1)).length:Nat):Int)≤(((h.filter (pL h[j].1)).length:Nat):Int) by omega)]
 unfold qg
 by_cases q1:h[j].2.2.2.2 = -1
 ·rw[decide_eq_true q1]
  by_cases q2:h[j].2.2.2.1≤to
  ·rw[decide_eq_true q2];rfl
  ·rw[decide_eq_false q2];rfl
 ·rw[decide_eq_false q1]
  by_cases q2:h[j].2.2.2.1≤to
  ·rw[decide_eq_true q2]
   by_cases q3:frm<h[j].2.2.2.2
   ·rw[decide_eq_true q3,decide_eq_false (show ¬ h[j].2.2.2.2≤frm by omega)];rfl
   ·rw[decide_eq_false q3,decide_eq_true (show h[j].2.2.2.2≤frm by omega)];rfl
  ·rw[decide_eq_false q2];rfl
end Go.Proofs.Zz
namespace Go.Proofs.YtckgffnmfgjehaaGreat.indexBetween
open Go Go.Sy Go.RowKit Go.Proofs.Zz Go.ChangeShapes
set_option linter.unusedVariables false
set_option maxRecDepth 100000
theorem lifted (os:Os)(started:os.Started)(H:Type)(enc:TypeId×Value→H) :
  ReturnsInHanded {} Tryz.checked os 3 .any (Rows.indexBetweenSpec.pre6 enc Tryz.prog Tryz.f3 Rows.indexBetweenRow.domain false) (Rows.indexBetweenSpec.post enc Tryz.prog Tryz.f3 false true false false):=
 fH (C:=Tryz.checked) (Ts:=Ud) (F:=Lr.f) (ts:=[22,3,3,3]) (tb:=4) own started (by kernel_rfl) Tryz.func3
  (ChangeSpec.witness6 (enc:=enc) (C:=Tryz.checked) false ⟨#[],#[.slice none 0 0,.int .i64 0,.int .i64 0,.int .i64 0],[]⟩ 8 (by kernel_rfl) (by kernel_rfl) (by kernel_rfl) (by kernel_rfl))
  (fun W hs=>trivial) laidOut k3 Tryz.params3 (by kernel_rfl) Tryz.underlying4
  (fun t ht=>by
   have h:([22,3,3,3].all fun t=>Tryz.prog.readableRec t&&decide (t<Tryz.prog.types.size))=true:=by kernel_rfl
   have:=List.all_eq_true.1 h t ht
   rw[Bool.and_eq_true,decide_eq_true_eq] at this
   exact this)
  ⟨by kernel_rfl,by kernel_rfl,by kernel_rfl,by kernel_rfl,trivial⟩ rfl (fun ds hds=>by
   match ds,hds with
   | [d1,d2,d3,d4],_=>rfl)
  (fun x hx=>LY x.1 x.2.1 x.2.2.1 x.2.2.2.1)
theorem holds:Rows.IndexBetweenSaid:=
 OpenClaim.holds_of_wide 3 Tryz.f3 rfl rfl rfl rfl rfl rfl rfl ⟨rfl,rfl,rfl,rfl,rfl⟩ rfl rfl rfl rfl rfl (by kernel_rfl) Tryz.func3 (by kernel_rfl)
  (of_decide_eq_true (by kernel_rfl)) (by unfold Func.isWrapper;first|(rw[if_pos (by decide +kernel)];kernel_rfl)|(rw[if_neg (by decide +kernel)];exact⟨rfl,rfl⟩))
  (fun os started H enc _=>lifted os started H enc)
end Go.Proofs.YtckgffnmfgjehaaGreat.indexBetween
namespace Go.Proofs.YtckgffnmfgjehaaGreat
theorem indexBetween_holds:Rows.IndexBetweenSaid:=indexBetween.holds
end Go.Proofs.YtckgffnmfgjehaaGreat
