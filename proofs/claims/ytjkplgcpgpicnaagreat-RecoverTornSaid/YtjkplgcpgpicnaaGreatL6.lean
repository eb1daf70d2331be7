/- Pure17_6, Eq17_6, P17_6, Law17_6. -/
import Derived.Test.YtjkplgcpgpicnaaGreatPU
import Derived.Test.YtjkplgcpgpicnaaGreatEQ
import Derived.Test.YtjkplgcpgpicnaaGreatFD
import Derived.Test.YtjkplgcpgpicnaaGreatPD
namespace Go.Proofs.Zz
open Go Go.Sy
set_option linter.unusedVariables false
set_option maxRecDepth 100000
noncomputable def f6 (v1:(List Int))(v2:Int):Option (Bool×Unit):=
 (f7).bind fun y3=>
 cond (!y3.1) (
  some (y3.1,())) (
  cond (decide (3000<(v1.length:Int))) (
   some (y3.1,())) (
   cond (decide (v2<0)) (
    some (y3.1,())) (
    cond (decide ((v1.length:Int)<v2)) (
     some (y3.1,())) (
     ((f16 v1)).bind fun y4=>
     cond ((decide (0≤v2))&&(decide (v2≤(v1.length:Int)))) (
      ((f16 (List.drop 0 (List.take (Int.toNat v2) v1)))).bind fun y5=>
      ((f18 v1)).bind fun y6=>
      cond ((decide (0≤v2))&&(decide (v2≤(v1.length:Int)))) (
       ((f18 (List.drop 0 (List.take (Int.toNat v2) v1)))).bind fun y7=>
       cond (!y5.2.1) (
        cond (decide (y5.1=0)) (
         some ((decide ((y7.1.length:Int)=0)),())) (
         some (false,()))) (
        cond (!y4.2.1) (
         some (false,())) (
         cond (decide (v2<y5.1)) (
          some (false,())) (
          cond (decide (y4.1<y5.1)) (
           some (false,())) (
           cond (decide ((y6.1.length:Int)<(y7.1.length:Int))) (
            some (false,())) (
            cond ((decide (0≤(y7.1.length:Int)))&&(decide ((y7.1.length:Int)≤(y6.1.length:Int)))) (
             ((f20 y7.1 (List.drop 0 (List.take (Int.toNat (y7.1.length:Int)) y6.1)))).bind fun y8=>
             cond (!y8.1) (
              some (false,())) (
              cond (decide (v2<y4.1)) (
               some (true,())) (
               cond (decide (y5.1=y4.1)) (
                some ((decide ((y7.1.length:Int)=(y6.1.length:Int))),())) (
                some (false,()))))) (
             none))))))) (
       none)) (
      none)))))
set_option maxHeartbeats 0
abbrev ZT:List Ty:=[.row (.int .u8),.int .i64]
abbrev rs6:List dM:=[.val (.bool)]
noncomputable abbrev L6:List (Nat×aS):=[(7,Nu),(16,Cn),(18,Gx),(20,Tq)]
noncomputable abbrev U6:List (Nat×bI):=[]
noncomputable abbrev C6:Cons:=xI L6 U6
noncomputable abbrev S6:List (Nat×Nat×aK):=[]
noncomputable def Qt:aS:=⟨ZT,rs6,fun x=>f6 x.1 x.2.1⟩
theorem e6 (x:cS ZT):Fh Tryz.prog C6 (kN S6) aA 10 6 ZT rs6 x=Qt.f x:=by kernel_rfl
theorem ok6 [aq][BP Tryz.prog](h:r7 Tryz.prog L6)(h':CF Tryz.prog U6):Qt.OK Tryz.prog 6:=aa (ak h h') (ah (l:=S6) trivial) e6
theorem k6:Qt.OK Tryz.prog 6:=ok6 ⟨k7,ZK,k18,k20,trivial⟩ trivial
set_option linter.unusedSimpArgs false
theorem Po (xs:List Int)(k:Int)(hB:Qr xs):f6 xs k=some (true,()):=by
 obtain⟨b,rfl,hb⟩:=hB
 unfold f6
 rw[Ig]
 simp only[Option.bind_some,Bool.not_true,cond_false,aC]
 by_cases hl:b.length≤3000
 case neg=>rw[decide_eq_true (by omega)];rfl
 rw[decide_eq_false (by omega)]
 by_cases h0:k<0
 ·rw[decide_eq_true h0];rfl
 rw[decide_eq_false h0]
 by_cases h1:((b.length:Nat):Int)<k
 ·rw[decide_eq_true h1];rfl
 rw[decide_eq_false h1]
 obtain⟨j,rfl⟩:∃ j:Nat,k=j:=⟨k.toNat,by omega⟩
 have hj:j≤b.length:=by omega
 have hs:List.drop 0 (List.take j (ints b))=ints (b.take j):=by rw[List.drop_zero,bF]
 have hbj:∀ c∈b.take j,c<256:=fun c hc=>hb c (List.mem_of_mem_take hc)
 obtain⟨o,ho,h25⟩:=fU b hb (by omega)
 obtain⟨o',ho',h25'⟩:=fU (b.take j) hbj (by rw[List.length_take];omega)
 cases ho' with
 | bad h=>
  simp only[cond_false,uP h25,Option.bind_some,decide_eq_true (show (0:Int)≤(j:Int) by omega),decide_eq_true (show (j:Int)≤((b.length:Nat):Int) by omega),Bool.and_self,cond_true,Int.toNat_natCast,hs,QC h25',zi h25,Qs h25']
  rfl
 | @good s n r' l' h hr'=>
  obtain⟨hM,_,hn⟩:=gW hbj h
  rw[List.length_take] at hn
  have hF:=sK hbj (b':=b) h (by rw[List.take_take,Nat.min_eq_left (by omega)])
  cases ho with
  | bad h2=>rw[hF] at h2;cases h2
  | @good s2 n2 r l h2 hr=>
   rw[hF] at h2
   simp only[Option.some.injEq,Prod.mk.injEq] at h2
   obtain⟨rfl,rfl⟩:=h2
   obtain⟨c1,⟨q,rfl⟩,c3⟩:=Reads.cut bU eC hb j hr hr'
   have hle:=Reads.le bU eC hbj hr'
   have hle2:=Reads.le bU eC hb hr
   have hj2:=hle.2.1 (by rw[List.length_take];simp only;omega)
   rw[List.length_take] at hj2
   have hlen:l'.length≤(l'++q).length:=by rw[List.length_append];omega
   have ht:List.drop 0 (List.take l'.length (l'++q))=l':=by rw[List.drop_zero,List.take_left' rfl]
   have h20:=MQ l' (by
    have:=hle.2.2
    omega)
   simp only[cond_false,uD h25,Option.bind_some,decide_eq_true (show (0:Int)≤(j:Int) by omega),decide_eq_true (show (j:Int)≤((b.length:Nat):Int) by omega),Bool.and_self,cond_true,Int.toNat_natCast,hs,uD h25',D9 h25,D9 h25']
   simp only[Bool.not_true,cond_false,decide_eq_false (show ¬ ((j:Nat):Int)<((r'.2:Nat):Int) by omega),decide_eq_false (show ¬ ((r.2:Nat):Int)<((r'.2:Nat):Int) by omega),decide_eq_false (show ¬ (((l'++q).length:Nat):Int)<((l'.length:Nat):Int) by omega),fe,decide_eq_true (show ((l'.length:Nat):Int)≤(((l'++q).length:Nat):Int) by omega),Bool.and_self,cond_true,Int.toNat_natCast,ht,h20,Option.bind_some]
   by_cases hjk:(j:Int)<((r.2:Nat):Int)
   ·rw[decide_eq_true hjk];rfl
   ·rw[decide_eq_false hjk]
    obtain⟨e1,e2⟩:=c3 (by omega)
    rw[e1,← e2]
    simp only[cond_false,decide_true,cond_true]
end Go.Proofs.Zz
namespace Go.Proofs.YtjkplgcpgpicnaaGreat.recoverTorn
open Go Go.Sy Go.RowKit Go.Proofs.Zz Go.ChangeShapes
set_option linter.unusedVariables false
set_option maxRecDepth 100000
theorem lifted (os:Os)(started:os.Started)(H:Type)(enc:TypeId×Value→H) :
  ReturnsInHanded {} Tryz.checked os 6 .any (Rows.recoverTornSpec.pre6 enc Tryz.prog Tryz.f6 Rows.recoverTornRow.domain false) (Rows.recoverTornSpec.post enc Tryz.prog Tryz.f6 false true false false):=
 iH (C:=Tryz.checked) (Ts:=ZT) (F:=Qt.f) (ts:=[47,3]) (tb:=4) own started (by kernel_rfl) Tryz.func6
  (ChangeSpec.witness6 (enc:=enc) (C:=Tryz.checked) false ⟨#[],#[.slice none 0 0,.int .i64 0],[]⟩ 8 (by kernel_rfl) (by kernel_rfl) (by kernel_rfl) (by kernel_rfl))
  (fun W hs=>trivial) laidOut k6 Tryz.params6 (by kernel_rfl) Tryz.underlying4
  (fun t ht=>by
   have h:([47,3].all fun t=>Tryz.prog.readableRec t&&decide (t<Tryz.prog.types.size))=true:=by kernel_rfl
   have:=List.all_eq_true.1 h t ht
   rw[Bool.and_eq_true,decide_eq_true_eq] at this
   exact this)
  ⟨by kernel_rfl,by kernel_rfl,trivial⟩ rfl (fun ds hds=>by
   match ds,hds with
   | [d1,d2],_=>rfl)
  (fun x hx=>Po x.1 x.2.1 (Bb hx.1.2))
theorem holds:Rows.RecoverTornSaid:=
 OpenClaim.holds_of_wide 6 Tryz.f6 rfl rfl rfl rfl rfl rfl rfl ⟨rfl,rfl,rfl,rfl,rfl⟩ rfl rfl rfl rfl rfl (by kernel_rfl) Tryz.func6 (by kernel_rfl)
  (of_decide_eq_true (by kernel_rfl)) (by unfold Func.isWrapper;first|(rw[if_pos (by decide +kernel)];kernel_rfl)|(rw[if_neg (by decide +kernel)];exact⟨rfl,rfl⟩))
  (fun os started H enc _=>lifted os started H enc)
end Go.Proofs.YtjkplgcpgpicnaaGreat.recoverTorn
namespace Go.Proofs.YtjkplgcpgpicnaaGreat
theorem recoverTorn_holds:Rows.RecoverTornSaid:=recoverTorn.holds
end Go.Proofs.YtjkplgcpgpicnaaGreat
