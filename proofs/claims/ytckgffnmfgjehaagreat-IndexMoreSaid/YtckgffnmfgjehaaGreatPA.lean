/- P18a, P18b, P18D, P18K, P18W, W18, Row18. -/
import Derived.Test.YtckgffnmfgjehaaGreatPU
import Derived.Test.YtckgffnmfgjehaaGreatFI
import Derived.KernelRfl
import Derived.Test.YtckgffnmfgjehaaGreatFD
import Derived.Test.YtckgffnmfgjehaaGreatEQ
import Derived.Test.YtckgffnmfgjehaaGreatRows
import Derived.ProofKit
import Derived.JoinedOf
namespace Go.Proofs.Zz
open Go Go.Sy
set_option linter.unusedSimpArgs false
set_option linter.unusedVariables false
theorem wI (b k:Int):f61 b k=some (decide (iJ b k),()):=by
 unfold f61
 by_cases h1:0≤k
 case neg=>simp[h1,iJ]
 by_cases h2:k≤32
 case neg=>simp[h1,h2,iJ]
 by_cases h3:0≤b
 case neg=>simp[h1,h2,h3,iJ]
 by_cases h4:b<4294967296
 case neg=>simp[h1,h2,h3,h4,iJ]
 have w:IntKind.wrap .i64 (32-k)=32-k:=iF (by omega) (by omega)
 have hneg:decide (IntKind.wrap .i64 (32-k)<0)=false:=by rw[w];simp;omega
 have hs:=AK h1
 have hp:=qe k
 rw[Jr h1 h2,hneg,iF (show -9223372036854775808≤nX k-1 by omega) (by omega)]
 obtain⟨n,rfl⟩:∃ n:Nat,b=n:=⟨b.toNat,by omega⟩
 have e:aN .and .i64 (n:Int) (nX k-1)=(n:Int) % nX k:=by
  unfold nX
  rw[Dc (by omega) (by omega)];rfl
 simp only[h1,h2,h3,h4,e,decide_true,cond_true,Bool.not_false,iJ,true_and]
theorem gK (b k:Int):f29 b k=some (bL b k,()):=by
 unfold f29
 rw[wI]
 unfold bL
 by_cases h:iJ b k
 ·have w:IntKind.wrap .i64 (32-k)=32-k:=iF (by have:=h.1;have:=h.2.1;omega) (by have:=h.1;have:=h.2.1;omega)
  have hneg:decide (IntKind.wrap .i64 (32-k)<0)=false:=by rw[w];have:=h.2.1;simp;omega
  simp only[Option.bind_some,h,decide_true,Bool.not_true,cond_false,hneg,Bool.not_false,cond_true,if_true,Jr h.1 h.2.1]
 ·simp[h]
theorem IC (b k a:Int):f90 b k a=some (oB b k a,()):=by
 unfold f90
 rw[wI]
 unfold oB
 by_cases hm:iJ b k
 case neg=>simp[hm]
 by_cases h1:a<0
 ·have h:¬ (b≤a):=by have:=hm.2.2.1;omega
  simp[hm,h1,h]
 by_cases h2:4294967296≤a
 ·have h:¬ (a<b+nX k):=by have:=GB hm;omega
  simp[hm,h1,h2,h]
 have w:IntKind.wrap .i64 (32-k)=32-k:=iF (by have:=hm.1;have:=hm.2.1;omega) (by have:=hm.1;have:=hm.2.1;omega)
 have hneg:decide (IntKind.wrap .i64 (32-k)<0)=false:=by rw[w];have:=hm.2.1;simp;omega
 have hmin:min (Int.toNat (IntKind.wrap .i64 (32-k))) 64=(32-k).toNat:=by rw[w,Nat.min_eq_left];have:=hm.1;omega
 obtain⟨n,rfl⟩:∃ n:Nat,b=n:=⟨b.toNat,by have:=hm.2.2.1;omega⟩
 obtain⟨j,rfl⟩:∃ j:Nat,a=j:=⟨a.toNat,by omega⟩
 have hb:=hm.2.2.2.1
 have hn:n % 2 ^ (32-k).toNat=0:=by
  have:=hm.2.2.2.2
  unfold nX at this
  have h:(n:Int) % ((2 ^ (32-k).toNat:Nat):Int)=((n % 2 ^ (32-k).toNat:Nat):Int):=rfl
  rw[h] at this
  omega
 have e:decide (Int.fdiv (aN .xor .i64 (j:Int) (n:Int)) ((2:Int) ^ ((min (Int.toNat (IntKind.wrap .i64 (32-k))) 64):Nat))=0)=decide ((n:Int)≤j∧(j:Int)<n+nX k):=by
  rw[hmin,Tq (by omega) (by omega),fdiv_pow]
  have h1:(j ^^^ n) / 2 ^ (32-k).toNat=(j / 2 ^ (32-k).toNat) ^^^ (n / 2 ^ (32-k).toNat):=by
   rw[← Nat.shiftRight_eq_div_pow,← Nat.shiftRight_eq_div_pow,← Nat.shiftRight_eq_div_pow,Nat.shiftRight_xor_distrib]
  have h2:(j ^^^ n) / 2 ^ (32-k).toNat=0↔j / 2 ^ (32-k).toNat=n / 2 ^ (32-k).toNat:=by
   rw[h1];exact xor_zero _ _
  have h3:=I1 (a:=j) (Nat.two_pow_pos (32-k).toNat) hn
  unfold nX
  rw[decide_eq_decide]
  constructor
  ·intro h
   have:=h3.1 (h2.1 (by omega))
   omega
  ·intro h
   have:=h2.2 (h3.2 (by omega))
   omega
 rw[e]
 simp only[hm,h1,h2,hneg,decide_true,decide_false,Option.bind_some,Bool.not_true,Bool.not_false,cond_false,cond_true,true_and]
 by_cases hin:(n:Int)≤j∧(j:Int)<n+nX k
 ·rw[decide_eq_true hin,if_pos hin,iF (by omega) (by omega)];rfl
 ·rw[decide_eq_false hin,if_neg hin];rfl
theorem QB (b k b' k':Int):f54 b k b' k'=some (decide (ud b k b' k'),()):=by
 unfold f54
 rw[wI,wI,IC,IC]
 unfold ud
 by_cases h1:iJ b k
 case neg=>simp[h1]
 by_cases h2:iJ b' k'
 case neg=>simp[h1,h2]
 have e1:=xU b k b'
 have e2:=xU b' k' b
 simp only[h1,h2,true_and] at e1 e2
 by_cases h3:oB b k b' = -1
 ·have:¬ (b≤b'∧b'<b+nX k):=fun h=>e1.2 h h3
  by_cases h4:oB b' k' b = -1
  ·have h5:¬ (b'≤b∧b<b'+nX k'):=fun h=>e2.2 h h4
   simp[h1,h2,h3,h4,this,h5]
  ·have h5:=e2.1 h4
   simp[h1,h2,h3,h4,this,h5]
 ·have:=e1.1 h3
  simp[h1,h2,h3,this]
theorem QK (a b c:Int):f51 a b c=some (decide (b≤a)&&decide (a≤c),()):=by
 unfold f51
 cases decide (b≤a)<;>rfl
theorem qq {a b c d e f g h:Int}(hx:1≤bL a b)(hy:1≤bL c d):f30 a b c d e f g h=some (Fe (bL a b) (bL c d),()):=by
 unfold f30 pT
 rw[gK,gK]
 simp only[Option.bind_some]
 have hx2:=(ju a b).2
 generalize bL a b=x at hx hx2 ⊢
 generalize bL c d=y at hy ⊢
 have:(cond (decide (y<x)) y x)≠0:=by
  by_cases h:y<x
  ·rw[decide_eq_true h];show y≠0;omega
  ·rw[decide_eq_false h];show x≠0;omega
 rw[decide_eq_false this,decide_eq_false (show ¬ y=0 by omega)]
 simp only[Bool.not_false,cond_true,cond_false]
 have e1:IntKind.wrap .i64 (x-1)=x-1:=iF (by omega) (by omega)
 have h1:0≤(x-1) / y:=Int.ediv_nonneg (by omega) (by omega)
 have h2:(x-1) / y≤x-1:=Int.ediv_le_self _ (by omega)
 have e2:Int.tdiv (x-1) y=(x-1) / y:=Int.tdiv_eq_ediv_of_nonneg (by omega)
 rw[e1,e2,iF (x:=(x-1) / y) (by omega) (by omega),iF (x:=(x-1) / y+1) (by omega) (by omega)]
 rfl
theorem JH (a b c d e f g h:Int):∃ r,f30 a b c d e f g h=some (r,()):=by
 unfold f30 pT
 rw[gK,gK]
 simp only[Option.bind_some]
 have h1:=(ju a b).1
 have h2:=(ju c d).1
 generalize bL a b=x at h1 ⊢
 generalize bL c d=y at h2 ⊢
 by_cases hy:y=0
 ·subst hy
  have:(cond (decide ((0:Int)<x)) 0 x)=0:=by
   by_cases hx:(0:Int)<x
   ·rw[decide_eq_true hx];rfl
   ·rw[decide_eq_false hx];show x=0;omega
  rw[decide_eq_true this]
  exact⟨_,rfl⟩
 ·rw[decide_eq_false hy]
  cases decide ((cond (decide (y<x)) y x)=0)<;>exact⟨_,rfl⟩
theorem HM {e f g:Int}(h1:1≤e)(h2:e≤f)(h3:f≤65535)(h4:0≤g)(h5:g≤f-e)(a b c d h:Int):f58 a b c d e f g h=some (f-e+1-g,()):=by
 unfold f58
 rw[iF (x:=f-e) (by omega) (by omega),iF (x:=f-e+1) (by omega) (by omega),iF (by omega) (by omega)]
theorem Qm (a b c d e f g h:Int):∃ r,f28 a b c d e f g h=some (r,())∧(r=true↔eR ((a,b),(c,d),e,f,g,h)):=by
 obtain⟨q,hq⟩:=JH a b c d e f g h
 unfold f28
 rw[gK,gK]
 simp only[Option.bind_some,QK,QB,hq]
 by_cases c1:1≤bL a b∧bL a b≤32
 case neg=>
  have:(decide (1≤bL a b)&&decide (bL a b≤32))=false:=by rw[Bool.and_eq_false_iff,decide_eq_false_iff_not,decide_eq_false_iff_not];omega
  rw[this]
  exact⟨_,rfl,by simp,fun F=>absurd ⟨F.x1,F.x2⟩ c1⟩
 rw[decide_eq_true c1.1,decide_eq_true c1.2]
 by_cases c2:1≤bL c d∧bL c d≤4
 case neg=>
  have:(decide (1≤bL c d)&&decide (bL c d≤4))=false:=by rw[Bool.and_eq_false_iff,decide_eq_false_iff_not,decide_eq_false_iff_not];omega
  rw[this]
  exact⟨_,rfl,by simp,fun F=>absurd ⟨F.y1,F.y2⟩ c2⟩
 rw[decide_eq_true c2.1,decide_eq_true c2.2]
 simp only[Bool.and_self,cond_true,Bool.not_true,cond_false,Bool.not_not]
 by_cases cm:ud a b c d
 ·rw[decide_eq_true cm]
  exact⟨_,rfl,by simp,fun F=>absurd cm F.meet⟩
 rw[decide_eq_false cm]
 simp only[cond_false]
 by_cases c3:1≤e∧e≤f
 case neg=>
  have:(decide (1≤e)&&decide (e≤f))=false:=by rw[Bool.and_eq_false_iff,decide_eq_false_iff_not,decide_eq_false_iff_not];omega
  rw[this]
  exact⟨_,rfl,by simp,fun F=>absurd ⟨F.PJ,F.Uu⟩ c3⟩
 rw[decide_eq_true c3.1,decide_eq_true c3.2]
 simp only[Bool.and_self,cond_true]
 by_cases c4:f≤65535
 case neg=>
  rw[decide_eq_false c4]
  exact⟨_,rfl,by simp,fun F=>absurd F.hi c4⟩
 rw[decide_eq_true c4,iF (x:=f-e) (by omega) (by omega)]
 simp only[Bool.not_true,cond_false]
 by_cases c6:0≤g∧g≤f-e
 case neg=>
  have:(decide (0≤g)&&decide (g≤f-e))=false:=by rw[Bool.and_eq_false_iff,decide_eq_false_iff_not,decide_eq_false_iff_not];omega
  rw[this]
  exact⟨_,rfl,by simp,fun F=>absurd ⟨F.g1,F.g2⟩ c6⟩
 rw[decide_eq_true c6.1,decide_eq_true c6.2]
 simp only[Bool.and_self,cond_true]
 by_cases c7:1≤h∧h≤65535
 case neg=>
  have:(decide (1≤h)&&decide (h≤65535))=false:=by rw[Bool.and_eq_false_iff,decide_eq_false_iff_not,decide_eq_false_iff_not];omega
  rw[this]
  exact⟨_,rfl,by simp,fun F=>absurd ⟨F.h1,F.h2⟩ c7⟩
 rw[decide_eq_true c7.1,decide_eq_true c7.2,decide_eq_false (show ¬ h=0 by omega)]
 simp only[Bool.and_self,cond_true,Bool.not_false]
 have e2:Int.tdiv g h=g / h:=Int.tdiv_eq_ediv_of_nonneg c6.1
 have p1:0≤g / h:=Int.ediv_nonneg c6.1 (by omega)
 have p2:g / h≤g:=Int.ediv_le_self _ c6.1
 rw[e2,iF (by omega) (by omega)]
 by_cases c8:g / h≤8
 case neg=>
  rw[decide_eq_false c8]
  exact⟨_,rfl,by simp,fun F=>absurd F.blk c8⟩
 rw[decide_eq_true c8,HM c3.1 c3.2 c4 c6.1 c6.2]
 simp only[Bool.not_true,cond_false,Option.bind_some]
 rw[qq c1.1 c2.1,Option.some.injEq,Prod.mk.injEq] at hq
 obtain⟨hq,_⟩:=hq
 by_cases c9:q≤f-e+1-g
 ·rw[decide_eq_true c9]
  exact⟨_,rfl,fun _=>⟨c1.1,c1.2,c2.1,c2.2,cm,c3.1,c3.2,c4,c6.1,c6.2,c7.1,c7.2,c8,by rw[← hq] at c9;exact c9⟩,fun _=>rfl⟩
 ·rw[decide_eq_false c9]
  exact⟨_,rfl,by simp,fun F=>absurd (by have:=F.sh;rw[← hq];exact this) c9⟩
theorem qL (D:DT):f28 D.1.1 D.1.2 D.2.1.1 D.2.1.2 D.2.2.1 D.2.2.2.1 D.2.2.2.2.1 D.2.2.2.2.2=some (decide (eR D),()):=by
 obtain⟨r,h1,h2⟩:=Qm D.1.1 D.1.2 D.2.1.1 D.2.1.2 D.2.2.1 D.2.2.2.1 D.2.2.2.2.1 D.2.2.2.2.2
 rw[h1]
 have:r=decide (eR D):=by
  by_cases hf:eR D
  ·rw[decide_eq_true hf];exact h2.2 hf
  ·rw[decide_eq_false hf]
   cases r with
   | false=>rfl
   | true=>exact absurd (h2.1 rfl) hf
 rw[this]
section
variable {D:DT}
theorem zo (F:eR D):f31 D.1.1 D.1.2 D.2.1.1 D.2.1.2 D.2.2.1 D.2.2.2.1 D.2.2.2.2.1 D.2.2.2.2.2=some (each D,()):=by
 have hr:=F.E6
 have he:=F.Ak
 unfold f31
 rw[qL,decide_eq_true F,HM F.PJ F.Uu F.hi F.g1 F.g2,qq F.x1 F.y1]
 simp only[Option.bind_some,Bool.not_true,cond_false]
 have er:Fe (bL D.1.1 D.1.2) (bL D.2.1.1 D.2.1.2)=dz D:=rfl
 rw[er,decide_eq_false (show ¬ dz D=0 by omega)]
 simp only[Bool.not_false,cond_true]
 have hs:0≤CF D-lC D+1-lQ D:=by have:=F.g2;omega
 have p2:(CF D-lC D+1-lQ D) / dz D≤CF D-lC D+1-lQ D:=Int.ediv_le_self _ hs
 have e2:Int.tdiv (CF D-lC D+1-lQ D) (dz D)=each D:=Int.tdiv_eq_ediv_of_nonneg hs
 unfold each at he e2 ⊢
 rw[e2,iF (by omega) (by have:=F.hi;have:=F.PJ;have:=F.g1;omega)]
theorem JQ (sub:Int):f13 D.1.1 D.1.2 D.2.1.1 D.2.1.2 D.2.2.1 D.2.2.2.1 D.2.2.2.2.1 D.2.2.2.2.2 sub=some (if pK D sub then DE D sub else (0,0,0),decide (pK D sub),()):=by
 unfold f13
 rw[qL]
 simp only[Option.bind_some]
 by_cases F:eR D
 case neg=>
  have:¬ pK D sub:=fun h=>F h.1
  rw[decide_eq_false F,decide_eq_false this,if_neg this];rfl
 rw[decide_eq_true F]
 simp only[Bool.not_true,cond_false]
 by_cases h0:sub<0
 ·have:¬ pK D sub:=fun h=>by have:=h.2.1;omega
  rw[decide_eq_true h0,decide_eq_false this,if_neg this];rfl
 rw[decide_eq_false h0,gK]
 simp only[cond_false,Option.bind_some]
 have ex:bL D.1.1 D.1.2=FP D:=rfl
 by_cases h1:FP D≤sub
 ·have:¬ pK D sub:=fun h=>by have:=h.2.2;omega
  rw[ex,decide_eq_true h1,decide_eq_false this,if_neg this];rfl
 have hS:pK D sub:=⟨F,by omega,by omega⟩
 rw[ex,decide_eq_false h1,qq F.x1 F.y1,zo F,decide_eq_true hS,if_pos hS]
 simp only[cond_false,Option.bind_some]
 have er:Fe (bL D.1.1 D.1.2) (bL D.2.1.1 D.2.1.2)=dz D:=rfl
 rw[er]
 have hr:=F.E6
 have he:=F.Ak
 obtain⟨q1,q2,q3,q4,q5⟩:=F.base (sub:=sub) (by omega) (by omega)
 rw[decide_eq_false (show ¬ dz D=0 by omega)]
 simp only[Bool.not_false,cond_true]
 have t1:Int.tdiv sub (dz D)=sub / dz D:=Int.tdiv_eq_ediv_of_nonneg (by omega)
 have t2:Int.tmod sub (dz D)=sub % dz D:=Int.tmod_eq_emod_of_nonneg (by omega)
 have hy2:=F.y2
 have hhi:=F.hi
 have hlo:=F.PJ
 have hg:=F.g1
 unfold DE
 unfold bW at q3 q4 ⊢
 rw[t1,t2]
 generalize sub % dz D * each D=k at q3 q4 q5 ⊢
 generalize each D=w at he q4 ⊢
 rw[iF (x:=sub / dz D) (by omega) (by omega),iF (x:=k) (by omega) (by omega),iF (x:=lC D+k) (by omega) (by omega),iF (x:=lC D+k+w) (by omega) (by omega),iF (x:=lC D+k+w-1) (by omega) (by omega)]
theorem OP:f33 D.1.1 D.1.2 D.2.1.1 D.2.1.2 D.2.2.1 D.2.2.2.1 D.2.2.2.2.1 D.2.2.2.2.2=some (if eR D then vR D else 0,()):=by
 unfold f33
 rw[qL]
 simp only[Option.bind_some]
 by_cases F:eR D
 case neg=>rw[decide_eq_false F,if_neg F];rfl
 rw[decide_eq_true F,if_pos F]
 have h1:=F.h1
 have g1:=F.g1
 simp only[Bool.not_true,cond_false]
 rw[decide_eq_false (show ¬ I6 D=0 by omega)]
 have e2:Int.tdiv D.2.2.2.2.1 D.2.2.2.2.2=vR D:=Int.tdiv_eq_ediv_of_nonneg g1
 have p1:0≤vR D:=Int.ediv_nonneg g1 (by omega)
 have:=F.blk
 rw[e2,iF (by omega) (by omega)]
 rfl
end
set_option maxRecDepth 100000
theorem Ee:f8=some (true,()):=by kernel_rfl
theorem gI {α β γ:Type}{u:α→Option (R3 α β γ)}(st:Nat→α){n:Nat}{y:β}(hs:∀ j,j<n→u (st j)=some (.next (st (j+1))))(he:u (st n)=some (.out y))(hb:n≤1000000000000) :
  iter aI u (st 0)=some (.inl y):=II st hs he 0 aI (Nat.zero_le _) (by unfold aI;omega)
def qg (frm to:Int)(x:LT):Bool:=decide (x.2.2.2.1≤to)&&(decide (x.2.2.2.2 = -1)||decide (frm<x.2.2.2.2))
def pL (sub:Int)(x:LT):Bool:=decide (x.1=sub)
theorem iY {α:Type}(p:α→Bool)(l:List α)(j:Nat)(hj:j<l.length):(l.take (j+1)).filter p=(l.take j).filter p++(if p l[j] then [l[j]] else []):=by
 rw[List.take_succ_eq_append_getElem hj,List.filter_append]
 congr 1
 cases h:p l[j]<;>simp[h]
theorem QZ (h:List LT)(frm to:Int)(hl:h.length≤1000000):f10 h frm to=some (h.filter (qg frm to),()):=by
 have k:=gI (u:=dK) (fun j=>(((),h,((h.length:Nat):Int),((j:Nat):Int),()),((frm,()),(to,()),()),(h.take j).filter (qg frm to),())) (n:=h.length) (y:=((),((frm,()),(to,()),()),h.filter (qg frm to),())) (fun j hj=>by
  have hlen:((h.take j).filter (qg frm to)).length≤1000000:=by
   have:=List.length_filter_le (qg frm to) (h.take j)
   rw[List.length_take] at this;omega
  have ht:=iY (qg frm to) h j hj
  have cA:decide ((((h.take j).filter (qg frm to)).length+1) * 40≤140737488355328)=true:=decide_eq_true (by omega)
  have cB:decide (((h.take j).filter (qg frm to)).length+1≤9223372036854775807)=true:=decide_eq_true (by omega)
  simp only[dK,kC,LC hj,K7,cond_true,Bool.and_self,Int.toNat_natCast,NN hj,cA,cB,nx hj (show h.length≤9223372036854775807 by omega)]
  rw[ht]
  by_cases h1:h[j].2.2.2.1≤to
  ·rw[decide_eq_true h1]
   by_cases h2:h[j].2.2.2.2 = -1
   ·rw[decide_eq_true h2,if_pos (by unfold qg;rw[decide_eq_true h1,decide_eq_true h2];rfl)];rfl
   ·rw[decide_eq_false h2]
    by_cases h3:frm<h[j].2.2.2.2
    ·rw[decide_eq_true h3,if_pos (by unfold qg;rw[decide_eq_true h1,decide_eq_false h2,decide_eq_true h3];rfl)];rfl
    ·rw[decide_eq_false h3,if_neg (by unfold qg;rw[decide_eq_true h1,decide_eq_false h2,decide_eq_false h3];simp),List.append_nil];rfl
  ·rw[decide_eq_false h1,if_neg (by unfold qg;rw[decide_eq_false h1];simp),List.append_nil];rfl) (by
  simp only[dK,kC]
  rw[Rk,List.take_length];rfl) (by omega)
 unfold f10
 have k:iter aI dK (((),h,((h.length:Nat):Int),0,()),((frm,()),(to,()),()),[],())=_:=k
 rw[k];rfl
theorem Cv (h:List LT)(sub:Int)(hl:h.length≤1000000):f11 h sub=some (h.filter (pL sub),()):=by
 have k:=gI (u:=dI) (fun j=>(((),h,((h.length:Nat):Int),((j:Nat):Int),()),((sub,()),()),(h.take j).filter (pL sub),())) (n:=h.length) (y:=((),((sub,()),()),h.filter (pL sub),())) (fun j hj=>by
  have hlen:((h.take j).filter (pL sub)).length≤1000000:=by
   have:=List.length_filter_le (pL sub) (h.take j)
   rw[List.length_take] at this;omega
  have ht:=iY (pL sub) h j hj
  have cA:decide ((((h.take j).filter (pL sub)).length+1) * 40≤140737488355328)=true:=decide_eq_true (by omega)
  have cB:decide (((h.take j).filter (pL sub)).length+1≤9223372036854775807)=true:=decide_eq_true (by omega)
  simp only[dI,j5,LC hj,K7,cond_true,Bool.and_self,Int.toNat_natCast,NN hj,cA,cB,nx hj (show h.length≤9223372036854775807 by omega)]
  rw[ht]
  by_cases h1:h[j].1=sub
  ·rw[decide_eq_true h1,if_pos (by unfold pL;exact decide_eq_true h1)];rfl
  ·rw[decide_eq_false h1,if_neg (by unfold pL;simp[h1]),List.append_nil];rfl) (by
  simp only[dI,j5]
  rw[Rk,List.take_length];rfl) (by omega)
 unfold f11
 have k:iter aI dI (((),h,((h.length:Nat):Int),0,()),((sub,()),()),[],())=_:=k
 rw[k];rfl
theorem H8 (x y:LT):((decide (x.1=y.1))&&((decide (x.2.1=y.2.1))&&((decide (x.2.2.1=y.2.2.1))&&((decide (x.2.2.2.1=y.2.2.2.1))&&((decide (x.2.2.2.2=y.2.2.2.2))&&true)))))=decide (x=y):=by
 obtain⟨a,b,c,d,e⟩:=x
 obtain⟨a',b',c',d',e'⟩:=y
 simp only[Prod.mk.injEq,Bool.and_true,Bool.decide_and]
theorem Ji (h:List LT)(hl:h.length≤1000000):f12 h h=some (true,()):=by
 have h27:f27 h h=some (true,()):=by
  unfold f27
  rw[decide_eq_true (rfl:((h.length:Nat):Int)=_)]
  have k:=gI (u:=um) (fun j=>((h,h,((h.length:Nat):Int),((j:Nat):Int),()),(),())) (n:=h.length) (y:=((),(),())) (fun j hj=>by
   simp only[um,Kh,LC hj,K7,cond_true,Bool.and_self,Int.toNat_natCast,decide_true,Bool.not_true,cond_false,nx hj (show h.length≤9223372036854775807 by omega)]) (by
   simp only[um,Kh]
   rw[Rk];rfl) (by omega)
  have k:iter aI um ((h,h,((h.length:Nat):Int),0,()),(),())=_:=k
  simp only[Bool.not_true,cond_false,k,Option.bind_some]
 unfold f12
 rw[h27];rfl
theorem Ez (h:List LT):f9 h=some (decide (((h.length:Nat):Int)≤200),()):=rfl
def Aj (at' blk tick:Int)(x:LT):Bool:=decide (x.2.1=at')&&(decide (x.2.2.1=blk)&&(decide (x.2.2.2.1≤tick)&&(decide (x.2.2.2.2 = -1)||decide (tick<x.2.2.2.2))))
def yy (at' blk tick:Int)(h:List LT):Option Int:=(h.reverse.find? (Aj at' blk tick)).map (·.1)
theorem sW (at' blk tick:Int)(h:List LT)(x:LT):yy at' blk tick (h++[x])=if Aj at' blk tick x=true then some x.1 else yy at' blk tick h:=by
 unfold yy
 rw[List.reverse_append]
 simp only[List.reverse_cons,List.reverse_nil,List.nil_append,List.singleton_append,List.find?_cons]
 cases Aj at' blk tick x<;>simp
structure PW (h:List LT)(at' blk tick:Int)(z:dN)(i:Int):Prop where
 i:z.1.2.2.1=i
 a:z.2.1.2.1.1=at'
 t:z.2.1.2.2.1.1=tick
 b:z.2.1.2.2.2.2.1.1=blk
 h:z.2.1.2.2.2.2.2.1.1=h
theorem DL {α:Type}{c:Bool}{a b:α}(h:c=true):cond c a b=a:=by rw[h];rfl
theorem Lg {α:Type}{c:Bool}{a b:α}(h:c=false):cond c a b=b:=by rw[h];rfl
theorem T8 (h:List LT)(hl:h.length≤1000000)(at' blk tick:Int)(z:dN)(j:Nat)(hj:j<h.length)(hP:PW h at' blk tick z (j:Int)) :
  (Aj at' blk tick h[j]=true→∃ y,b9 z=some (.ret y)∧y.2.1.2.2.2.1.1=h[j].1) ∧
  (Aj at' blk tick h[j]=false→∃ z',b9 z=some (.next z')∧PW h at' blk tick z' ((j:Int)-1)):=by
 have hrd:rd (.pair (.int .i64) (.pair (.int .i64) (.pair (.int .i64) (.pair (.int .i64) (.int .i64))))) z.2.1.2.2.2.2.2.1.1 (Int.toNat z.1.2.2.1)=h[j]:=by rw[hP.h,hP.i,Int.toNat_natCast,NN hj]
 have c1:decide (0≤z.1.2.2.1)=true:=by rw[hP.i];exact K7 j
 have c2:((decide (0≤z.1.2.2.1))&&(decide (z.1.2.2.1<((z.2.1.2.2.2.2.2.1.1.length:Nat):Int))))=true:=by rw[hP.i,hP.h,K7,LC hj];rfl
 have hi:IntKind.wrap .i64 (z.1.2.2.1-1)=(j:Int)-1:=by rw[hP.i,iF (by omega) (by omega)]
 unfold b9 kF
 rw[DL c1,DL c2]
 simp only[hrd]
 have ea:decide (h[j].2.1=z.2.1.2.1.1)=decide (h[j].2.1=at'):=by rw[hP.a]
 have eb:decide (h[j].2.2.1=z.2.1.2.2.2.2.1.1)=decide (h[j].2.2.1=blk):=by rw[hP.b]
 have et:decide (h[j].2.2.2.1≤z.2.1.2.2.1.1)=decide (h[j].2.2.2.1≤tick):=by rw[hP.t]
 have eo:decide (z.2.1.2.2.1.1<h[j].2.2.2.2)=decide (tick<h[j].2.2.2.2):=by rw[hP.t]
 rw[ea,eb,et,eo]
 unfold Aj
 by_cases q1:h[j].2.1=at'
 ·rw[decide_eq_true q1]
  by_cases q2:h[j].2.2.1=blk
  ·rw[decide_eq_true q2]
   by_cases q3:h[j].2.2.2.1≤tick
   ·rw[decide_eq_true q3]
    by_cases q4:h[j].2.2.2.2 = -1
    ·rw[decide_eq_true q4]
     exact⟨fun _=>⟨_,rfl,rfl⟩,fun h=>by simp at h⟩
    ·rw[decide_eq_false q4]
     by_cases q5:tick<h[j].2.2.2.2
     ·rw[decide_eq_true q5]
      exact⟨fun _=>⟨_,rfl,rfl⟩,fun h=>by simp at h⟩
     ·rw[decide_eq_false q5]
      exact⟨fun h=>by simp at h,fun _=>⟨_,rfl,hi,hP.a,hP.t,hP.b,hP.h⟩⟩
   ·rw[decide_eq_false q3]
    exact⟨fun h=>by simp at h,fun _=>⟨_,rfl,hi,hP.a,hP.t,hP.b,hP.h⟩⟩
  ·rw[decide_eq_false q2]
   exact⟨fun h=>by simp at h,fun _=>⟨_,rfl,hi,hP.a,hP.t,hP.b,hP.h⟩⟩
 ·rw[decide_eq_false q1]
  exact⟨fun h=>by simp at h,fun _=>⟨_,rfl,hi,hP.a,hP.t,hP.b,hP.h⟩⟩
theorem Rz (h:List LT)(hl:h.length≤1000000)(at' blk tick:Int):∀ (n:Nat) (z:dN),n≤h.length→PW h at' blk tick z ((n:Int)-1) →
  ∃ r,iter (n+1) b9 z=some r∧((∃ y,r = .inl y∧yy at' blk tick (h.take n)=none)∨∃ y,r = .inr y∧yy at' blk tick (h.take n)=some y.2.1.2.2.2.1.1):=by
 intro n
 induction n with
 | zero=>
  intro z _ hP
  have:∃ y,b9 z=some (.out y):=by
   unfold b9 kF
   rw[Lg (show decide (0≤z.1.2.2.1)=false by rw[hP.i];rfl)]
   exact⟨_,rfl⟩
  obtain⟨y,hy⟩:=this
  exact⟨_,I0 hy,.inl ⟨y,rfl,rfl⟩⟩
 | succ n ih=>
  intro z hn hP
  have hj:n<h.length:=by omega
  have e:((n+1:Nat):Int)-1=(n:Int):=by omega
  rw[e] at hP
  obtain⟨s1,s2⟩:=T8 h hl at' blk tick z n hj hP
  rw[List.take_succ_eq_append_getElem hj,sW]
  cases hq:Aj at' blk tick h[n] with
  | true=>
   obtain⟨y,e1,e2⟩:=s1 hq
   exact⟨_,On e1,.inr ⟨y,rfl,by rw[if_pos rfl,e2]⟩⟩
  | false=>
   obtain⟨z',e1,e2⟩:=s2 hq
   obtain⟨r,k1,k2⟩:=ih z' (by omega) e2
   refine⟨r,by rw[Dv e1];exact k1,?_⟩
   rw[if_neg (by simp)]
   exact k2
def oE (w b:Int)(at' tick:Int)(h:List LT):Int:=if w ≠ -1 then w else if b = -1 then -1 else (yy at' b tick h).getD (-1)
theorem u5 (D:DT)(h:List LT)(hl:h.length≤1000000)(at' port tick w b:Int)
  (hw:f15 D.1.1 D.1.2 D.2.1.1 D.2.1.2 D.2.2.1 D.2.2.2.1 D.2.2.2.2.1 D.2.2.2.2.2 at' port=some (w,())) (hb:f16 D.1.1 D.1.2 D.2.1.1 D.2.1.2 D.2.2.1 D.2.2.2.1 D.2.2.2.2.1 D.2.2.2.2.2 at' port=some (b,())) :
  f14 D.1.1 D.1.2 D.2.1.1 D.2.1.2 D.2.2.1 D.2.2.2.1 D.2.2.2.2.1 D.2.2.2.2.2 h at' port tick=some (oE w b at' tick h,()):=by
 unfold f14 oE
 rw[hw,hb]
 simp only[Option.bind_some]
 by_cases q:w = -1
 ·rw[decide_eq_true q,if_neg (fun k=>k q)]
  simp only[Bool.not_true,cond_false]
  by_cases q2:b = -1
  ·rw[decide_eq_true q2,if_pos q2];rfl
  ·rw[decide_eq_false q2,if_neg q2]
   simp only[cond_false]
   have key:∀ z0,PW h at' b tick z0 ((h.length:Int)-1)→((iter aI b9 z0).bind fun r=>match r with
     | .inl _=>some ((-1:Int),())
     | .inr z16=>some (z16.2.1.2.2.2.1.1,()))=some ((yy at' b tick h).getD (-1),()):=by
    intro z0 hP
    obtain⟨r,k1,k2⟩:=Rz h hl at' b tick h.length z0 (Nat.le_refl _) hP
    rw[List.take_length] at k2
    rw[D3 (show h.length+1≤aI by unfold aI;omega) k1]
    rcases k2 with⟨y,rfl,e⟩|⟨y,rfl,e⟩
    ·rw[e];rfl
    ·rw[e];rfl
   refine key _ ⟨?_,rfl,rfl,rfl,rfl⟩
   show IntKind.wrap .i64 _=_
   rw[iF (by omega) (by omega)]
 ·rw[decide_eq_false q,if_pos q];rfl
theorem Cw (D:DT)(at' port:Int)(hp : -9223372036854775808≤port)(hp2:port≤9223372036854775807) :
  ∃ w,f15 D.1.1 D.1.2 D.2.1.1 D.2.1.2 D.2.2.1 D.2.2.2.1 D.2.2.2.2.1 D.2.2.2.2.2 at' port=some (w,())∧(w = -1∨0≤w) ∧
   (eR D→0≤at'→at'<E8 D→lC D≤port→port≤CF D→(port-lC D) / each D<dz D→pK D (at' * dz D+(port-lC D) / each D)→w=at' * dz D+(port-lC D) / each D):=by
 unfold f15
 rw[qL D]
 simp only[Option.bind_some]
 by_cases F:eR D
 case neg=>rw[decide_eq_false F];exact⟨-1,rfl,.inl rfl,fun h=>absurd h F⟩
 rw[decide_eq_true F]
 simp only[Bool.not_true,cond_false]
 by_cases h0:at'<0
 ·rw[decide_eq_true h0];exact⟨-1,rfl,.inl rfl,fun _ h=>by omega⟩
 rw[decide_eq_false h0,gK]
 simp only[Option.bind_some,cond_false]
 by_cases h1:bL D.2.1.1 D.2.1.2≤at'
 ·rw[decide_eq_true h1];exact⟨-1,rfl,.inl rfl,fun _ _ h=>by unfold E8 at h;omega⟩
 rw[decide_eq_false h1]
 by_cases h2:port<D.2.2.1
 ·rw[decide_eq_true h2];exact⟨-1,rfl,.inl rfl,fun _ _ _ h=>by unfold lC at h;omega⟩
 rw[decide_eq_false h2]
 by_cases h3:D.2.2.2.1<port
 ·rw[decide_eq_true h3];exact⟨-1,rfl,.inl rfl,fun _ _ _ _ h=>by unfold CF at h;omega⟩
 rw[decide_eq_false h3]
 have hr:=F.E6
 have he:=F.Ak
 have hy2:at'<4:=by have:=F.y2;unfold E8 at this;omega
 have hlo:=F.PJ
 have hhi:=F.hi
 unfold lC at hlo
 unfold CF at hhi
 have h30:f30 D.1.1 D.1.2 D.2.1.1 D.2.1.2 D.2.2.1 D.2.2.2.1 D.2.2.2.2.1 D.2.2.2.2.2=some (dz D,()):=qq F.x1 F.y1
 simp only[cond_false,h30,zo F,Option.bind_some,decide_eq_false (show ¬ each D=0 by omega),Bool.not_false,cond_true]
 have k0:0≤(port-D.2.2.1) / each D:=Int.ediv_nonneg (by omega) (by omega)
 have k1:(port-D.2.2.1) / each D≤port-D.2.2.1:=Int.ediv_le_self _ (by omega)
 have ek:IntKind.wrap .i64 (Int.tdiv (IntKind.wrap .i64 (port-D.2.2.1)) (each D))=(port-D.2.2.1) / each D:=by
  rw[iF (x:=port-D.2.2.1) (by omega) (by omega),Int.tdiv_eq_ediv_of_nonneg (by omega),iF (by omega) (by omega)]
 have m1:0≤at' * dz D:=Int.mul_nonneg (by omega) (by omega)
 have m2:at' * dz D≤4 * 32:=Int.mul_le_mul (by omega) hr.2 (by omega) (by omega)
 have em:IntKind.wrap .i64 (at' * dz D)=at' * dz D:=iF (by omega) (by omega)
 have es:IntKind.wrap .i64 (at' * dz D+(port-D.2.2.1) / each D)=at' * dz D+(port-D.2.2.1) / each D:=iF (by omega) (by omega)
 rw[ek,em,es,JQ (D:=D) (at' * dz D+(port-D.2.2.1) / each D)]
 simp only[Option.bind_some]
 by_cases h4:dz D≤(port-D.2.2.1) / each D
 ·rw[decide_eq_true h4];exact⟨-1,rfl,.inl rfl,fun _ _ _ _ _ h=>by unfold lC at h;omega⟩
 rw[decide_eq_false h4]
 by_cases h5:pK D (at' * dz D+(port-D.2.2.1) / each D)
 ·rw[decide_eq_true h5,if_pos h5]
  have hB:=F.base h5.2.1 h5.2.2
  have hne:decide ((DE D (at' * dz D+(port-D.2.2.1) / each D)).2.1=0)=false:=by
   have hb1:=hB.2.2.1
   unfold lC at hb1
   exact decide_eq_false (show ¬ bW D (at' * dz D+(port-D.2.2.1) / each D)=0 by omega)
  simp only[cond_false,Bool.not_true,hne,Bool.false_and,Bool.and_false]
  exact⟨_,rfl,.inr (by omega),fun _ _ _ _ _ _ _=>rfl⟩
 ·rw[decide_eq_false h5,if_neg h5]
  exact⟨-1,rfl,.inl rfl,fun _ _ _ _ _ _ h=>absurd h h5⟩
theorem AX (D:DT)(at' port:Int)(hp : -9223372036854775808≤port)(hp2:port≤9223372036854775807) :
  ∃ b,f16 D.1.1 D.1.2 D.2.1.1 D.2.1.2 D.2.2.1 D.2.2.2.1 D.2.2.2.2.1 D.2.2.2.2.2 at' port=some (b,())∧(b = -1∨0≤b):=by
 unfold f16
 rw[qL D]
 simp only[Option.bind_some]
 by_cases F:eR D
 case neg=>rw[decide_eq_false F];exact⟨-1,rfl,.inl rfl⟩
 rw[decide_eq_true F]
 simp only[Bool.not_true,cond_false]
 by_cases h0:at'<0
 ·rw[decide_eq_true h0];exact⟨-1,rfl,.inl rfl⟩
 rw[decide_eq_false h0,gK]
 simp only[Option.bind_some,cond_false]
 by_cases h1:bL D.2.1.1 D.2.1.2≤at'
 ·rw[decide_eq_true h1];exact⟨-1,rfl,.inl rfl⟩
 rw[decide_eq_false h1]
 have hlo:=F.PJ
 have hlo2:=F.Uu
 have hhi:=F.hi
 have hg:=F.g1
 have hg2:=F.g2
 have hw:=F.h1
 simp only[lC,CF,lQ,I6] at hlo hlo2 hhi hg hg2 hw
 have ef:IntKind.wrap .i64 ((IntKind.wrap .i64 (D.2.2.2.1-D.2.2.2.2.1))+1)=D.2.2.2.1-D.2.2.2.2.1+1:=by rw[iF (x:=D.2.2.2.1-D.2.2.2.2.1) (by omega) (by omega),iF (by omega) (by omega)]
 rw[ef]
 by_cases h2:port<D.2.2.2.1-D.2.2.2.2.1+1
 ·rw[decide_eq_true h2];exact⟨-1,rfl,.inl rfl⟩
 rw[decide_eq_false h2]
 by_cases h3:D.2.2.2.1<port
 ·rw[decide_eq_true h3];exact⟨-1,rfl,.inl rfl⟩
 rw[decide_eq_false h3,decide_eq_false (show ¬ D.2.2.2.2.2=0 by omega)]
 have k0:0≤(port-(D.2.2.2.1-D.2.2.2.2.1+1)) / D.2.2.2.2.2:=Int.ediv_nonneg (by omega) (by omega)
 have k1:(port-(D.2.2.2.1-D.2.2.2.2.1+1)) / D.2.2.2.2.2≤port-(D.2.2.2.1-D.2.2.2.2.1+1):=Int.ediv_le_self _ (by omega)
 have ek:IntKind.wrap .i64 (Int.tdiv (IntKind.wrap .i64 (port-(D.2.2.2.1-D.2.2.2.2.1+1))) D.2.2.2.2.2)=(port-(D.2.2.2.1-D.2.2.2.2.1+1)) / D.2.2.2.2.2:=by
  rw[iF (x:=port-(D.2.2.2.1-D.2.2.2.2.1+1)) (by omega) (by omega),Int.tdiv_eq_ediv_of_nonneg (by omega),iF (by omega) (by omega)]
 simp only[cond_false,Bool.not_false,cond_true,OP (D:=D),Option.bind_some,ek]
 by_cases h4:(port-(D.2.2.2.1-D.2.2.2.2.1+1)) / D.2.2.2.2.2<(if eR D then vR D else 0)
 ·rw[decide_eq_true h4];exact⟨_,rfl,.inr k0⟩
 ·rw[decide_eq_false h4];exact⟨-1,rfl,.inl rfl⟩
theorem JN {t:Int}(h:(Lit.int .i64 t).wf=true):t≤9223372036854775807:=by
 simp only[Lit.wf,Bool.and_eq_true,decide_eq_true_eq] at h
 exact h.2
theorem Kg {t:Int}(h:(Lit.int .i64 t).wf=true) : -9223372036854775808≤t:=by
 simp only[Lit.wf,Bool.and_eq_true,decide_eq_true_eq] at h
 exact h.1
end Go.Proofs.Zz
namespace Go.Proofs.YtckgffnmfgjehaaGreat
open Go Go.Sy Go.RowKit Go.Proofs.Zz
set_option linter.unusedVariables false
set_option maxRecDepth 100000
theorem own:ownKnob Tryz.prog.godebug=none:=by kernel_rfl
theorem laidOut:laidOutB Tryz.prog=true:=by kernel_rfl
end Go.Proofs.YtckgffnmfgjehaaGreat
