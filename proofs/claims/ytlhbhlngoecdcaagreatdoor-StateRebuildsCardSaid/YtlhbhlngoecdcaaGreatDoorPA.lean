/- P13a, P13b, P13c, P13d, P13e, P13g, P13h. -/
import Derived.Test.YtlhbhlngoecdcaaGreatDoorPU
import Derived.Test.YtlhbhlngoecdcaaGreatDoorFI
namespace Go.Proofs.Zz
open Go Go.Sy
set_option linter.unusedSimpArgs false
set_option linter.unusedVariables false
theorem D9 (b k:Int):f95 b k=some (decide (mI b k),()):=by
 unfold f95
 by_cases h1:0≤k
 case neg=>simp[h1,mI]
 by_cases h2:k≤32
 case neg=>simp[h1,h2,mI]
 by_cases h3:0≤b
 case neg=>simp[h1,h2,h3,mI]
 by_cases h4:b<4294967296
 case neg=>simp[h1,h2,h3,h4,mI]
 have w:IntKind.wrap .i64 (32-k)=32-k:=iq (by omega) (by omega)
 have hneg:decide (IntKind.wrap .i64 (32-k)<0)=false:=by rw[w];simp;omega
 have hs:=KV h1
 have hp:=xG k
 rw[Ta h1 h2,hneg,iq (show -9223372036854775808≤vf k-1 by omega) (by omega)]
 obtain⟨n,rfl⟩:∃ n:Nat,b=n:=⟨b.toNat,by omega⟩
 have e:bG .and .i64 (n:Int) (vf k-1)=(n:Int) % vf k:=by
  unfold vf
  rw[Ml (by omega) (by omega)];rfl
 simp only[h1,h2,h3,h4,e,decide_true,cond_true,Bool.not_false,mI,true_and]
theorem jr (b k:Int):f49 b k=some (cC b k,()):=by
 unfold f49
 rw[D9]
 unfold cC
 by_cases h:mI b k
 ·have w:IntKind.wrap .i64 (32-k)=32-k:=iq (by have:=h.1;have:=h.2.1;omega) (by have:=h.1;have:=h.2.1;omega)
  have hneg:decide (IntKind.wrap .i64 (32-k)<0)=false:=by rw[w];have:=h.2.1;simp;omega
  simp only[Option.bind_some,h,decide_true,Bool.not_true,cond_false,hneg,Bool.not_false,cond_true,if_true,Ta h.1 h.2.1]
 ·simp[h]
theorem OG (b k a:Int):f118 b k a=some (uS b k a,()):=by
 unfold f118
 rw[D9]
 unfold uS
 by_cases hm:mI b k
 case neg=>simp[hm]
 by_cases h1:a<0
 ·have h:¬ (b≤a):=by have:=hm.2.2.1;omega
  simp[hm,h1,h]
 by_cases h2:4294967296≤a
 ·have h:¬ (a<b+vf k):=by have:=RA hm;omega
  simp[hm,h1,h2,h]
 have w:IntKind.wrap .i64 (32-k)=32-k:=iq (by have:=hm.1;have:=hm.2.1;omega) (by have:=hm.1;have:=hm.2.1;omega)
 have hneg:decide (IntKind.wrap .i64 (32-k)<0)=false:=by rw[w];have:=hm.2.1;simp;omega
 have hmin:min (Int.toNat (IntKind.wrap .i64 (32-k))) 64=(32-k).toNat:=by rw[w,Nat.min_eq_left];have:=hm.1;omega
 obtain⟨n,rfl⟩:∃ n:Nat,b=n:=⟨b.toNat,by have:=hm.2.2.1;omega⟩
 obtain⟨j,rfl⟩:∃ j:Nat,a=j:=⟨a.toNat,by omega⟩
 have hb:=hm.2.2.2.1
 have hn:n % 2 ^ (32-k).toNat=0:=by
  have:=hm.2.2.2.2
  unfold vf at this
  have h:(n:Int) % ((2 ^ (32-k).toNat:Nat):Int)=((n % 2 ^ (32-k).toNat:Nat):Int):=rfl
  rw[h] at this
  omega
 have e:decide (Int.fdiv (bG .xor .i64 (j:Int) (n:Int)) ((2:Int) ^ ((min (Int.toNat (IntKind.wrap .i64 (32-k))) 64):Nat))=0)=decide ((n:Int)≤j∧(j:Int)<n+vf k):=by
  rw[hmin,YS (by omega) (by omega),fdiv_pow]
  have h1:(j ^^^ n) / 2 ^ (32-k).toNat=(j / 2 ^ (32-k).toNat) ^^^ (n / 2 ^ (32-k).toNat):=by
   rw[← Nat.shiftRight_eq_div_pow,← Nat.shiftRight_eq_div_pow,← Nat.shiftRight_eq_div_pow,Nat.shiftRight_xor_distrib]
  have h2:(j ^^^ n) / 2 ^ (32-k).toNat=0↔j / 2 ^ (32-k).toNat=n / 2 ^ (32-k).toNat:=by
   rw[h1];exact xor_zero _ _
  have h3:=Ra (a:=j) (Nat.two_pow_pos (32-k).toNat) hn
  unfold vf
  rw[decide_eq_decide]
  constructor
  ·intro h
   have:=h3.1 (h2.1 (by omega))
   omega
  ·intro h
   have:=h2.2 (h3.2 (by omega))
   omega
 rw[e]
 simp only[hm,h1,h2,hneg,decide_true,decide_false,Option.bind_some,Bool.not_true,Bool.not_false,cond_false,cond_true,true_and]
 by_cases hin:(n:Int)≤j∧(j:Int)<n+vf k
 ·rw[decide_eq_true hin,if_pos hin,iq (by omega) (by omega)];rfl
 ·rw[decide_eq_false hin,if_neg hin];rfl
theorem aaq (b k b' k':Int):f83 b k b' k'=some (decide (Cn b k b' k'),()):=by
 unfold f83
 rw[D9,D9,OG,OG]
 unfold Cn
 by_cases h1:mI b k
 case neg=>simp[h1]
 by_cases h2:mI b' k'
 case neg=>simp[h1,h2]
 have e1:=IB b k b'
 have e2:=IB b' k' b
 simp only[h1,h2,true_and] at e1 e2
 by_cases h3:uS b k b' = -1
 ·have:¬ (b≤b'∧b'<b+vf k):=fun h=>e1.2 h h3
  by_cases h4:uS b' k' b = -1
  ·have h5:¬ (b'≤b∧b<b'+vf k'):=fun h=>e2.2 h h4
   simp[h1,h2,h3,h4,this,h5]
  ·have h5:=e2.1 h4
   simp[h1,h2,h3,h4,this,h5]
 ·have:=e1.1 h3
  simp[h1,h2,h3,this]
theorem aag (a b c:Int):f80 a b c=some (decide (b≤a)&&decide (a≤c),()):=by
 unfold f80
 cases decide (b≤a)<;>rfl
theorem My (a b c:Int):f44 a b c=some (decide (b≤a)&&decide (a≤c),()):=by
 unfold f44
 cases decide (b≤a)<;>rfl
theorem Cw {a b c d e f g h:Int}(hx:1≤cC a b)(hy:1≤cC c d):f51 a b c d e f g h=some (Ql (cC a b) (cC c d),()):=by
 unfold f51
 rw[jr,jr]
 simp only[Option.bind_some]
 have hx2:=(oN a b).2
 generalize cC a b=x at hx hx2 ⊢
 generalize cC c d=y at hy ⊢
 have:(cond (decide (y<x)) y x)≠0:=by
  by_cases h:y<x
  ·rw[decide_eq_true h];show y≠0;omega
  ·rw[decide_eq_false h];show x≠0;omega
 rw[decide_eq_false this,decide_eq_false (show ¬ y=0 by omega)]
 simp only[Bool.not_false,cond_true,cond_false]
 have e1:IntKind.wrap .i64 (x-1)=x-1:=iq (by omega) (by omega)
 have h1:0≤(x-1) / y:=Int.ediv_nonneg (by omega) (by omega)
 have h2:(x-1) / y≤x-1:=Int.ediv_le_self _ (by omega)
 have e2:Int.tdiv (x-1) y=(x-1) / y:=Int.tdiv_eq_ediv_of_nonneg (by omega)
 rw[e1,e2,iq (x:=(x-1) / y) (by omega) (by omega),iq (x:=(x-1) / y+1) (by omega) (by omega)]
 rfl
theorem Tr (a b c d e f g h:Int):∃ r,f51 a b c d e f g h=some (r,()):=by
 unfold f51
 rw[jr,jr]
 simp only[Option.bind_some]
 have h1:=(oN a b).1
 have h2:=(oN c d).1
 generalize cC a b=x at h1 ⊢
 generalize cC c d=y at h2 ⊢
 by_cases hy:y=0
 ·subst hy
  have:(cond (decide ((0:Int)<x)) 0 x)=0:=by
   by_cases hx:(0:Int)<x
   ·rw[decide_eq_true hx];rfl
   ·rw[decide_eq_false hx];show x=0;omega
  rw[decide_eq_true this]
  exact⟨_,rfl⟩
 ·rw[decide_eq_false hy]
  cases decide ((cond (decide (y<x)) y x)=0)<;>exact⟨_,rfl⟩
theorem Tl {e f g:Int}(h1:1≤e)(h2:e≤f)(h3:f≤65535)(h4:0≤g)(h5:g≤f-e)(a b c d h:Int):f87 a b c d e f g h=some (f-e+1-g,()):=by
 unfold f87
 rw[iq (x:=f-e) (by omega) (by omega),iq (x:=f-e+1) (by omega) (by omega),iq (by omega) (by omega)]
theorem abm (a b c d e f g h:Int):∃ r,f43 a b c d e f g h=some (r,())∧(r=true↔iW ((a,b),(c,d),e,f,g,h)):=by
 obtain⟨q,hq⟩:=Tr a b c d e f g h
 unfold f43
 rw[jr,jr]
 simp only[Option.bind_some,aag,aaq,hq]
 by_cases c1:1≤cC a b∧cC a b≤32
 case neg=>
  have:(decide (1≤cC a b)&&decide (cC a b≤32))=false:=by rw[Bool.and_eq_false_iff,decide_eq_false_iff_not,decide_eq_false_iff_not];omega
  rw[this]
  exact⟨_,rfl,by simp,fun F=>absurd ⟨F.x1,F.x2⟩ c1⟩
 rw[decide_eq_true c1.1,decide_eq_true c1.2]
 by_cases c2:1≤cC c d∧cC c d≤4
 case neg=>
  have:(decide (1≤cC c d)&&decide (cC c d≤4))=false:=by rw[Bool.and_eq_false_iff,decide_eq_false_iff_not,decide_eq_false_iff_not];omega
  rw[this]
  exact⟨_,rfl,by simp,fun F=>absurd ⟨F.y1,F.y2⟩ c2⟩
 rw[decide_eq_true c2.1,decide_eq_true c2.2]
 simp only[Bool.and_self,cond_true,Bool.not_true,cond_false,Bool.not_not]
 by_cases cm:Cn a b c d
 ·rw[decide_eq_true cm]
  exact⟨_,rfl,by simp,fun F=>absurd cm F.meet⟩
 rw[decide_eq_false cm]
 simp only[cond_false]
 by_cases c3:1≤e∧e≤f
 case neg=>
  have:(decide (1≤e)&&decide (e≤f))=false:=by rw[Bool.and_eq_false_iff,decide_eq_false_iff_not,decide_eq_false_iff_not];omega
  rw[this]
  exact⟨_,rfl,by simp,fun F=>absurd ⟨F.lo1,F.lo2⟩ c3⟩
 rw[decide_eq_true c3.1,decide_eq_true c3.2]
 simp only[Bool.and_self,cond_true]
 by_cases c4:f≤65535
 case neg=>
  rw[decide_eq_false c4]
  exact⟨_,rfl,by simp,fun F=>absurd F.hi c4⟩
 rw[decide_eq_true c4,iq (x:=f-e) (by omega) (by omega)]
 simp only[Bool.not_true,cond_false]
 by_cases c6:0≤g∧g≤f-e
 case neg=>
  have:(decide (0≤g)&&decide (g≤f-e))=false:=by rw[Bool.and_eq_false_iff,decide_eq_false_iff_not,decide_eq_false_iff_not];omega
  rw[this]
  exact⟨_,rfl,by simp,fun F=>absurd ⟨F.g1,F.g2⟩ c6⟩
 rw[decide_eq_true c6.1,decide_eq_true c6.2]
 simp only[Bool.and_self,cond_true]
 by_cases c7:1≤h∧h≤65535
 case neg=>
  have:(decide (1≤h)&&decide (h≤65535))=false:=by rw[Bool.and_eq_false_iff,decide_eq_false_iff_not,decide_eq_false_iff_not];omega
  rw[this]
  exact⟨_,rfl,by simp,fun F=>absurd ⟨F.h1,F.h2⟩ c7⟩
 rw[decide_eq_true c7.1,decide_eq_true c7.2,decide_eq_false (show ¬ h=0 by omega)]
 simp only[Bool.and_self,cond_true,Bool.not_false]
 have e2:Int.tdiv g h=g / h:=Int.tdiv_eq_ediv_of_nonneg c6.1
 have p1:0≤g / h:=Int.ediv_nonneg c6.1 (by omega)
 have p2:g / h≤g:=Int.ediv_le_self _ c6.1
 rw[e2,iq (by omega) (by omega)]
 by_cases c8:g / h≤8
 case neg=>
  rw[decide_eq_false c8]
  exact⟨_,rfl,by simp,fun F=>absurd F.blk c8⟩
 rw[decide_eq_true c8,Tl c3.1 c3.2 c4 c6.1 c6.2]
 simp only[Bool.not_true,cond_false,Option.bind_some]
 rw[Cw c1.1 c2.1,Option.some.injEq,Prod.mk.injEq] at hq
 obtain⟨hq,_⟩:=hq
 by_cases c9:q≤f-e+1-g
 ·rw[decide_eq_true c9]
  exact⟨_,rfl,fun _=>⟨c1.1,c1.2,c2.1,c2.2,cm,c3.1,c3.2,c4,c6.1,c6.2,c7.1,c7.2,c8,by rw[← hq] at c9;exact c9⟩,fun _=>rfl⟩
 ·rw[decide_eq_false c9]
  exact⟨_,rfl,by simp,fun F=>absurd (by have:=F.sh;rw[← hq];exact this) c9⟩
theorem Cq (D:DT):f43 D.1.1 D.1.2 D.2.1.1 D.2.1.2 D.2.2.1 D.2.2.2.1 D.2.2.2.2.1 D.2.2.2.2.2=some (decide (iW D),()):=by
 obtain⟨r,h1,h2⟩:=abm D.1.1 D.1.2 D.2.1.1 D.2.1.2 D.2.2.1 D.2.2.2.1 D.2.2.2.2.1 D.2.2.2.2.2
 rw[h1]
 have:r=decide (iW D):=by
  by_cases hf:iW D
  ·rw[decide_eq_true hf];exact h2.2 hf
  ·rw[decide_eq_false hf]
   cases r with
   | false=>rfl
   | true=>exact absurd (h2.1 rfl) hf
 rw[this]
section
variable {D:DT}
theorem Ut (F:iW D):f52 D.1.1 D.1.2 D.2.1.1 D.2.1.2 D.2.2.1 D.2.2.2.1 D.2.2.2.2.1 D.2.2.2.2.2=some (each D,()):=by
 have hr:=F.WN
 have he:=F.Uy
 unfold f52
 rw[Cq,decide_eq_true F,Tl F.lo1 F.lo2 F.hi F.g1 F.g2,Cw F.x1 F.y1]
 simp only[Option.bind_some,Bool.not_true,cond_false]
 have er:Ql (cC D.1.1 D.1.2) (cC D.2.1.1 D.2.1.2)=gi D:=rfl
 rw[er,decide_eq_false (show ¬ gi D=0 by omega)]
 simp only[Bool.not_false,cond_true]
 have hs:0≤Fo D-KD D+1-kE D:=by have:=F.g2;omega
 have p2:(Fo D-KD D+1-kE D) / gi D≤Fo D-KD D+1-kE D:=Int.ediv_le_self _ hs
 have e2:Int.tdiv (Fo D-KD D+1-kE D) (gi D)=each D:=Int.tdiv_eq_ediv_of_nonneg hs
 unfold each at he e2 ⊢
 rw[e2,iq (by omega) (by have:=F.hi;have:=F.lo1;have:=F.g1;omega)]
theorem Ux (sub:Int):f19 D.1.1 D.1.2 D.2.1.1 D.2.1.2 D.2.2.1 D.2.2.2.1 D.2.2.2.2.1 D.2.2.2.2.2 sub=some (if td D sub then OH D sub else (0,0,0),decide (td D sub),()):=by
 unfold f19
 rw[Cq]
 simp only[Option.bind_some]
 by_cases F:iW D
 case neg=>
  have:¬ td D sub:=fun h=>F h.1
  rw[decide_eq_false F,decide_eq_false this,if_neg this];rfl
 rw[decide_eq_true F]
 simp only[Bool.not_true,cond_false]
 by_cases h0:sub<0
 ·have:¬ td D sub:=fun h=>by have:=h.2.1;omega
  rw[decide_eq_true h0,decide_eq_false this,if_neg this];rfl
 rw[decide_eq_false h0,jr]
 simp only[cond_false,Option.bind_some]
 have ex:cC D.1.1 D.1.2=QX D:=rfl
 by_cases h1:QX D≤sub
 ·have:¬ td D sub:=fun h=>by have:=h.2.2;omega
  rw[ex,decide_eq_true h1,decide_eq_false this,if_neg this];rfl
 have hS:td D sub:=⟨F,by omega,by omega⟩
 rw[ex,decide_eq_false h1,Cw F.x1 F.y1,Ut F,decide_eq_true hS,if_pos hS]
 simp only[cond_false,Option.bind_some]
 have er:Ql (cC D.1.1 D.1.2) (cC D.2.1.1 D.2.1.2)=gi D:=rfl
 rw[er]
 have hr:=F.WN
 have he:=F.Uy
 obtain⟨q1,q2,q3,q4,q5⟩:=F.base (sub:=sub) (by omega) (by omega)
 rw[decide_eq_false (show ¬ gi D=0 by omega)]
 simp only[Bool.not_false,cond_true]
 have t1:Int.tdiv sub (gi D)=sub / gi D:=Int.tdiv_eq_ediv_of_nonneg (by omega)
 have t2:Int.tmod sub (gi D)=sub % gi D:=Int.tmod_eq_emod_of_nonneg (by omega)
 have hy2:=F.y2
 have hhi:=F.hi
 have hlo:=F.lo1
 have hg:=F.g1
 unfold OH
 unfold j4 at q3 q4 ⊢
 rw[t1,t2]
 generalize sub % gi D * each D=k at q3 q4 q5 ⊢
 generalize each D=w at he q4 ⊢
 rw[iq (x:=sub / gi D) (by omega) (by omega),iq (x:=k) (by omega) (by omega),iq (x:=KD D+k) (by omega) (by omega),iq (x:=KD D+k+w) (by omega) (by omega),iq (x:=KD D+k+w-1) (by omega) (by omega)]
theorem Q8:f50 D.1.1 D.1.2 D.2.1.1 D.2.1.2 D.2.2.1 D.2.2.2.1 D.2.2.2.2.1 D.2.2.2.2.2=some (if iW D then dm D else 0,()):=by
 unfold f50
 rw[Cq]
 simp only[Option.bind_some]
 by_cases F:iW D
 case neg=>rw[decide_eq_false F,if_neg F];rfl
 rw[decide_eq_true F,if_pos F]
 have h1:=F.h1
 have g1:=F.g1
 simp only[Bool.not_true,cond_false]
 rw[decide_eq_false (show ¬ Kn D=0 by omega)]
 have e2:Int.tdiv D.2.2.2.2.1 D.2.2.2.2.2=dm D:=Int.tdiv_eq_ediv_of_nonneg g1
 have p1:0≤dm D:=Int.ediv_nonneg g1 (by omega)
 have:=F.blk
 rw[e2,iq (by omega) (by omega)]
 rfl
theorem Up (at' blk:Int):f18 D.1.1 D.1.2 D.2.1.1 D.2.1.2 D.2.2.1 D.2.2.2.1 D.2.2.2.2.1 D.2.2.2.2.2 at' blk=some (if pz D at' blk then acy D at' blk else (0,0,0),decide (pz D at' blk),()):=by
 unfold f18
 rw[jr,Q8]
 simp only[Option.bind_some]
 have ey:cC D.2.1.1 D.2.1.2=fD D:=rfl
 rw[ey]
 by_cases h0:at'<0
 ·have:¬ pz D at' blk:=fun h=>by have:=h.2.1.1;omega
  rw[decide_eq_true h0,decide_eq_false this,if_neg this];rfl
 rw[decide_eq_false h0]
 simp only[cond_false]
 by_cases h1:fD D≤at'
 ·have:¬ pz D at' blk:=fun h=>by have:=h.2.1.2;omega
  rw[decide_eq_true h1,decide_eq_false this,if_neg this];rfl
 rw[decide_eq_false h1]
 simp only[cond_false]
 by_cases h2:blk<0
 ·have:¬ pz D at' blk:=fun h=>by have:=h.2.2.1;omega
  rw[decide_eq_true h2,decide_eq_false this,if_neg this];rfl
 rw[decide_eq_false h2]
 simp only[cond_false]
 by_cases F:iW D
 case neg=>
  have:¬ pz D at' blk:=fun h=>F h.1
  rw[if_neg F,decide_eq_true (show (0:Int)≤blk by omega),decide_eq_false this,if_neg this];rfl
 rw[if_pos F]
 by_cases h3:dm D≤blk
 ·have:¬ pz D at' blk:=fun h=>by have:=h.2.2.2;omega
  rw[decide_eq_true h3,decide_eq_false this,if_neg this];rfl
 have hB:pz D at' blk:=⟨F,by omega,by omega,by omega⟩
 rw[decide_eq_false h3,decide_eq_true hB,if_pos hB]
 obtain⟨q1,q2⟩:=F.block (blk:=blk) (by omega) (by omega)
 have:=F.g2
 have:=F.hi
 have:=F.lo1
 have:=F.h1
 have:=F.g1
 simp only[cond_false]
 unfold acy
 generalize blk * Kn D=k at q1 q2 ⊢
 rw[iq (x:=k) (by omega) (by omega),iq (x:=Fo D-kE D) (by omega) (by omega),iq (x:=Fo D-kE D+1) (by omega) (by omega),iq (x:=Fo D-kE D+1+k) (by omega) (by omega),iq (x:=Fo D-kE D+1+k+Kn D) (by omega) (by omega),iq (x:=Fo D-kE D+1+k+Kn D-1) (by omega) (by omega)]
end
theorem KM (a b c at':Int):f55 a b c at'=some (hasB (a,b,c) at',()):=by
 unfold f55 hasB
 by_cases h1:0≤a
 ·rw[decide_eq_true h1]
  by_cases h2:a≤4
  ·rw[decide_eq_true h2]
   by_cases h3:1≤b
   ·rw[decide_eq_true h3]
    by_cases h4:b≤4
    ·rw[decide_eq_true h4,iq (x:=a+b) (by omega) (by omega)]
     cases decide (a≤at')<;>rfl
    ·rw[decide_eq_false h4];rfl
   ·rw[decide_eq_false h3];rfl
  ·rw[decide_eq_false h2];rfl
 ·rw[decide_eq_false h1];rfl
theorem LR (l:List HT)(hl:Sz l)(at':Int):f20 l at'=some (iv l at',()):=by
 unfold f20
 have e:iter aC jc ((l,(),((l.length:Nat):Int),0,()),((at',()),()),())=_:=
  kU l (fun p=>hasB p at') (fun j=>((l,(),((l.length:Nat):Int),((j:Nat):Int),()),((at',()),()),())) (fun j=>((((j:Nat):Int),()),((at',()),()),()))
   (y:=((),((at',()),()),())) (fun j h=>by
    simp only[jc,rE,dB h,dx,cond_true,Bool.and_self,Int.toNat_natCast,Ko h,KM,Option.bind_some,nx h hl])
   (by simp only[jc,rE,gr,cond_false]) (fuel:=aC) (by unfold aC;omega)
 rw[e]
 unfold iv
 split<;>rfl
theorem TL (a b c d:Int):f94 a b c d=some (decide (wg c d a b),()):=by
 unfold f94
 by_cases h1:c<a
 ·rw[decide_eq_true h1,decide_eq_true (show wg c d a b from .inl h1)];rfl
 ·rw[decide_eq_false h1]
  by_cases h2:a=c
  ·rw[decide_eq_true h2]
   have:(d<b)↔wg c d a b:=by unfold wg;omega
   simp only[cond_false,cond_true,decide_eq_decide.2 this]
  ·rw[decide_eq_false h2,decide_eq_false (show ¬ wg c d a b by unfold wg;omega)];rfl
theorem K6 (a b c d e:Int):f57 a b c d e=some ((b,c),()):=by unfold f57 f98;rfl
theorem rJ (l:List LT)(hl:Sz l)(a b:Int):f22 l a b=some (fO l a b,()):=by
 unfold f22
 have e:iter aC iT ((l,(),((l.length:Nat):Int),0,()),((a,b,()),((),()),()),())=_:=
  kU l (iw a b) (fun j=>((l,(),((l.length:Nat):Int),((j:Nat):Int),()),((a,b,()),((),()),()),())) (fun j=>((((j:Nat):Int),()),((a,b,()),((),()),()),()))
   (y:=((),((a,b,()),((),()),()),())) (fun j h=>by
    simp only[iT,qN,dB h,dx,cond_true,Bool.and_self,Int.toNat_natCast,Qj h,K6,Option.bind_some,iw,Bool.and_true,nx h hl])
   (by simp only[iT,qN,gr,cond_false]) (fuel:=aC) (by unfold aC;omega)
 rw[e]
 unfold fO
 split<;>rfl
theorem Tx {p q:HT}{out:Int}(hp:ix p out)(hq:ix q out)(ho:out≤4):f91 p.1 p.2.1 p.2.2 q.1 q.2.1 q.2.2=some (dY p q,()):=by
 obtain⟨p1,p2,p3,p4,_⟩:=hp
 obtain⟨q1,q2,q3,q4,_⟩:=hq
 unfold f91 dY
 rw[iq (x:=q.1+q.2.1) (by omega) (by omega),iq (x:=p.1+p.2.1) (by omega) (by omega)]
 cases decide (p.1<q.1+q.2.1)<;>rfl
theorem SL (p:HT)(out:Int)(h0:0≤out)(h1:out≤4):f92 p.1 p.2.1 p.2.2 out=some (decide (ix p out),()):=by
 unfold f92 ix
 by_cases c1:0≤p.1
 ·by_cases c2:1≤p.2.1
  ·by_cases c3:p.1<out
   ·rw[iq (x:=out-p.1) (by omega) (by omega)]
    by_cases c4:p.2.1≤out-p.1
    ·by_cases c5:0≤p.2.2
     ·simp[c1,c2,c3,c4,c5]
     ·simp[c1,c2,c3,c4,c5]
    ·simp[c1,c2,c3,c4]
   ·simp[c1,c2,c3]
  ·simp[c1,c2]
 ·simp[c1]
def QV (M:List HT)(out:Int):Prop:=(∀ p∈M,ix p out)∧M.Pairwise fun p q=>dY q p=false
theorem QV.take {l:List HT}{out:Int}(h:QV l out)(j:Nat):QV (l.take j) out:=
 ⟨fun p hp=>h.1 p (List.mem_of_mem_take hp),h.2.sublist (List.take_sublist j l)⟩
theorem QV.snoc {l:List HT}{out:Int}{j:Nat}(hj:j<l.length):QV (l.take (j+1)) out↔QV (l.take j) out∧ix l[j] out∧(l.take j).any (fun q=>dY l[j] q)=false:=by
 rw[aW hj]
 unfold QV
 rw[List.pairwise_append]
 constructor
 ·intro ⟨h1,h2,h3,h4⟩
  refine⟨⟨fun p hp=>h1 p (List.mem_append.2 (.inl hp)),h2⟩,h1 _ (List.mem_append.2 (.inr (List.mem_singleton.2 rfl))),?_⟩
  rw[List.any_eq_false]
  intro q hq
  rw[h4 q hq _ (List.mem_singleton.2 rfl)];simp
 ·intro ⟨⟨h1,h2⟩,h3,h4⟩
  refine⟨fun p hp=>?_,h2,List.pairwise_singleton _ _,fun a ha b hb=>?_⟩
  ·rcases List.mem_append.1 hp with hp|hp
   ·exact h1 p hp
   ·rw[List.mem_singleton] at hp;rw[hp];exact h3
  ·rw[List.mem_singleton] at hb;subst hb
   rw[List.any_eq_false] at h4
   simpa using h4 a ha
theorem Wc (l:List HT)(hl:Sz l)(p:HT)(out:Int)(hp:ix p out)(ho:out≤4)(hf:∀ q∈l,ix q out) :
  iter aC jj ((l,(),((l.length:Nat):Int),0,()),((p.1,p.2.1,p.2.2,()),()),()) =
   some (if l.findIdx (fun q=>dY p q)<l.length then .inr ((((l.findIdx (fun q=>dY p q):Nat):Int),()),((p.1,p.2.1,p.2.2,()),()),()) else .inl ((),((p.1,p.2.1,p.2.2,()),()),())):=
 kU l (fun q=>dY p q) (fun j=>((l,(),((l.length:Nat):Int),((j:Nat):Int),()),((p.1,p.2.1,p.2.2,()),()),())) (fun j=>((((j:Nat):Int),()),((p.1,p.2.1,p.2.2,()),()),()))
  (y:=((),((p.1,p.2.1,p.2.2,()),()),())) (fun j h=>by
   simp only[jj,rA,dB h,dx,cond_true,Bool.and_self,Int.toNat_natCast,Ko h,Tx hp (hf _ (List.getElem_mem h)) ho,Option.bind_some,nx h hl])
  (by simp only[jj,rA,gr,cond_false]) (fuel:=aC) (by unfold aC;omega)
theorem yb (l:List HT)(out:Int):f45 l out=some (decide (bp l out),()):=by
 unfold f45
 by_cases h0:out<0
 ·rw[decide_eq_true h0,decide_eq_false (show ¬ bp l out from fun h=>by have:=h.Rt;omega)];rfl
 rw[decide_eq_false h0]
 by_cases h4:4<out
 ·rw[decide_eq_true h4,decide_eq_false (show ¬ bp l out from fun h=>by have:=h.QC;omega)];rfl
 rw[decide_eq_false h4]
 by_cases h3:3<l.length
 ·rw[decide_eq_true (show (3:Int)<((l.length:Nat):Int) by omega),decide_eq_false (show ¬ bp l out from fun h=>by have:=h.len;omega)];rfl
 rw[decide_eq_false (show ¬ (3:Int)<((l.length:Nat):Int) by omega)]
 simp only[cond_false]
 let st:Nat→Oq:=fun j=>((l,out,l,((l.length:Nat):Int),((j:Nat):Int),()),(),())
 obtain⟨r,e1,e2⟩:=EF (f:=vE) (fun x=>∃ j,x=st j∧j≤l.length∧QV (l.take j) out) (fun x=>l.length-x.1.2.2.2.2.1.toNat)
  (fun r=>match r with
   | .inl _=>QV l out
   | .inr z=>z.1.1=false∧¬ QV l out) (by
  rintro x ⟨j,rfl,hj1,hj2⟩
  rcases Nat.lt_or_ge j l.length with hlt|hge
  ·have hb1:=SL l[j] out (by omega) (by omega)
   have hsn:=QV.snoc (out:=out) hlt
   by_cases hfit:ix l[j] out
   case neg=>
    rw[decide_eq_false hfit] at hb1
    refine .inr (.inr ⟨((false,()),(),()),?_,rfl,fun h=>hfit (hsn.1 (h.take _)).2.1⟩)
    simp only[st,vE,Io,dB hlt,dx,cond_true,Bool.and_self,Int.toNat_natCast,Ko hlt,hb1,Option.bind_some,Bool.not_false]
   rw[decide_eq_true hfit] at hb1
   have htake:List.drop 0 (List.take j l)=l.take j:=by simp
   have hin:=Wc (l.take j) (by unfold Sz;simp;omega) l[j] out hfit (by omega) hj2.1
   have hle:decide (((j:Nat):Int)≤((l.length:Nat):Int))=true:=decide_eq_true (by omega)
   by_cases hm:(l.take j).findIdx (fun q=>dY l[j] q)<(l.take j).length
   ·rw[if_pos hm] at hin
    refine .inr (.inr ⟨((false,()),(),()),?_,rfl,fun h=>?_⟩)
    ·simp only[st,vE,Io,dB hlt,dx,cond_true,Bool.and_self,Int.toNat_natCast,Ko hlt,hb1,Option.bind_some,Bool.not_true,cond_false,hle,htake,hin]
    ·have h1:=(hsn.1 (h.take _)).2.2
     rw[← sZ,if_pos hm] at h1
     omega
   ·rw[if_neg hm] at hin
    have hno:(l.take j).any (fun q=>dY l[j] q)=false:=by rw[← sZ,if_neg hm]
    refine .inl ⟨st (j+1),?_,⟨j+1,rfl,by omega,hsn.2 ⟨hj2,hfit,hno⟩⟩,?_⟩
    ·simp only[st,vE,Io,dB hlt,dx,cond_true,Bool.and_self,Int.toNat_natCast,Ko hlt,hb1,Option.bind_some,Bool.not_true,cond_false,hle,htake,hin,nx hlt (show l.length≤9223372036854775807 by omega)]
    ·show l.length-Int.toNat (((j+1:Nat):Int))<l.length-Int.toNat ((j:Nat):Int)
     omega
  ·have:j=l.length:=by omega
   subst this
   refine .inr (.inl ⟨((),(),()),?_,?_⟩)
   ·simp only[st,vE,Io,gr,cond_false]
   ·rw[List.take_length] at hj2;exact hj2)
  aC (st 0) ⟨0,rfl,by omega,by rw[List.take_zero];exact⟨by simp,by simp⟩⟩ (by simp only[st];unfold aC;omega)
 have e1':iter aC vE ((l,out,l,((l.length:Nat):Int),0,()),(),())=some r:=e1
 rw[e1']
 cases r with
 | inl y=>
  have e2:QV l out:=e2
  rw[decide_eq_true (show bp l out from ⟨by omega,by omega,by omega,e2.1,e2.2⟩)];rfl
 | inr z=>
  obtain⟨k1,k2⟩:=e2
  rw[decide_eq_false (show ¬ bp l out from fun h=>k2 ⟨h.fits,h.apart⟩)]
  show some (z.1.1,())=_
  rw[k1]
theorem Lt (p:PT):f28 p.1 p.2.1 p.2.2.1 p.2.2.2=some (decide (tT p),()):=by
 unfold f28 tT
 simp only[My,Option.bind_some,xZ]
 by_cases h1:1≤p.1∧p.1≤8
 ·by_cases h2:1≤p.2.1∧p.2.1≤1048576
  ·simp[h1,h2]
  ·rw[decide_eq_true h1,decide_eq_false h2]
   simp[h2]
 ·rw[decide_eq_false h1];simp[h1]
theorem Qu (p:Int×Int)(l:List (Int×Int))(x v:Int):iD (p::l) x v=if x=p.1 then (p.1,v)::l else p::iD l x v:=by
 unfold iD
 by_cases h:x=p.1
 ·simp[mJ,iI,ur,h]
 ·rw[if_neg h]
  simp only[mJ,iI,decide_eq_false h,cond_false]
  cases mJ l x<;>rfl
theorem nK (x v y:Int):∀ (l:List (Int×Int)),cH (iD l x v) y=if y=x then v else cH l y
 | []=>by
  show cH [(x,v)] y=_
  by_cases h:y=x<;>simp[cH,h]
 | p::l=>by
  rw[Qu]
  by_cases h:x=p.1
  ·rw[if_pos h]
   simp only[cH]
   by_cases h2:y=p.1
   ·simp[h2,h]
   ·rw[decide_eq_false h2,if_neg (by rw[h];exact h2)];rfl
  ·rw[if_neg h]
   simp only[cH]
   by_cases h2:y=p.1
   ·rw[decide_eq_true h2,if_neg (by rw[h2];exact fun e=>h e.symm)];rfl
   ·rw[decide_eq_false h2]
    simp only[cond_false]
    exact nK x v y l
section
variable {D:DT}{p:PT}{now:Int}{P H:List HT}{L:List LT}
abbrev Eo (D:DT)(p:PT)(now:Int)(P:List HT)(L:List LT)(H:List HT)(j:Nat)(mp:List (Int×Int)):BF:=
 (((),(),L,((L.length:Nat):Int),((j:Nat):Int),()),((D.1.1,D.1.2,D.2.1.1,D.2.1.2,D.2.2.1,D.2.2.2.1,D.2.2.2.2.1,D.2.2.2.2.2,p.1,p.2.1,p.2.2.1,p.2.2.2,now,P,L,H,()),mp,()),())
theorem aaj (L:List LT)(s:Int):cnt L s≤L.length:=List.countP_le_length
theorem Z4 (hp:tT p)(h0:0≤now)(h1:now≤1073741824)(hP:Sz P)(hL:Sz L)(j:Nat)(mp:List (Int×Int))(hj:j<L.length)(hmp:∀ s,cH mp s=((cnt (L.take j) s:Nat):Int)) :
  (vm (Eo D p now P L H j mp)=some (.ret ((false,()),(),()))∧¬ (fI D p now P L[j]∧((cnt (L.take j) L[j].1+1:Nat):Int)≤p.1∧∀ (h0:0<j),xQ (L[j-1]'(by omega)) L[j])) ∨
  ((∃ mp',vm (Eo D p now P L H j mp)=some (.next (Eo D p now P L H (j+1) mp'))∧∀ s,cH mp' s=((cnt (L.take (j+1)) s:Nat):Int)) ∧
   fI D p now P L[j]∧((cnt (L.take j) L[j].1+1:Nat):Int)≤p.1∧∀ (h0:0<j),xQ (L[j-1]'(by omega)) L[j]):=by
 obtain⟨p1,p2,p3,pr⟩:=p
 have hc:cnt (L.take j) L[j].1≤j:=Nat.le_trans (aaj _ _) (by rw[List.length_take];omega)
 have hv:cH mp L[j].1+1=((cnt (L.take j) L[j].1+1:Nat):Int):=by rw[hmp];omega
 have hw:IntKind.wrap .i64 (cH mp L[j].1+1)=((cnt (L.take j) L[j].1+1:Nat):Int):=by rw[iq (by omega) (by unfold Sz at hL;omega),hv]
 have hi:IntKind.wrap .i64 (now-p2)=now-p2:=by have h2:1≤p2∧p2≤1048576:=hp.2.1;exact iq (by omega) (by omega)
 simp only[Eo,vm,SQ,dB hj,dx,cond_true,Bool.and_self,Int.toNat_natCast,Qj hj,Ux,Up,Option.bind_some,LR P hP,nx hj hL,nK,if_true,hw,hi]
 by_cases hS:td D L[j].1
 case neg=>rw[decide_eq_false hS];exact .inl ⟨rfl,fun h=>hS h.1.sub⟩
 rw[decide_eq_true hS,if_pos hS]
 by_cases hB:pz D L[j].2.1 L[j].2.2.1
 case neg=>rw[decide_eq_false hB];exact .inl ⟨rfl,fun h=>hB h.1.blk⟩
 rw[decide_eq_true hB]
 simp only[Bool.not_true,cond_false]
 by_cases hI:iv P L[j].2.1 = -1
 ·rw[decide_eq_true hI]
  refine .inl ⟨rfl,fun h=>?_⟩
  have:=h.1.Sf
  rw[(oC _ _).1 hI] at this
  simp at this
 rw[decide_eq_false hI]
 have hpool:yZ P L[j].2.1=true:=by
  cases hb:yZ P L[j].2.1 with
  | true=>rfl
  | false=>exact absurd ((oC _ _).2 hb) hI
 simp only[cond_false]
 have hlt1:0<j→j-1<L.length:=fun _=>by omega
 have fin:∀ (hpr:pr=true→L[j].1 / gi D=L[j].2.1) (X:Option (R3 BF NU Oz)),
   X=(cond (decide (p1<((cnt (L.take j) L[j].1+1:Nat):Int))) (some (.ret ((false,()),(),()))) (cond (decide (L[j].2.2.2.1<0)) (some (.ret ((false,()),(),()))) (cond (decide (L[j].2.2.2.2<L[j].2.2.2.1)) (some (.ret ((false,()),(),())))
    (cond (decide (now<L[j].2.2.2.2)) (some (.ret ((false,()),(),()))) (cond (decide (L[j].2.2.2.2≤now-p2)) (some (.ret ((false,()),(),())))
     (if (∀ (h0:0<j),xQ (L[j-1]'(by omega)) L[j]) then some (.next (Eo D (p1,p2,p3,pr) now P L H (j+1) (iD mp L[j].1 ((cnt (L.take j) L[j].1+1:Nat):Int)))) else some (.ret ((false,()),(),())))))))) →
   (X=some (.ret ((false,()),(),()))∧¬ (fI D (p1,p2,p3,pr) now P L[j]∧((cnt (L.take j) L[j].1+1:Nat):Int)≤p1∧∀ (h0:0<j),xQ (L[j-1]'(by omega)) L[j])) ∨
   ((∃ mp',X=some (.next (Eo D (p1,p2,p3,pr) now P L H (j+1) mp'))∧∀ s,cH mp' s=((cnt (L.take (j+1)) s:Nat):Int)) ∧
    fI D (p1,p2,p3,pr) now P L[j]∧((cnt (L.take j) L[j].1+1:Nat):Int)≤p1∧∀ (h0:0<j),xQ (L[j-1]'(by omega)) L[j]):=by
  intro hpr X hX
  subst hX
  by_cases c1:p1<((cnt (L.take j) L[j].1+1:Nat):Int)
  ·rw[decide_eq_true c1];exact .inl ⟨rfl,fun h=>by have:=h.2.1;omega⟩
  rw[decide_eq_false c1]
  by_cases c2:L[j].2.2.2.1<0
  ·rw[decide_eq_true c2];exact .inl ⟨rfl,fun h=>by have:=h.1.B4;omega⟩
  rw[decide_eq_false c2]
  by_cases c3:L[j].2.2.2.2<L[j].2.2.2.1
  ·rw[decide_eq_true c3];exact .inl ⟨rfl,fun h=>by have:=h.1.Ca;omega⟩
  rw[decide_eq_false c3]
  by_cases c4:now<L[j].2.2.2.2
  ·rw[decide_eq_true c4];exact .inl ⟨rfl,fun h=>by have:=h.1.BZ;omega⟩
  rw[decide_eq_false c4]
  by_cases c5:L[j].2.2.2.2≤now-p2
  ·rw[decide_eq_true c5];exact .inl ⟨rfl,fun h=>by have:now-p2<L[j].2.2.2.2:=h.1.idle;omega⟩
  rw[decide_eq_false c5]
  simp only[cond_false]
  by_cases c6:∀ (h0:0<j),xQ (L[j-1]'(by omega)) L[j]
  ·rw[if_pos c6]
   refine .inr ⟨⟨_,rfl,fun s=>?_⟩,⟨hS,hB,hpool,hpr,by omega,by omega,by omega,show now-p2<L[j].2.2.2.2 by omega⟩,by show _≤p1;omega,c6⟩
   rw[nK,aW hj,tJ,hmp]
   by_cases e:s=L[j].1
   ·subst e;rw[if_pos rfl,if_pos rfl]
   ·rw[if_neg e,if_neg (fun h=>e h.symm)];rfl
  ·rw[if_neg c6];exact .inl ⟨rfl,fun h=>c6 h.2.2⟩
 have tail:∀ (N:R3 BF NU Oz),(cond (decide ((0:Int)<((j:Nat):Int)))
   (cond (decide (0≤IntKind.wrap .i64 (((j:Nat):Int)-1))&&decide (IntKind.wrap .i64 (((j:Nat):Int)-1)<((L.length:Nat):Int)))
    (cond (decide (0≤IntKind.wrap .i64 (((j:Nat):Int)-1))&&decide (IntKind.wrap .i64 (((j:Nat):Int)-1)<((L.length:Nat):Int)))
     ((f94 L[j].2.1 L[j].2.2.1 (rd (.pair (.int .i64) (.pair (.int .i64) (.pair (.int .i64) (.pair (.int .i64) (.int .i64))))) L (Int.toNat (IntKind.wrap .i64 (((j:Nat):Int)-1)))).2.1 (rd (.pair (.int .i64) (.pair (.int .i64) (.pair (.int .i64) (.pair (.int .i64) (.int .i64))))) L (Int.toNat (IntKind.wrap .i64 (((j:Nat):Int)-1)))).2.2.1).bind fun y24=>
      cond (!y24.1) (some (R3.ret ((false,()),(),()))) (some N))
     none) none) (some N))=if (∀ (h0:0<j),xQ (L[j-1]'(by omega)) L[j]) then some N else some (.ret ((false,()),(),())):=by
  intro N
  by_cases h0:0<j
  ·have hw:IntKind.wrap .i64 (((j:Nat):Int)-1)=((j-1:Nat):Int):=by rw[iq (by omega) (by unfold Sz at hL;omega)];omega
   rw[decide_eq_true (show (0:Int)<((j:Nat):Int) by omega),hw,dx,dB (hlt1 h0),Int.toNat_natCast,Qj (hlt1 h0),TL]
   simp only[cond_true,Bool.and_self,Option.bind_some]
   by_cases hl:xQ (L[j-1]'(by omega)) L[j]
   ·rw[if_pos (fun _=>hl)]
    unfold xQ at hl
    rw[decide_eq_true hl];rfl
   ·rw[if_neg (fun h=>hl (h h0))]
    unfold xQ at hl
    rw[decide_eq_false hl];rfl
  ·rw[decide_eq_false (show ¬ (0:Int)<((j:Nat):Int) by omega),if_pos (fun h=>absurd h h0)];rfl
 have hbase:(OH D L[j].1).1=L[j].1 / gi D:=rfl
 cases pr with
 | true=>
  simp only[cond_true,if_true,hbase]
  by_cases hq:L[j].1 / gi D=L[j].2.1
  ·rw[decide_eq_true hq]
   simp only[Bool.not_true,cond_false]
   refine fin (fun _=>hq) _ ?_
   rw[tail]
  ·rw[decide_eq_false hq]
   exact .inl ⟨rfl,fun h=>hq (h.1.pair rfl)⟩
 | false=>
  simp only[cond_false]
  refine fin (fun h=>by simp at h) _ ?_
  rw[tail]
theorem aaG (hp:tT p)(h0:0≤now)(h1:now≤1073741824)(hP:Sz P)(hL:Sz L) :
  f47 D.1.1 D.1.2 D.2.1.1 D.2.1.2 D.2.2.1 D.2.2.2.1 D.2.2.2.2.1 D.2.2.2.2.2 p.1 p.2.1 p.2.2.1 p.2.2.2 now P L H=some (decide (bz D p now P L∧L.length≤32),()):=by
 unfold f47
 obtain⟨r,e1,e2⟩:=EF (f:=vm) (fun x=>∃ j mp,x=Eo D p now P L H j mp∧j≤L.length∧bz D p now P (L.take j)∧∀ s,cH mp s=((cnt (L.take j) s:Nat):Int)) (fun x=>L.length-x.1.2.2.2.2.1.toNat)
  (fun r=>match r with
   | .inl y=>bz D p now P L∧y.2.1.1.2.2.2.2.2.2.2.2.2.2.2.2.2.2.1=L
   | .inr z=>z.1.1=false∧¬ bz D p now P L) (by
  rintro x ⟨j,mp,rfl,hj1,hj2,hmp⟩
  rcases Nat.lt_or_ge j L.length with hlt|hge
  ·rcases Z4 (D:=D) (H:=H) hp h0 h1 hP hL j mp hlt hmp with⟨hs,hn⟩|⟨⟨mp',hs,hm'⟩,k⟩
   ·exact .inr (.inr ⟨_,hs,rfl,fun h=>hn ((bz.snoc hlt (h.take j)).1 (h.take (j+1)))⟩)
   ·refine .inl ⟨_,hs,⟨j+1,mp',rfl,by omega,(bz.snoc hlt hj2).2 k,hm'⟩,?_⟩
    show L.length-Int.toNat (((j+1:Nat):Int))<L.length-Int.toNat ((j:Nat):Int)
    omega
  ·have:j=L.length:=by omega
   subst this
   refine .inr (.inl ⟨_,by simp only[Eo,vm,SQ,gr,cond_false];rfl,?_,rfl⟩)
   rw[List.take_length] at hj2;exact hj2)
  aC (Eo D p now P L H 0 []) ⟨0,[],rfl,by omega,by rw[List.take_zero];exact bz.nil,fun s=>by rw[List.take_zero];rfl⟩ (by
   show L.length-Int.toNat ((0:Nat):Int)<aC
   unfold aC;unfold Sz at hL;omega)
 have e1':iter aC vm (((),(),L,((L.length:Nat):Int),0,()),((D.1.1,D.1.2,D.2.1.1,D.2.1.2,D.2.2.1,D.2.2.2.1,D.2.2.2.2.1,D.2.2.2.2.2,p.1,p.2.1,p.2.2.1,p.2.2.2,now,P,L,H,()),[],()),())=some r:=e1
 rw[e1']
 cases r with
 | inl y=>
  obtain⟨k1,k2⟩:=e2
  simp only[Option.bind_some,k2]
  have:(((L.length:Nat):Int)≤32)↔(bz D p now P L∧L.length≤32):=⟨fun h=>⟨k1,by omega⟩,fun h=>by have:=h.2;omega⟩
  rw[decide_eq_decide.2 this]
 | inr z=>
  obtain⟨k1,k2⟩:=e2
  simp only[Option.bind_some,k1]
  rw[decide_eq_false (fun h=>k2 h.1)]
abbrev Lh (D:DT)(p:PT)(now:Int)(P:List HT)(L:List LT)(H:List HT)(j:Nat):NL:=
 (((),H,((H.length:Nat):Int),((j:Nat):Int),()),((D.1.1,D.1.2,D.2.1.1,D.2.1.2,D.2.2.1,D.2.2.2.1,D.2.2.2.2.1,D.2.2.2.2.2,p.1,p.2.1,p.2.2.1,p.2.2.2,now,P,L,H,()),()),())
theorem aaN (h0:0≤now)(h1:now≤1073741824)(hL:Sz L)(hH:Sz H)(j:Nat)(hj:j<H.length) :
  (vj (Lh D p now P L H j)=some (.ret ((false,()),(),()))∧¬ (ug D now L H[j]∧∀ (h0:0<j),Az (H[j-1]'(by omega)) H[j])) ∨
  (vj (Lh D p now P L H j)=some (.next (Lh D p now P L H (j+1)))∧ug D now L H[j]∧∀ (h0:0<j),Az (H[j-1]'(by omega)) H[j]):=by
 simp only[Lh,vj,RJ,dB hj,dx,cond_true,Bool.and_self,Int.toNat_natCast,Ko hj,Up,My,Option.bind_some,rJ L hL,nx hj hH,
  iq (show -9223372036854775808≤now+1 by omega) (by omega),iq (show -9223372036854775808≤now+1048576 by omega) (by omega)]
 by_cases hB:pz D H[j].1 H[j].2.1
 case neg=>rw[decide_eq_false hB];exact .inl ⟨rfl,fun h=>hB h.1.blk⟩
 rw[decide_eq_true hB]
 simp only[Bool.not_true,cond_false]
 by_cases hT:now+1≤H[j].2.2∧H[j].2.2≤now+1048576
 case neg=>rw[xZ,decide_eq_false hT];exact .inl ⟨rfl,fun h=>hT ⟨h.1.Nz,h.1.BD⟩⟩
 rw[xZ,decide_eq_true hT]
 simp only[Bool.not_true,cond_false]
 by_cases hI:fO L H[j].1 H[j].2.1 = -1
 case neg=>
  rw[decide_eq_false hI]
  exact .inl ⟨rfl,fun h=>hI ((di _ _ _).2 h.1.free)⟩
 rw[decide_eq_true hI]
 simp only[Bool.not_true,cond_false]
 have hOK:ug D now L H[j]:=⟨hB,hT.1,hT.2,(di _ _ _).1 hI⟩
 by_cases hj0:0<j
 ·have hw:IntKind.wrap .i64 (((j:Nat):Int)-1)=((j-1:Nat):Int):=by rw[iq (by omega) (by unfold Sz at hH;omega)];omega
  have hl1:j-1<H.length:=by omega
  rw[decide_eq_true (show (0:Int)<((j:Nat):Int) by omega),hw,dx,dB hl1,Int.toNat_natCast,Ko hl1,TL]
  simp only[cond_true,Bool.and_self,Option.bind_some]
  by_cases hl:Az (H[j-1]'(by omega)) H[j]
  ·unfold Az at hl
   rw[decide_eq_true hl]
   exact .inr ⟨rfl,hOK,fun _=>hl⟩
  ·have hl':=hl
   unfold Az at hl'
   rw[decide_eq_false hl']
   exact .inl ⟨rfl,fun h=>hl (h.2 hj0)⟩
 ·rw[decide_eq_false (show ¬ (0:Int)<((j:Nat):Int) by omega)]
  exact .inr ⟨rfl,hOK,fun h=>absurd h hj0⟩
theorem aas (h0:0≤now)(h1:now≤1073741824)(hL:Sz L)(hH:Sz H) :
  f48 D.1.1 D.1.2 D.2.1.1 D.2.1.2 D.2.2.1 D.2.2.2.1 D.2.2.2.2.1 D.2.2.2.2.2 p.1 p.2.1 p.2.2.1 p.2.2.2 now P L H=some (decide (cO D now L H),()):=by
 unfold f48
 obtain⟨r,e1,e2⟩:=EF (f:=vj) (fun x=>∃ j,x=Lh D p now P L H j∧j≤H.length∧cO D now L (H.take j)) (fun x=>H.length-x.1.2.2.2.1.toNat)
  (fun r=>match r with
   | .inl y=>cO D now L H
   | .inr z=>z.1.1=false∧¬ cO D now L H) (by
  rintro x ⟨j,rfl,hj1,hj2⟩
  rcases Nat.lt_or_ge j H.length with hlt|hge
  ·rcases aaN (D:=D) (p:=p) (P:=P) h0 h1 hL hH j hlt with⟨hs,hn⟩|⟨hs,k⟩
   ·exact .inr (.inr ⟨_,hs,rfl,fun h=>hn ((cO.snoc hlt (h.take j)).1 (h.take (j+1)))⟩)
   ·refine .inl ⟨_,hs,⟨j+1,rfl,by omega,(cO.snoc hlt hj2).2 k⟩,?_⟩
    show H.length-Int.toNat (((j+1:Nat):Int))<H.length-Int.toNat ((j:Nat):Int)
    omega
  ·have:j=H.length:=by omega
   subst this
   refine .inr (.inl ⟨((),(),()),?_,?_⟩)
   ·simp only[Lh,vj,RJ,gr,cond_false]
   ·rw[List.take_length] at hj2;exact hj2)
  aC (Lh D p now P L H 0) ⟨0,rfl,by omega,by rw[List.take_zero];exact cO.nil⟩ (by
   show H.length-Int.toNat ((0:Nat):Int)<aC
   unfold aC;unfold Sz at hH;omega)
 have e1':iter aC vj (((),H,((H.length:Nat):Int),0,()),((D.1.1,D.1.2,D.2.1.1,D.2.1.2,D.2.2.1,D.2.2.2.1,D.2.2.2.2.1,D.2.2.2.2.2,p.1,p.2.1,p.2.2.1,p.2.2.2,now,P,L,H,()),()),())=some r:=e1
 rw[e1']
 cases r with
 | inl y=>
  have e2:cO D now L H:=e2
  rw[decide_eq_true e2];rfl
 | inr z=>
  obtain⟨k1,k2⟩:=e2
  simp only[Option.bind_some,k1]
  rw[decide_eq_false k2]
end
theorem ez (s:ST)(hP:Sz s.2.2.2.1)(hL:Sz s.2.2.2.2.1)(hH:Sz s.2.2.2.2.2) :
  f15 s.1.1.1 s.1.1.2 s.1.2.1.1 s.1.2.1.2 s.1.2.2.1 s.1.2.2.2.1 s.1.2.2.2.2.1 s.1.2.2.2.2.2 s.2.1.1 s.2.1.2.1 s.2.1.2.2.1 s.2.1.2.2.2 s.2.2.1 s.2.2.2.1 s.2.2.2.2.1 s.2.2.2.2.2=some (decide (aM s),()):=by
 unfold f15
 rw[Cq]
 simp only[Option.bind_some]
 by_cases c1:iW s.1
 case neg=>rw[decide_eq_false c1,decide_eq_false (fun h=>c1 (aM.fit h))];rfl
 rw[decide_eq_true c1,Lt]
 simp only[Option.bind_some,cond_true]
 by_cases c2:tT s.2.1
 case neg=>rw[decide_eq_false c2,decide_eq_false (fun h=>c2 (aM.ud h))];rfl
 rw[decide_eq_true c2,My,xZ]
 simp only[Option.bind_some,cond_true]
 by_cases c3:0≤s.2.2.1∧s.2.2.1≤1073741824
 case neg=>rw[decide_eq_false c3,decide_eq_false (fun h=>c3 ⟨aM.jX h,aM.nV h⟩)];rfl
 rw[decide_eq_true c3]
 have h42:f46 s.1.1.1 s.1.1.2 s.1.2.1.1 s.1.2.1.2 s.1.2.2.1 s.1.2.2.2.1 s.1.2.2.2.2.1 s.1.2.2.2.2.2 s.2.1.1 s.2.1.2.1 s.2.1.2.2.1 s.2.1.2.2.2 s.2.2.1 s.2.2.2.1 s.2.2.2.2.1 s.2.2.2.2.2=some (fD s.1,()):=by
  unfold f46;rw[jr];rfl
 rw[h42]
 simp only[Option.bind_some,cond_true,yb]
 by_cases c4:bp s.2.2.2.1 (fD s.1)
 case neg=>rw[decide_eq_false c4,decide_eq_false (fun h=>c4 (aM.dD h))];rfl
 rw[decide_eq_true c4,aaG c2 c3.1 c3.2 hP hL]
 simp only[Option.bind_some,cond_true]
 by_cases c5:bz s.1 s.2.1 s.2.2.1 s.2.2.2.1 s.2.2.2.2.1∧s.2.2.2.2.1.length≤32
 case neg=>rw[decide_eq_false c5,decide_eq_false (fun h=>c5 ⟨aM.aX h,aM.len h⟩)];rfl
 rw[decide_eq_true c5,aas c3.1 c3.2 hL hH]
 simp only[Option.bind_some,cond_true]
 by_cases c6:cO s.1 s.2.2.1 s.2.2.2.2.1 s.2.2.2.2.2
 case neg=>rw[decide_eq_false c6,decide_eq_false (fun h=>c6 (aM.cU h))]
 rw[decide_eq_true c6,decide_eq_true (show aM s from ⟨c1,c2,c3.1,c3.2,c4,c5.1,c5.2,c6⟩)]
theorem fCP (l:List HT)(hl:l.length≤1000):ew l=some (l,()):=by
 unfold ew jU
 rw[Nat.ble_eq_true_of_le (show l.length * 24≤140737488355328 by omega)];rfl
theorem fCL (l:List LT)(hl:l.length≤1000):cW l=some (l,()):=by
 unfold cW jU
 rw[Nat.ble_eq_true_of_le (show l.length * 40≤140737488355328 by omega)];rfl
theorem fCH (l:List HT)(hl:l.length≤1000):dF l=some (l,()):=by
 unfold dF jU
 rw[Nat.ble_eq_true_of_le (show l.length * 24≤140737488355328 by omega)];rfl
theorem aaU (l m:List HT)(hl:Sz l):f61 l m=some (decide (l=m),()):=by
 unfold f61
 by_cases hlen:l.length=m.length
 ·rw[decide_eq_true (show ((l.length:Nat):Int)=((m.length:Nat):Int) by omega)]
  simp only[Bool.not_true,cond_false]
  have e:iter aC Jo ((l,m,((l.length:Nat):Int),0,()),(),())=_:=yO (fun j=>((l,m,((l.length:Nat):Int),((j:Nat):Int),()),(),())) (fun j=>!decide (rd (.pair (.int .i64) (.pair (.int .i64) (.int .i64))) l j=rd (.pair (.int .i64) (.pair (.int .i64) (.int .i64))) m j))
   (n:=l.length) (z:=((false,()),(),())) (y:=((),(),())) (fun j hj=>by
    simp only[Jo,R9,dB hj,dx,dB (show j<m.length by omega),nx hj hl,cond_true,Bool.and_self,Int.toNat_natCast,Yj])
   (by simp only[Jo,R9,gr,cond_false]) 0 aC (Nat.zero_le _) (by unfold aC;omega)
  rw[e,mb hlen _ (fun j h=>by rw[mC h,mC (by omega)])]
  cases decide (l=m)<;>rfl
 ·rw[decide_eq_false (show ¬ ((l.length:Nat):Int)=((m.length:Nat):Int) by omega),decide_eq_false (fun h=>hlen (by rw[h]))]
  rfl
theorem aaM (l m:List HT)(hl:Sz l):f79 l m=some (decide (l=m),()):=by
 unfold f79
 by_cases hlen:l.length=m.length
 ·rw[decide_eq_true (show ((l.length:Nat):Int)=((m.length:Nat):Int) by omega)]
  simp only[Bool.not_true,cond_false]
  have e:iter aC FH ((l,m,((l.length:Nat):Int),0,()),(),())=_:=yO (fun j=>((l,m,((l.length:Nat):Int),((j:Nat):Int),()),(),())) (fun j=>!decide (rd (.pair (.int .i64) (.pair (.int .i64) (.int .i64))) l j=rd (.pair (.int .i64) (.pair (.int .i64) (.int .i64))) m j))
   (n:=l.length) (z:=((false,()),(),())) (y:=((),(),())) (fun j hj=>by
    simp only[FH,Ti,dB hj,dx,dB (show j<m.length by omega),nx hj hl,cond_true,Bool.and_self,Int.toNat_natCast,Yj])
   (by simp only[FH,Ti,gr,cond_false]) 0 aC (Nat.zero_le _) (by unfold aC;omega)
  rw[e,mb hlen _ (fun j h=>by rw[mC h,mC (by omega)])]
  cases decide (l=m)<;>rfl
 ·rw[decide_eq_false (show ¬ ((l.length:Nat):Int)=((m.length:Nat):Int) by omega),decide_eq_false (fun h=>hlen (by rw[h]))]
  rfl
theorem aam (l m:List LT)(hl:Sz l):f60 l m=some (decide (l=m),()):=by
 unfold f60
 by_cases hlen:l.length=m.length
 ·rw[decide_eq_true (show ((l.length:Nat):Int)=((m.length:Nat):Int) by omega)]
  simp only[Bool.not_true,cond_false]
  have e:iter aC Jb ((l,m,((l.length:Nat):Int),0,()),(),())=_:=yO (fun j=>((l,m,((l.length:Nat):Int),((j:Nat):Int),()),(),())) (fun j=>!decide (rd (.pair (.int .i64) (.pair (.int .i64) (.pair (.int .i64) (.pair (.int .i64) (.int .i64))))) l j=rd (.pair (.int .i64) (.pair (.int .i64) (.pair (.int .i64) (.pair (.int .i64) (.int .i64))))) m j))
   (n:=l.length) (z:=((false,()),(),())) (y:=((),(),())) (fun j hj=>by
    simp only[Jb,SM,dB hj,dx,dB (show j<m.length by omega),nx hj hl,cond_true,Bool.and_self,Int.toNat_natCast,lt_eq])
   (by simp only[Jb,SM,gr,cond_false]) 0 aC (Nat.zero_le _) (by unfold aC;omega)
  rw[e,mb hlen _ (fun j h=>by rw[mC h,mC (by omega)])]
  cases decide (l=m)<;>rfl
 ·rw[decide_eq_false (show ¬ ((l.length:Nat):Int)=((m.length:Nat):Int) by omega),decide_eq_false (fun h=>hlen (by rw[h]))]
  rfl
theorem aaP (l m:List HT)(hl:Sz l):f26 l m=some (decide (l=m),()):=by unfold f26;rw[aaU l m hl];rfl
theorem abh (l m:List LT)(hl:Sz l):f25 l m=some (decide (l=m),()):=by unfold f25;rw[aam l m hl];rfl
theorem Z0 (l m:List HT)(hl:Sz l):f42 l m=some (decide (l=m),()):=by unfold f42;rw[aaM l m hl];rfl
structure Sm (s:ST):Prop where
 p:s.2.2.2.1.length≤1000
 l:s.2.2.2.2.1.length≤1000
 h:s.2.2.2.2.2.length≤1000
theorem Sm.I9 {s:ST}(h:Sm s):Sz s.2.2.2.1:=by have:=h.p;unfold Sz;omega
theorem Sm.En {s:ST}(h:Sm s):Sz s.2.2.2.2.1:=by have:=h.l;unfold Sz;omega
theorem Sm.Kj {s:ST}(h:Sm s):Sz s.2.2.2.2.2:=by have:=h.h;unfold Sz;omega
theorem aaZ (s t:ST)(h:Sm s) :
  f14 s.1.1.1 s.1.1.2 s.1.2.1.1 s.1.2.1.2 s.1.2.2.1 s.1.2.2.2.1 s.1.2.2.2.2.1 s.1.2.2.2.2.2 s.2.1.1 s.2.1.2.1 s.2.1.2.2.1 s.2.1.2.2.2 s.2.2.1 s.2.2.2.1 s.2.2.2.2.1 s.2.2.2.2.2
   t.1.1.1 t.1.1.2 t.1.2.1.1 t.1.2.1.2 t.1.2.2.1 t.1.2.2.2.1 t.1.2.2.2.2.1 t.1.2.2.2.2.2 t.2.1.1 t.2.1.2.1 t.2.1.2.2.1 t.2.1.2.2.2 t.2.2.1 t.2.2.2.1 t.2.2.2.2.1 t.2.2.2.2.2=some (decide (s=t),()):=by
 unfold f14
 rw[aaP _ _ h.I9,abh _ _ h.En,Z0 _ _ h.Kj]
 obtain⟨⟨⟨a,b⟩,⟨c,d⟩,e,f,g,w⟩,⟨q,i,o,p⟩,n,P,L,H⟩:=s
 obtain⟨⟨⟨a',b'⟩,⟨c',d'⟩,e',f',g',w'⟩,⟨q',i',o',p'⟩,n',P',L',H'⟩:=t
 simp only[Option.bind_some]
 by_cases h1:a=a'∧b=b'∧c=c'∧d=d'∧e=e'∧f=f'∧g=g'∧w=w'
 case neg=>
  have:((decide (a=a')&&(decide (b=b')&&true))&&((decide (c=c')&&(decide (d=d')&&true))&&(decide (e=e')&&(decide (f=f')&&(decide (g=g')&&(decide (w=w')&&true))))))=false:=by
   rw[Bool.eq_false_iff]
   intro h
   simp only[Bool.and_eq_true,decide_eq_true_eq,and_true] at h
   exact h1 ⟨h.1.1,h.1.2,h.2.1.1,h.2.1.2,h.2.2.1,h.2.2.2.1,h.2.2.2.2.1,h.2.2.2.2.2⟩
  have hne:¬ ((((a,b),(c,d),e,f,g,w),(q,i,o,p),n,P,L,H):ST)=(((a',b'),(c',d'),e',f',g',w'),(q',i',o',p'),n',P',L',H'):=by
   intro h
   simp only[Prod.mk.injEq] at h
   exact h1 ⟨h.1.1.1,h.1.1.2,h.1.2.1.1,h.1.2.1.2,h.1.2.2.1,h.1.2.2.2.1,h.1.2.2.2.2.1,h.1.2.2.2.2.2⟩
  rw[this,decide_eq_false hne];rfl
 obtain⟨rfl,rfl,rfl,rfl,rfl,rfl,rfl,rfl⟩:=h1
 simp only[decide_true,Bool.and_self,cond_true,Bool.and_true,Bool.true_and]
 by_cases h2:q=q'∧i=i'∧o=o'∧p=p'
 case neg=>
  have:(decide (q=q')&&(decide (i=i')&&(decide (o=o')&&(p == p'))))=false:=by
   rw[Bool.eq_false_iff]
   intro h
   simp only[Bool.and_eq_true,decide_eq_true_eq,beq_iff_eq] at h
   exact h2 ⟨h.1,h.2.1,h.2.2.1,h.2.2.2⟩
  have hne:¬ ((((a,b),(c,d),e,f,g,w),(q,i,o,p),n,P,L,H):ST)=(((a,b),(c,d),e,f,g,w),(q',i',o',p'),n',P',L',H'):=by
   intro h
   simp only[Prod.mk.injEq,true_and] at h
   exact h2 ⟨h.1.1,h.1.2.1,h.1.2.2.1,h.1.2.2.2⟩
  rw[this,decide_eq_false hne];rfl
 obtain⟨rfl,rfl,rfl,rfl⟩:=h2
 simp only[decide_true,Bool.and_self,cond_true,Bool.and_true,Bool.true_and,beq_self_eq_true]
 by_cases h3:n=n'
 case neg=>
  have hne:¬ ((((a,b),(c,d),e,f,g,w),(q,i,o,p),n,P,L,H):ST)=(((a,b),(c,d),e,f,g,w),(q,i,o,p),n',P',L',H'):=fun k=>h3 (congrArg (fun s:ST=>s.2.2.1) k)
  rw[decide_eq_false h3,decide_eq_false hne];rfl
 subst h3
 simp only[decide_true,cond_true]
 by_cases h4:P=P'
 case neg=>
  have hne:¬ ((((a,b),(c,d),e,f,g,w),(q,i,o,p),n,P,L,H):ST)=(((a,b),(c,d),e,f,g,w),(q,i,o,p),n,P',L',H'):=fun k=>h4 (congrArg (fun s:ST=>s.2.2.2.1) k)
  rw[decide_eq_false h4,decide_eq_false hne];rfl
 subst h4
 simp only[decide_true,cond_true]
 by_cases h5:L=L'
 case neg=>
  have hne:¬ ((((a,b),(c,d),e,f,g,w),(q,i,o,p),n,P,L,H):ST)=(((a,b),(c,d),e,f,g,w),(q,i,o,p),n,P,L',H'):=fun k=>h5 (congrArg (fun s:ST=>s.2.2.2.2.1) k)
  rw[decide_eq_false h5,decide_eq_false hne];rfl
 subst h5
 simp only[decide_true,cond_true]
 by_cases h6:H=H'
 case neg=>
  have hne:¬ ((((a,b),(c,d),e,f,g,w),(q,i,o,p),n,P,L,H):ST)=(((a,b),(c,d),e,f,g,w),(q,i,o,p),n,P,L,H'):=fun k=>h6 (congrArg (fun s:ST=>s.2.2.2.2.2) k)
  rw[decide_eq_false h6,decide_eq_false hne]
 subst h6
 simp
theorem jO (s:ST)(h:Sm s) :
  f40 s.1.1.1 s.1.1.2 s.1.2.1.1 s.1.2.1.2 s.1.2.2.1 s.1.2.2.2.1 s.1.2.2.2.2.1 s.1.2.2.2.2.2 s.2.1.1 s.2.1.2.1 s.2.1.2.2.1 s.2.1.2.2.2 s.2.2.1 s.2.2.2.1 s.2.2.2.2.1 s.2.2.2.2.2=some (s,()):=by
 unfold f40
 rw[fCP _ h.p,fCL _ h.l,fCH _ h.h];rfl
theorem R7 (H:List HT)(hH:H.length≤1000)(now:Int):f70 H now=some (bM H now,()):=by
 have hS:Sz H:=by unfold Sz;omega
 unfold f70
 rw[fCH H hH]
 simp only[Option.bind_some]
 have e:iter aC gX (((),(),((H.length:Nat):Int),0,()),((now,()),H,()),())=_:=
  kU H (fun x=>decide (x.2.2≤now)) (fun j=>(((),(),((H.length:Nat):Int),((j:Nat):Int),()),((now,()),H,()),())) (fun j=>((((j:Nat):Int),()),((now,()),H,()),()))
   (y:=((),((now,()),H,()),())) (fun j h=>by
    simp only[gX,mT,dB h,dx,cond_true,Bool.and_self,Int.toNat_natCast,Ko h,decide_eq_true h,nx h hS])
   (by simp only[gX,mT,gr,cond_false]) (fuel:=aC) (by unfold aC;omega)
 rw[e]
 by_cases hlt:H.findIdx (fun x=>decide (x.2.2≤now))<H.length
 ·rw[if_pos hlt]
  simp only[Option.bind_some]
  rw[decide_eq_false (show ¬ ((H.findIdx (fun x=>decide (x.2.2≤now)):Nat):Int) = -1 by omega),nx hlt hS]
  simp only[cond_false]
  obtain⟨k,l',k1,k2,k3,k4⟩:=NO (u:=gY) (fun x:HT=>decide (x.2.2≤now)) (fun i j l=>(((),(),((i:Nat):Int),((j:Nat):Int),()),((now,()),l,()),()))
   (fun i l=>(((),((i:Nat):Int),()),((now,()),l,()),())) H (fun i j l h hi hN=>by
    have hsz:l.length≤9223372036854775807:=by omega
    simp only[gY,oZ,dB h,dx,cond_true,Bool.and_self,Int.toNat_natCast,Ko h,decide_eq_true h,nx h hsz]
    by_cases hd:l[j].2.2≤now
    ·rw[decide_eq_true hd];simp only[Bool.not_true,cond_false,if_true]
    ·rw[decide_eq_false hd,dB (show i<l.length by omega),decide_eq_true (show i<l.length by omega),nx (show i<l.length by omega) hsz];rfl)
   (fun i l h=>by simp only[gY,oZ,gr,cond_false]) (by unfold aC;omega) hlt
  rw[k1]
  simp only[Option.bind_some,Nat.sub_zero,Nat.zero_add,Int.zero_add,Int.toNat_natCast,dx,Bool.true_and]
  have hk:k≤l'.length:=by rw[k2,k4];exact List.length_filter_le _ _
  have hlen:(l'.take k++List.replicate (l'.length-k) ((0,0,0):HT)++l'.drop (k+(l'.length-k))).length=l'.length:=by
   simp only[List.length_append,List.length_take,List.length_replicate,List.length_drop];omega
  rw[dn hk,dn (Nat.le_refl l'.length)]
  simp only[Bool.and_self,cond_true,hlen]
  rw[dn hk]
  simp only[cond_true]
  rw[List.append_assoc,List.take_append_of_le_length (by rw[List.length_take];omega),List.take_take,Nat.min_self,k3]
  rfl
 ·rw[if_neg hlt]
  simp only[Option.bind_some]
  have:bM H now=H:=by
   unfold bM
   rw[List.filter_eq_self]
   intro x hx
   rw[List.findIdx_lt_length] at hlt
   cases hd:decide (x.2.2≤now) with
   | false=>rfl
   | true=>exact absurd ⟨x,hx,hd⟩ hlt
  rw[this]
theorem xN (x y:Int):f149 x y=some (if x<y then -1 else if y<x then 1 else 0,()):=by
 unfold f149 f174
 simp only[decide_true,Bool.not_true,Option.bind_some,cond_false]
 by_cases h1:x<y
 ·simp[h1]
 ·by_cases h2:y<x
  ·simp[h1,h2]
  ·simp[h1,h2]
theorem MX (x y:Int):f148 [x,y]=some (if x=0 then y else x,()):=by
 unfold f148
 by_cases hx:x=0
 ·by_cases hy:y=0
  ·subst hx hy
   have e:iter aC mS ((0,[0,0],(([0,0]:List Int).length:Int),0,()),(),())=some (.inl ((0,()),(),())):=lg (k:=3) (by unfold aC;omega) (by kernel_rfl)
   rw[e];rfl
  ·subst hx
   have e:iter aC mS ((0,[0,y],(([0,y]:List Int).length:Int),0,()),(),())=some (.inr ((y,()),(),())):=
    tw (fun j=>((0,[0,y],(([0,y]:List Int).length:Int),((j:Nat):Int),()),(),())) (n:=1) (fun j hj=>by
     have:j=0:=by omega
     subst this
     simp[mS,Fl,rd,iq]) (by
     simp[mS,Fl,rd,hy]) 0 aC (by omega) (by unfold aC;omega)
   rw[e];rfl
 ·have e:iter aC mS ((0,[x,y],(([x,y]:List Int).length:Int),0,()),(),())=some (.inr ((x,()),(),())):=
    tw (fun j=>((0,[x,y],(([x,y]:List Int).length:Int),((j:Nat):Int),()),(),())) (n:=0) (fun j hj=>by omega) (by
     simp[mS,Fl,rd,hx]) 0 aC (by omega) (by unfold aC;omega)
  rw[e];simp[hx]
theorem N9 (b c:Int×Int):∃ r,f127 b.1 b.2 c.1 c.2=some (r,())∧decide (0<r)=decide (uH c b):=by
 obtain⟨b1,b2⟩:=b
 obtain⟨c1,c2⟩:=c
 unfold f127
 rw[xN,xN]
 simp only[Option.bind_some]
 rw[MX]
 refine⟨_,rfl,?_⟩
 unfold uH wg
 simp only
 rcases Int.lt_trichotomy b1 c1 with h|h|h
 ·rw[if_pos h]
  have h1:¬ c1<b1:=by omega
  have h2:¬ c1=b1:=by omega
  simp[h1,h2]
 ·subst h
  simp only[Int.lt_irrefl,if_false,if_true]
  rcases Int.lt_trichotomy b2 c2 with h|h|h
  ·have:¬ c2<b2:=by omega
   simp[h,this]
  ·subst h;simp
  ·have:¬ b2<c2:=by omega
   simp[h,this]
 ·have h1:¬ b1<c1:=by omega
  have h2:¬ b1=c1:=by omega
  simp[h,h1,h2]
theorem X8 (l:List LT)(hl:Sz l)(a b:Int):f102 l a b=some (((l.findIdx (eu kL (a,b)):Nat):Int),()):=by
 unfold f102
 have e:iter aC gN ((l,(),((l.length:Nat):Int),0,()),((a,b,()),((),()),()),())=_:=
  kU l (eu kL (a,b)) (fun j=>((l,(),((l.length:Nat):Int),((j:Nat):Int),()),((a,b,()),((),()),()),())) (fun j=>((((j:Nat):Int),()),((a,b,()),((),()),()),()))
   (y:=((),((a,b,()),((),()),()),())) (fun j h=>by
    obtain⟨r,h1,h2⟩:=N9 (kL l[j]) (a,b)
    have h1':f127 l[j].2.1 l[j].2.2.1 a b=some (r,()):=h1
    simp only[gN,nR,dB h,dx,cond_true,Bool.and_self,Int.toNat_natCast,Qj h,K6,Option.bind_some,h1',h2,eu,nx h hl])
   (by simp only[gN,nR,gr,cond_false]) (fuel:=aC) (by unfold aC;omega)
 rw[e]
 by_cases hlt:l.findIdx (eu kL (a,b))<l.length
 ·rw[if_pos hlt]
  simp only[Option.bind_some]
  rw[decide_eq_false (by omega)];rfl
 ·rw[if_neg hlt]
  have:l.findIdx (eu kL (a,b))=l.length:=Nat.le_antisymm List.findIdx_le_length (by omega)
  rw[this];rfl
theorem tC (a b c:Int):f129 a b c=some ((a,b),()):=by unfold f129 f122;rfl
theorem Ov (l:List HT)(hl:Sz l)(a b:Int):f131 l a b=some (((l.findIdx (eu kH (a,b)):Nat):Int),()):=by
 unfold f131
 have e:iter aC fT ((l,(),((l.length:Nat):Int),0,()),((a,b,()),((),()),()),())=_:=
  kU l (eu kH (a,b)) (fun j=>((l,(),((l.length:Nat):Int),((j:Nat):Int),()),((a,b,()),((),()),()),())) (fun j=>((((j:Nat):Int),()),((a,b,()),((),()),()),()))
   (y:=((),((a,b,()),((),()),()),())) (fun j h=>by
    obtain⟨r,h1,h2⟩:=N9 (kH l[j]) (a,b)
    have h1':f127 l[j].1 l[j].2.1 a b=some (r,()):=h1
    simp only[fT,lU,dB h,dx,cond_true,Bool.and_self,Int.toNat_natCast,Ko h,tC,Option.bind_some,h1',h2,eu,nx h hl])
   (by simp only[fT,lU,gr,cond_false]) (fuel:=aC) (by unfold aC;omega)
 rw[e]
 by_cases hlt:l.findIdx (eu kH (a,b))<l.length
 ·rw[if_pos hlt]
  simp only[Option.bind_some]
  rw[decide_eq_false (by omega)];rfl
 ·rw[if_neg hlt]
  have:l.findIdx (eu kH (a,b))=l.length:=Nat.le_antisymm List.findIdx_le_length (by omega)
  rw[this];rfl
theorem Jz (l:List LT)(hl:l.length≤1000)(x:LT):j8 l ((l.findIdx (eu kL (kL x)):Nat):Int) [x]=some (fH kL l x):=by
 have hle:l.findIdx (eu kL (kL x))≤l.length:=List.findIdx_le_length
 unfold j8 Qp
 rw[dx,dn hle,Nat.ble_eq_true_of_le (show (List.length l+1) * 40≤140737488355328 by omega)]
 rfl
theorem KN (l:List HT)(hl:l.length≤1000)(x:HT):iV l ((l.findIdx (eu kH (kH x)):Nat):Int) [x]=some (fH kH l x):=by
 have hle:l.findIdx (eu kH (kH x))≤l.length:=List.findIdx_le_length
 unfold iV Qp
 rw[dx,dn hle,Nat.ble_eq_true_of_le (show (List.length l+1) * 24≤140737488355328 by omega)]
 rfl
theorem Ri (l:List LT)(hl:l.length≤1000)(x:LT):f63 l x.1 x.2.1 x.2.2.1 x.2.2.2.1 x.2.2.2.2=some ((kr l x).1,(kr l x).2,()):=by
 have hs:Sz l:=by unfold Sz;omega
 unfold f63 kr
 rw[fCL l hl,rJ l hs]
 simp only[Option.bind_some]
 by_cases hh:cr l x.2.1 x.2.2.1=true
 ·rw[if_pos (.inl hh),decide_eq_false (fun h=>by rw[di] at h;rw[h] at hh;cases hh)];rfl
 ·have hn:cr l x.2.1 x.2.2.1=false:=by simpa using hh
  rw[decide_eq_true ((di _ _ _).2 hn)]
  simp only[Bool.not_true,cond_false]
  by_cases h32:32≤l.length
  ·rw[decide_eq_true (show (32:Int)≤((l.length:Nat):Int) by omega),if_pos (.inr h32)];rfl
  ·rw[decide_eq_false (show ¬ (32:Int)≤((l.length:Nat):Int) by omega),if_neg (by rintro (h|h);exact hh h;exact h32 h)]
   simp only[cond_false,K6,Option.bind_some,X8 l hs]
   have:j8 l ((l.findIdx (eu kL (x.2.1,x.2.2.1)):Nat):Int) [(x.1,x.2.1,x.2.2.1,x.2.2.2.1,x.2.2.2.2)]=some (fH kL l x):=Jz l hl x
   rw[this];rfl
theorem Mq (l:List LT)(hl:l.length≤1000)(a b:Int):f24 l a b=some (if cr l a b=true then (iL l a b,true,()) else (l,false,())):=by
 have hs:Sz l:=by unfold Sz;omega
 unfold f24
 rw[fCL l hl,rJ l hs]
 simp only[Option.bind_some]
 by_cases hh:cr l a b=true
 ·have hne:fO l a b ≠ -1:=fun h=>by rw[di] at h;rw[h] at hh;cases hh
  have hlt:l.findIdx (iw a b)<l.length:=by
   rcases Nat.lt_or_ge (l.findIdx (iw a b)) l.length with h|h
   ·exact h
   ·exact absurd (by unfold fO;rw[if_neg (by omega)]) hne
  have hf:fO l a b=((l.findIdx (iw a b):Nat):Int):=by unfold fO;rw[if_pos hlt]
  rw[if_pos hh,hf]
  unfold iL
  generalize l.findIdx (iw a b)=i at hlt
  rw[decide_eq_false (show ¬ ((i:Int) = -1) by omega),nx hlt hs]
  simp only[cond_false,Nat.zero_add,Nat.sub_zero,Int.toNat_natCast,List.take_length,dx,Int.zero_add,Bool.true_and,List.length_drop,List.drop_zero]
  rw[decide_eq_true (show ((i:Nat):Int)≤((i+1:Nat):Int) by omega),dn (show i+1≤l.length by omega),dn (Nat.le_refl l.length),decide_eq_false (show ¬ ((i:Nat):Int)=((i+1:Nat):Int) by omega),dn (show i≤l.length by omega)]
  simp only[Bool.and_self,cond_true,cond_false]
  rw[decide_eq_true (show i+(l.length-(i+1))≤l.length by omega)]
  have hlen:(l.take i++l.drop (i+1)++l.drop (i+(l.length-(i+1)))).length=l.length:=by
   simp only[List.length_append,List.length_take,List.length_drop];omega
  simp only[cond_true,hlen]
  rw[dn (show i+(l.length-(i+1))≤l.length by omega),dn (Nat.le_refl l.length)]
  simp only[Bool.and_self,cond_true]
  congr 2
  rw[List.eraseIdx_eq_take_drop_succ]
  have hn:(l.take i++l.drop (i+1)).length=i+(l.length-(i+1)):=by
   simp only[List.length_append,List.length_take,List.length_drop];omega
  have e1:(l.take i++l.drop (i+1)++l.drop (i+(l.length-(i+1)))).take (i+(l.length-(i+1)))=l.take i++l.drop (i+1):=List.take_left' hn
  rw[e1,List.append_assoc,List.take_left' hn]
 ·have hn:cr l a b=false:=by simpa using hh
  rw[if_neg hh,decide_eq_true ((di _ _ _).2 hn)]
  rfl
theorem GM (a b c d:Int):(decide (a=c)&&(decide (b=d)&&true))=decide (((a,b):Int×Int)=(c,d)):=by
 simp[Prod.ext_iff]
theorem CQ (H:List HT)(hH:H.length≤900)(x:HT):f103 H x.1 x.2.1 x.2.2=some (fc H x,()):=by
 have hS:Sz H:=by unfold Sz;omega
 unfold f103
 rw[fCH H (by omega)]
 simp only[Option.bind_some]
 have e:iter aC gb (((),(),((H.length:Nat):Int),0,()),((x.1,x.2.1,x.2.2,()),H,()),())=_:=
  kU H (fun y=>decide (kH y=kH x)) (fun j=>(((),(),((H.length:Nat):Int),((j:Nat):Int),()),((x.1,x.2.1,x.2.2,()),H,()),())) (fun j=>((((j:Nat):Int),()),((x.1,x.2.1,x.2.2,()),H,()),()))
   (y:=((),((x.1,x.2.1,x.2.2,()),H,()),())) (fun j h=>by
    simp only[gb,mh,dB h,dx,cond_true,Bool.and_self,Int.toNat_natCast,Ko h,decide_eq_true h,nx h hS,tC,Option.bind_some,GM];rfl)
   (by simp only[gb,mh,gr,cond_false]) (fuel:=aC) (by unfold aC;omega)
 rw[e]
 have hins:∀ (l:List HT),l.length≤1000→iV l ((l.findIdx (eu kH (x.1,x.2.1)):Nat):Int) [(x.1,x.2.1,x.2.2)]=some (fH kH l x):=fun l hl=>KN l hl x
 by_cases hlt:H.findIdx (fun y=>decide (kH y=kH x))<H.length
 ·rw[if_pos hlt]
  simp only[Option.bind_some]
  rw[decide_eq_false (show ¬ ((H.findIdx (fun y=>decide (kH y=kH x)):Nat):Int) = -1 by omega),nx hlt hS]
  simp only[cond_false]
  obtain⟨k,l',k1,k2,k3,k4⟩:=NO (u:=fM) (fun y:HT=>decide (kH y=kH x)) (fun i j l=>(((),(),((i:Nat):Int),((j:Nat):Int),()),((x.1,x.2.1,x.2.2,()),l,()),()))
   (fun i l=>(((),((i:Nat):Int),()),((x.1,x.2.1,x.2.2,()),l,()),())) H (fun i j l h hi hN=>by
    have hsz:l.length≤9223372036854775807:=by omega
    simp only[fM,lC,dB h,dx,cond_true,Bool.and_self,Int.toNat_natCast,Ko h,decide_eq_true h,nx h hsz,tC,Option.bind_some,GM]
    show cond (!decide (kH l[j]=kH x)) _ _=_
    by_cases hd:kH l[j]=kH x
    ·rw[decide_eq_true hd];simp only[Bool.not_true,cond_false,if_true]
    ·rw[decide_eq_false hd,dB (show i<l.length by omega),decide_eq_true (show i<l.length by omega),nx (show i<l.length by omega) hsz];rfl)
   (fun i l h=>by simp only[fM,lC,gr,cond_false]) (by unfold aC;omega) hlt
  rw[k1]
  simp only[Option.bind_some,Nat.sub_zero,Nat.zero_add,Int.zero_add,Int.toNat_natCast,dx,Bool.true_and,tC]
  have hk:k≤l'.length:=by rw[k2,k4];exact List.length_filter_le _ _
  have hlen:(l'.take k++List.replicate (l'.length-k) ((0,0,0):HT)++l'.drop (k+(l'.length-k))).length=l'.length:=by
   simp only[List.length_append,List.length_take,List.length_replicate,List.length_drop];omega
  rw[dn hk,dn (Nat.le_refl l'.length)]
  simp only[Bool.and_self,cond_true,hlen]
  rw[dn hk]
  simp only[cond_true]
  have hfin:(l'.take k++List.replicate (l'.length-k) ((0,0,0):HT)++l'.drop (k+(l'.length-k))).take k=H.filter fun y=>!decide (kH y=kH x):=by
   rw[List.append_assoc,List.take_append_of_le_length (by rw[List.length_take];omega),List.take_take,Nat.min_self,k3]
  have hlf:(H.filter fun y=>!decide (kH y=kH x)).length≤H.length:=List.length_filter_le _ _
  rw[hfin,List.drop_zero,Ov _ (by unfold Sz;omega)]
  simp only[Option.bind_some]
  rw[hins (H.filter fun y=>!decide (kH y=kH x)) (by omega)];rfl
 ·rw[if_neg hlt]
  simp only[Option.bind_some,tC]
  have hfil:(H.filter fun y=>!decide (kH y=kH x))=H:=by
   rw[List.filter_eq_self]
   intro y hy
   rw[List.findIdx_lt_length] at hlt
   cases hd:decide (kH y=kH x) with
   | false=>rfl
   | true=>exact absurd ⟨y,hy,hd⟩ hlt
  rw[Ov _ hS]
  simp only[Option.bind_some]
  rw[hins H (by omega)]
  unfold fc
  rw[hfil];rfl
theorem ZP (a b c d e:Int):f98 a b c d e=some (((b,c),a,b,c,d,e),()):=by unfold f98;rfl
theorem Fe (l:List LT)(hl:l.length≤1000):f75 l=some (ct l,()):=by
 unfold f75
 let acc:Nat→List Int:=fun j=>(l.take j).map (·.2.1)
 have ha:∀ j,j≤l.length→(acc j).length=j:=fun j h=>by simp only[acc,List.length_map,List.length_take];omega
 have e:iter aC HE ((l,((l.length:Nat):Int),0,()),(),[],())=_:=eA (fun j=>((l,((l.length:Nat):Int),((j:Nat):Int),()),(),acc j,())) (n:=l.length) (y:=((),(),acc l.length,())) (fun j hj=>by
   have h1:=ha j (by omega)
   have hacc:acc (j+1)=acc j++[l[j].2.1]:=by
    simp only[acc]
    rw[aW hj,List.map_append];rfl
   simp only[HE,Tm,dB hj,dx,Bool.and_self,cond_true,Int.toNat_natCast,nx hj (show l.length≤9223372036854775807 by omega),hacc,ZP,Option.bind_some,Qj hj]
   rw[decide_eq_true (show ((acc j).length+1) * 8≤140737488355328 by omega),decide_eq_true (show (acc j).length+1≤9223372036854775807 by omega)]
   rfl) (by simp only[HE,Tm,gr,cond_false]) 0 aC (by omega) (by unfold aC;omega)
 have hfin:acc l.length=l.map (·.2.1):=by simp only[acc,List.take_length]
 rw[e]
 simp only[Option.bind_some,hfin]
 have hS:Kb (l.map (·.2.1))=some ((l.map (·.2.1)).mergeSort fun x y=>decide (x≤y)):=by
  unfold Kb
  rw[show mG (List.length (l.map (·.2.1))) 4611686018427387904=true from by rw[List.length_map];exact Nat.ble_eq_true_of_le (by omega)];rfl
 have hlen:((l.map (·.2.1)).mergeSort fun x y=>decide (x≤y)).length=(l.map (·.2.1)).length:=List.length_mergeSort _
 have hC:nB ((l.map (·.2.1)).mergeSort fun x y=>decide (x≤y))=some (ct l):=by
  unfold nB ct
  rw[show mG (List.length ((l.map (·.2.1)).mergeSort fun x y=>decide (x≤y))) 4611686018427387904=true from by rw[hlen,List.length_map];exact Nat.ble_eq_true_of_le (by omega)];rfl
 rw[hS]
 simp only[Option.bind_some,hlen,Nat.beq_refl,Bool.and_self,cond_true,hC]
theorem WD {α β γ:Type}{u:α→Option (R3 α β γ)}(st:Nat→α)(p:Nat→Bool){n:Nat}{y:β}{z:γ}(hs:∀ j,j<n→u (st j)=cond (p j) (some (.ret z)) (some (.next (st (j+1)))))(he:u (st n)=some (.out y))(hn:n<aC) :
  iter aC u (st 0)=some (cond ((List.range n).any p) (.inr z) (.inl y)):=by
 have:=yO st p hs he 0 aC (Nat.zero_le _) (by omega)
 rw[this,Nat.sub_zero,List.range_eq_range']
theorem Ns {l:List HT}{j:Nat}(h:j<l.length):l.getD j (0,0,0)=l[j]:=by
 rw[List.getD_eq_getElem?_getD,List.getElem?_eq_getElem h];rfl
theorem N3 {out:Int}(P:List HT)(hP:bp P out)(v1 v3 v4 v5 v6:Int)(busy:List Int)(but:Int)(p:HT) :
  f157 v1 out v3 v4 v5 v6 busy P but p.1 p.2.1 p.2.2=some (jC P out but p,()):=by
 unfold f157 jC
 rw[SL p out hP.Rt hP.QC]
 simp only[Option.bind_some]
 by_cases hf:ix p out
 case neg=>rw[decide_eq_false hf,if_pos hf];rfl
 rw[decide_eq_true hf,if_neg (fun h=>h hf)]
 simp only[Bool.not_true,cond_false]
 have hl:=hP.len
 have hsz:P.length≤9223372036854775807:=by omega
 have e:=WD (u:=u9) (fun j=>((P,but,(),P,((P.length:Nat):Int),((j:Nat):Int),()),((p.1,p.2.1,p.2.2,()),()),()))
  (fun j=>!decide ((j:Int)=but)&&dY p (P.getD j (0,0,0))) (n:=P.length) (y:=((P,but,()),(),())) (z:=((11,()),(),()))
  (fun j hj=>by
   simp only[u9,Ku,dB hj,dx,cond_true,Bool.and_self,Int.toNat_natCast,Ko hj,nx hj hsz,Tx hf (hP.fits _ (List.getElem_mem hj)) hP.QC,Option.bind_some,Ns hj]
   by_cases hb:(j:Int)=but
   ·rw[decide_eq_true hb];rfl
   ·rw[decide_eq_false hb]
    cases dY p P[j]<;>rfl)
  (by simp only[u9,Ku,gr,cond_false]) (by unfold aC;omega)
 have e':iter aC u9 ((P,but,(),P,((P.length:Nat):Int),0,()),((p.1,p.2.1,p.2.2,()),()),())=_:=e
 rw[e']
 cases ha:(List.range P.length).any (fun j=>!decide ((j:Int)=but)&&dY p (P.getD j (0,0,0))) with
 | true=>rfl
 | false=>
  simp only[cond_false,Option.bind_some,Bool.false_eq_true,if_false]
  by_cases hb:but = -1
  ·by_cases h3:P.length=3
   ·rw[decide_eq_true hb,decide_eq_true (show ((P.length:Nat):Int)=3 by omega),if_pos ⟨hb,h3⟩];rfl
   ·rw[decide_eq_true hb,decide_eq_false (show ¬ ((P.length:Nat):Int)=3 by omega),if_neg (fun h=>h3 h.2)];rfl
  ·rw[decide_eq_false hb,if_neg (fun h=>hb h.1)];rfl
section
variable {out:Int}{P:List HT}
theorem UY (hS:P.length≤1000)(a n:Int):f72 P out a n=some ((qm P out a n).1,(qm P out a n).2,()):=by
 unfold f72 f115 f139 qm
 rw[fCP P hS]
 simp only[Option.bind_some,yb,decide_true,Bool.not_true,cond_false,cond_true]
 by_cases hP:bp P out
 case neg=>
  rw[decide_eq_false hP,if_pos hP];rfl
 rw[decide_eq_true hP,if_neg (fun h=>h hP)]
 have h158:=N3 P hP 0 0 a n 0 [] (-1) (a,n,0)
 simp only[Bool.not_true,cond_false]
 simp only at h158
 simp only[h158,Option.bind_some]
 by_cases he:jC P out (-1) (a,n,0)=0
 ·rw[if_neg (fun h=>h he),decide_eq_true he,decide_eq_true (show (P.length+1) * 24≤140737488355328 by omega),decide_eq_true (show P.length+1≤9223372036854775807 by omega)]
  rfl
 ·rw[if_pos he,decide_eq_false he];rfl
theorem tj {k:Int}(h0:0≤k)(h1:k<(P.length:Int)):rd (.pair (.int .i64) (.pair (.int .i64) (.int .i64))) P (Int.toNat k)=ck P k:=by
 have hk:k.toNat<P.length:=by omega
 rw[Ko hk]
 exact (Ns hk).symm
theorem TV (hS:P.length≤1000)(k:Int):f73 P out k=some ((dZ P out k).1,(dZ P out k).2,()):=by
 unfold f73 f115 f139 dZ
 rw[fCP P hS]
 simp only[Option.bind_some,yb]
 by_cases hP:bp P out
 case neg=>rw[decide_eq_false hP,if_pos hP];rfl
 rw[decide_eq_true hP,if_neg (fun h=>h hP)]
 by_cases h0:k<0
 ·rw[decide_eq_true h0,if_pos (.inl h0)];rfl
 by_cases h1:(P.length:Int)≤k
 ·rw[decide_eq_false h0,decide_eq_true h1,if_pos (.inr h1)];rfl
 rw[decide_eq_false h0,decide_eq_false h1,if_neg (by rintro (h|h);exact h0 h;exact h1 h)]
 rw[tj (P:=P) (k:=k) (by omega) (by omega),decide_eq_true (show (0:Int)≤k by omega),decide_eq_true (show k<((P.length:Nat):Int) by omega)]
 by_cases h2:(ck P k).2.2=1
 ·rw[decide_eq_true h2,if_pos h2];rfl
 ·rw[decide_eq_false h2,if_neg h2]
  have hk:k.toNat<P.length:=by omega
  simp only[decide_eq_true hk]
  rfl
theorem abO (hP:bp P out){k:Int}(h0:0≤k)(h1:k<(P.length:Int))(busy:List Int)(hb:Sz busy)(v1 n:Int)(q:HT) :
  iter aC dO ((busy,(),((busy.length:Nat):Int),0,()),((v1,out,k,0,n,0,busy,()),(P,()),(q.1,q.2.1,q.2.2,()),(q.1,q.2.1,q.2.2,()),()),()) =
  some (if busy.findIdx (fun at'=>hasB (ck P k) at' && !hasB q at')<busy.length then .inr ((((busy.findIdx (fun at'=>hasB (ck P k) at' && !hasB q at'):Nat):Int),()),((v1,out,k,0,n,0,busy,()),(P,()),(q.1,q.2.1,q.2.2,()),(q.1,q.2.1,q.2.2,()),()),())
   else .inl ((),((v1,out,k,0,n,0,busy,()),(P,()),(q.1,q.2.1,q.2.2,()),(q.1,q.2.1,q.2.2,()),()),())):=
 kU busy (fun at'=>hasB (ck P k) at' && !hasB q at') (fun j=>((busy,(),((busy.length:Nat):Int),((j:Nat):Int),()),((v1,out,k,0,n,0,busy,()),(P,()),(q.1,q.2.1,q.2.2,()),(q.1,q.2.1,q.2.2,()),()),()))
  (fun j=>((((j:Nat):Int),()),((v1,out,k,0,n,0,busy,()),(P,()),(q.1,q.2.1,q.2.2,()),(q.1,q.2.1,q.2.2,()),()),()))
  (y:=((),((v1,out,k,0,n,0,busy,()),(P,()),(q.1,q.2.1,q.2.2,()),(q.1,q.2.1,q.2.2,()),()),()))
  (fun j h=>by
   have e1:hasB ((ck P k).1,(ck P k).2.1,(ck P k).2.2) busy[j]=hasB (ck P k) busy[j]:=rfl
   have e2:hasB (q.1,q.2.1,q.2.2) busy[j]=hasB q busy[j]:=rfl
   simp only[dO,mc,dB h,dx,cond_true,Bool.and_self,Int.toNat_natCast,rdI h,nx h hb,decide_eq_true h0,decide_eq_true h1,tj h0 h1,KM,Option.bind_some,e1,e2]
   cases hasB (ck P k) busy[j]<;>cases hasB q busy[j]<;>rfl)
  (by simp only[dO,mc,gr,cond_false]) (fuel:=aC) (by unfold aC;unfold Sz at hb;omega)
theorem aci (hP:bp P out){k:Int}(h0:0≤k)(h1:k<(P.length:Int))(busy:List Int)(hb:Sz busy)(v1:Int) :
  iter aC dV ((busy,(),((busy.length:Nat):Int),0,()),((v1,out,k,0,0,0,busy,()),(P,()),(0,0,0,()),()),()) =
  some (if busy.findIdx (fun at'=>hasB (ck P k) at' && !hasB (0,0,0) at')<busy.length then .inr ((((busy.findIdx (fun at'=>hasB (ck P k) at' && !hasB (0,0,0) at'):Nat):Int),()),((v1,out,k,0,0,0,busy,()),(P,()),(0,0,0,()),()),())
   else .inl ((),((v1,out,k,0,0,0,busy,()),(P,()),(0,0,0,()),()),())):=
 kU busy (fun at'=>hasB (ck P k) at' && !hasB (0,0,0) at') (fun j=>((busy,(),((busy.length:Nat):Int),((j:Nat):Int),()),((v1,out,k,0,0,0,busy,()),(P,()),(0,0,0,()),()),()))
  (fun j=>((((j:Nat):Int),()),((v1,out,k,0,0,0,busy,()),(P,()),(0,0,0,()),()),()))
  (y:=((),((v1,out,k,0,0,0,busy,()),(P,()),(0,0,0,()),()),()))
  (fun j h=>by
   have e1:hasB ((ck P k).1,(ck P k).2.1,(ck P k).2.2) busy[j]=hasB (ck P k) busy[j]:=rfl
   simp only[dV,lm,dB h,dx,cond_true,Bool.and_self,Int.toNat_natCast,rdI h,nx h hb,decide_eq_true h0,decide_eq_true h1,tj h0 h1,KM,Option.bind_some,e1]
   cases hasB (ck P k) busy[j]<;>cases hasB (0,0,0) busy[j]<;>rfl)
  (by simp only[dV,lm,gr,cond_false]) (fuel:=aC) (by unfold aC;unfold Sz at hb;omega)
theorem xI {α:Type}(l:List α)(q:α→Bool):l.findIdx q<l.length↔l.any q=true:=by
 rw[List.findIdx_lt_length,List.any_eq_true]
theorem RE (hS:P.length≤1000)(k n:Int)(busy:List Int)(hb:Sz busy):f74 P out k n busy=some ((gM P out k n busy).1,(gM P out k n busy).2,()):=by
 unfold f74 f115 f139 gM
 rw[fCP P hS]
 simp only[Option.bind_some,yb]
 by_cases hP:bp P out
 case neg=>rw[decide_eq_false hP,if_pos hP];rfl
 rw[decide_eq_true hP,if_neg (fun h=>h hP)]
 by_cases h0:k<0
 ·rw[decide_eq_true h0,if_pos (.inl h0)];rfl
 by_cases h1:(P.length:Int)≤k
 ·rw[decide_eq_false h0,decide_eq_true h1,if_pos (.inr h1)];rfl
 rw[decide_eq_false h0,decide_eq_false h1,if_neg (by rintro (h|h);exact h0 h;exact h1 h)]
 have g0:(0:Int)≤k:=by omega
 have g1:k<((P.length:Nat):Int):=by omega
 rw[tj (P:=P) (k:=k) g0 g1,decide_eq_true g0,decide_eq_true g1]
 have h158:=N3 P hP 2 k 0 n 0 busy k ((ck P k).1,n,(ck P k).2.2)
 simp only at h158
 have d1:decide ((2:Int)=0)=false:=rfl
 have d2:decide ((2:Int)=1)=false:=rfl
 have d3:decide ((2:Int)=2)=true:=rfl
 simp only[d1,d2,decide_true,Bool.not_false,Bool.not_true,cond_true,cond_false,Bool.and_self,h158,Option.bind_some]
 by_cases he:jC P out k ((ck P k).1,n,(ck P k).2.2)=0
 case neg=>rw[if_pos he,decide_eq_false he];simp only[Bool.not_false,cond_true,Option.bind_some,decide_eq_false he]
 rw[if_neg (fun h=>h he),decide_eq_true he,abO hP g0 g1 busy hb 2 n ((ck P k).1,n,(ck P k).2.2)]
 unfold ym
 simp only[Bool.not_true,cond_false]
 by_cases hl:busy.any (fun at'=>hasB (ck P k) at' && !hasB ((ck P k).1,n,(ck P k).2.2) at')=true
 ·rw[if_pos ((xI busy _).2 hl),if_pos hl]
  simp only[Option.bind_some,dx,cond_true]
  rfl
 ·rw[if_neg (fun h=>hl ((xI busy _).1 h)),if_neg hl]
  have hk:k.toNat<P.length:=by omega
  simp only[Option.bind_some,decide_true,Bool.not_true,cond_false,decide_eq_true hk,cond_true]
theorem SY (hS:P.length≤1000)(k:Int)(busy:List Int)(hb:Sz busy):f76 P out k busy=some ((ic P out k busy).1,(ic P out k busy).2,()):=by
 unfold f76 f115 f139 ic
 rw[fCP P hS]
 simp only[Option.bind_some,yb]
 by_cases hP:bp P out
 case neg=>rw[decide_eq_false hP,if_pos hP];rfl
 rw[decide_eq_true hP,if_neg (fun h=>h hP)]
 by_cases h0:k<0
 ·rw[decide_eq_true h0,if_pos (.inl h0)];rfl
 by_cases h1:(P.length:Int)≤k
 ·rw[decide_eq_false h0,decide_eq_true h1,if_pos (.inr h1)];rfl
 rw[decide_eq_false h0,decide_eq_false h1,if_neg (by rintro (h|h);exact h0 h;exact h1 h)]
 have g0:(0:Int)≤k:=by omega
 have g1:k<((P.length:Nat):Int):=by omega
 rw[tj (P:=P) (k:=k) g0 g1,decide_eq_true g0,decide_eq_true g1]
 have d1:decide ((3:Int)=0)=false:=rfl
 have d2:decide ((3:Int)=1)=false:=rfl
 have d3:decide ((3:Int)=2)=false:=rfl
 have d4:decide ((3:Int)=3)=true:=rfl
 simp only[d1,d2,d3,decide_true,Bool.not_false,Bool.not_true,cond_true,cond_false,Bool.and_self,Option.bind_some]
 by_cases he:(ck P k).2.2=0
 ·rw[if_pos (.inl he),decide_eq_true he];rfl
 rw[decide_eq_false he,aci hP g0 g1 busy hb 3]
 unfold ym
 simp only[cond_false]
 by_cases hl:busy.any (fun at'=>hasB (ck P k) at' && !hasB (0,0,0) at')=true
 ·rw[if_pos ((xI busy _).2 hl),if_pos (.inr hl)]
  simp only[Option.bind_some,dx,cond_true]
  rfl
 rw[if_neg (fun h=>hl ((xI busy _).1 h)),if_neg (by rintro (h|h);exact he h;exact hl h)]
 have hk:k.toNat<P.length:=by omega
 obtain⟨i,rfl⟩:∃ i:Nat,k=(i:Int):=⟨k.toNat,by omega⟩
 have hlt:i<P.length:=by omega
 simp only[Option.bind_some,decide_true,Bool.not_true,cond_false]
 rw[nx hlt (by omega)]
 simp only[cond_false,Nat.zero_add,Nat.sub_zero,Int.toNat_natCast,List.take_length,dx,Int.zero_add,Bool.true_and,List.length_drop,List.drop_zero]
 rw[decide_eq_true (show ((i:Nat):Int)≤((i+1:Nat):Int) by omega),dn (show i+1≤P.length by omega),dn (Nat.le_refl P.length),decide_eq_false (show ¬ ((i:Nat):Int)=((i+1:Nat):Int) by omega),dn (show i≤P.length by omega)]
 simp only[Bool.and_self,cond_true,cond_false]
 rw[decide_eq_true (show i+(P.length-(i+1))≤P.length by omega)]
 have hlen:(P.take i++P.drop (i+1)++P.drop (i+(P.length-(i+1)))).length=P.length:=by
  simp only[List.length_append,List.length_take,List.length_drop];omega
 simp only[cond_true,hlen]
 rw[dn (show i+(P.length-(i+1))≤P.length by omega),dn (Nat.le_refl P.length)]
 simp only[Bool.and_self,cond_true,Option.bind_some]
 congr 2
 rw[List.eraseIdx_eq_take_drop_succ]
 have hn:(P.take i++P.drop (i+1)).length=i+(P.length-(i+1)):=by
  simp only[List.length_append,List.length_take,List.length_drop];omega
 have e1:(P.take i++P.drop (i+1)++P.drop (i+(P.length-(i+1)))).take (i+(P.length-(i+1)))=P.take i++P.drop (i+1):=List.take_left' hn
 rw[e1,List.append_assoc,List.take_left' hn]
end
end Go.Proofs.Zz
