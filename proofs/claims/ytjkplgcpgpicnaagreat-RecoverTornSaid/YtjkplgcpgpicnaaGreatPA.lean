/- P17a, P17b, P17c, P17d, P17e, P17f, P17g, P17h, P17i, P17j. -/
import Derived.Test.YtjkplgcpgpicnaaGreatPU
import Derived.Test.YtjkplgcpgpicnaaGreatFI
import Derived.KernelRfl
namespace Go.Proofs.Zz
open Go Go.Sy
set_option linter.unusedSimpArgs false
set_option linter.unusedVariables false
theorem tH (b k:Int):f114 b k=some (decide (kT b k),()):=by
 unfold f114
 by_cases h1:0≤k
 case neg=>simp[h1,kT]
 by_cases h2:k≤32
 case neg=>simp[h1,h2,kT]
 by_cases h3:0≤b
 case neg=>simp[h1,h2,h3,kT]
 by_cases h4:b<4294967296
 case neg=>simp[h1,h2,h3,h4,kT]
 have w:IntKind.wrap .i64 (32-k)=32-k:=bN (by omega) (by omega)
 have hneg:decide (IntKind.wrap .i64 (32-k)<0)=false:=by rw[w];simp;omega
 have hs:=EQ h1
 have hp:=tg k
 rw[LW h1 h2,hneg,bN (show -9223372036854775808≤rS k-1 by omega) (by omega)]
 obtain⟨n,rfl⟩:∃ n:Nat,b=n:=⟨b.toNat,by omega⟩
 have e:aG .and .i64 (n:Int) (rS k-1)=(n:Int) % rS k:=by
  unfold rS
  rw[jD (by omega) (by omega)];rfl
 simp only[h1,h2,h3,h4,e,decide_true,cond_true,Bool.not_false,kT,true_and]
theorem iN (b k:Int):f62 b k=some (b7 b k,()):=by
 unfold f62
 rw[tH]
 unfold b7
 by_cases h:kT b k
 ·have w:IntKind.wrap .i64 (32-k)=32-k:=bN (by have:=h.1;have:=h.2.1;omega) (by have:=h.1;have:=h.2.1;omega)
  have hneg:decide (IntKind.wrap .i64 (32-k)<0)=false:=by rw[w];have:=h.2.1;simp;omega
  simp only[Option.bind_some,h,decide_true,Bool.not_true,cond_false,hneg,Bool.not_false,cond_true,if_true,LW h.1 h.2.1]
 ·simp[h]
theorem G3 (b k a:Int):f115 b k a=some (rK b k a,()):=by
 unfold f115
 rw[tH]
 unfold rK
 by_cases hm:kT b k
 case neg=>simp[hm]
 by_cases h1:a<0
 ·have h:¬ (b≤a):=by have:=hm.2.2.1;omega
  simp[hm,h1,h]
 by_cases h2:4294967296≤a
 ·have h:¬ (a<b+rS k):=by have:=NK hm;omega
  simp[hm,h1,h2,h]
 have w:IntKind.wrap .i64 (32-k)=32-k:=bN (by have:=hm.1;have:=hm.2.1;omega) (by have:=hm.1;have:=hm.2.1;omega)
 have hneg:decide (IntKind.wrap .i64 (32-k)<0)=false:=by rw[w];have:=hm.2.1;simp;omega
 have hmin:min (Int.toNat (IntKind.wrap .i64 (32-k))) 64=(32-k).toNat:=by rw[w,Nat.min_eq_left];have:=hm.1;omega
 obtain⟨n,rfl⟩:∃ n:Nat,b=n:=⟨b.toNat,by have:=hm.2.2.1;omega⟩
 obtain⟨j,rfl⟩:∃ j:Nat,a=j:=⟨a.toNat,by omega⟩
 have hb:=hm.2.2.2.1
 have hn:n % 2 ^ (32-k).toNat=0:=by
  have:=hm.2.2.2.2
  unfold rS at this
  have h:(n:Int) % ((2 ^ (32-k).toNat:Nat):Int)=((n % 2 ^ (32-k).toNat:Nat):Int):=rfl
  rw[h] at this
  omega
 have e:decide (Int.fdiv (aG .xor .i64 (j:Int) (n:Int)) ((2:Int) ^ ((min (Int.toNat (IntKind.wrap .i64 (32-k))) 64):Nat))=0)=decide ((n:Int)≤j∧(j:Int)<n+rS k):=by
  rw[hmin,Tm (by omega) (by omega),fdiv_pow]
  have h1:(j ^^^ n) / 2 ^ (32-k).toNat=(j / 2 ^ (32-k).toNat) ^^^ (n / 2 ^ (32-k).toNat):=by
   rw[← Nat.shiftRight_eq_div_pow,← Nat.shiftRight_eq_div_pow,← Nat.shiftRight_eq_div_pow,Nat.shiftRight_xor_distrib]
  have h2:(j ^^^ n) / 2 ^ (32-k).toNat=0↔j / 2 ^ (32-k).toNat=n / 2 ^ (32-k).toNat:=by
   rw[h1];exact xor_zero _ _
  have h3:=KW (a:=j) (Nat.two_pow_pos (32-k).toNat) hn
  unfold rS
  rw[decide_eq_decide]
  constructor
  ·intro h
   have:=h3.1 (h2.1 (by omega))
   omega
  ·intro h
   have:=h2.2 (h3.2 (by omega))
   omega
 rw[e]
 simp only[hm,h1,h2,hneg,decide_true,decide_false,Option.bind_some,Bool.not_true,Bool.not_false,cond_false,cond_true,true_and]
 by_cases hin:(n:Int)≤j∧(j:Int)<n+rS k
 ·rw[decide_eq_true hin,if_pos hin,bN (by omega) (by omega)];rfl
 ·rw[decide_eq_false hin,if_neg hin];rfl
theorem Vo (b k b' k':Int):f64 b k b' k'=some (decide (xm b k b' k'),()):=by
 unfold f64
 rw[tH,tH,G3,G3]
 unfold xm
 by_cases h1:kT b k
 case neg=>simp[h1]
 by_cases h2:kT b' k'
 case neg=>simp[h1,h2]
 have e1:=Ce b k b'
 have e2:=Ce b' k' b
 simp only[h1,h2,true_and] at e1 e2
 by_cases h3:rK b k b' = -1
 ·have:¬ (b≤b'∧b'<b+rS k):=fun h=>e1.2 h h3
  by_cases h4:rK b' k' b = -1
  ·have h5:¬ (b'≤b∧b<b'+rS k'):=fun h=>e2.2 h h4
   simp[h1,h2,h3,h4,this,h5]
  ·have h5:=e2.1 h4
   simp[h1,h2,h3,h4,this,h5]
 ·have:=e1.1 h3
  simp[h1,h2,h3,this]
theorem Um (a b c:Int):f60 a b c=some (decide (b≤a)&&decide (a≤c),()):=by
 unfold f60
 cases decide (b≤a)<;>rfl
theorem EY (a b c:Int):f31 a b c=some (decide (b≤a)&&decide (a≤c),()):=by
 unfold f31
 cases decide (b≤a)<;>rfl
theorem yV {a b c d e f g h:Int}(hx:1≤b7 a b)(hy:1≤b7 c d):f69 a b c d e f g h=some (JI (b7 a b) (b7 c d),()):=by
 unfold f69 sS
 rw[iN,iN]
 simp only[Option.bind_some]
 have hx2:=(lz a b).2
 generalize b7 a b=x at hx hx2 ⊢
 generalize b7 c d=y at hy ⊢
 have:(cond (decide (y<x)) y x)≠0:=by
  by_cases h:y<x
  ·rw[decide_eq_true h];show y≠0;omega
  ·rw[decide_eq_false h];show x≠0;omega
 rw[decide_eq_false this,decide_eq_false (show ¬ y=0 by omega)]
 simp only[Bool.not_false,cond_true,cond_false]
 have e1:IntKind.wrap .i64 (x-1)=x-1:=bN (by omega) (by omega)
 have h1:0≤(x-1) / y:=Int.ediv_nonneg (by omega) (by omega)
 have h2:(x-1) / y≤x-1:=Int.ediv_le_self _ (by omega)
 have e2:Int.tdiv (x-1) y=(x-1) / y:=Int.tdiv_eq_ediv_of_nonneg (by omega)
 rw[e1,e2,bN (x:=(x-1) / y) (by omega) (by omega),bN (x:=(x-1) / y+1) (by omega) (by omega)]
 rfl
theorem MA (a b c d e f g h:Int):∃ r,f69 a b c d e f g h=some (r,()):=by
 unfold f69 sS
 rw[iN,iN]
 simp only[Option.bind_some]
 have h1:=(lz a b).1
 have h2:=(lz c d).1
 generalize b7 a b=x at h1 ⊢
 generalize b7 c d=y at h2 ⊢
 by_cases hy:y=0
 ·subst hy
  have:(cond (decide ((0:Int)<x)) 0 x)=0:=by
   by_cases hx:(0:Int)<x
   ·rw[decide_eq_true hx];rfl
   ·rw[decide_eq_false hx];show x=0;omega
  rw[decide_eq_true this]
  exact⟨_,rfl⟩
 ·rw[decide_eq_false hy]
  cases decide ((cond (decide (y<x)) y x)=0)<;>exact⟨_,rfl⟩
theorem M7 {e f g:Int}(h1:1≤e)(h2:e≤f)(h3:f≤65535)(h4:0≤g)(h5:g≤f-e)(a b c d h:Int):f68 a b c d e f g h=some (f-e+1-g,()):=by
 unfold f68
 rw[bN (x:=f-e) (by omega) (by omega),bN (x:=f-e+1) (by omega) (by omega),bN (by omega) (by omega)]
theorem Vj (a b c d e f g h:Int):∃ r,f29 a b c d e f g h=some (r,())∧(r=true↔ij ((a,b),(c,d),e,f,g,h)):=by
 obtain⟨q,hq⟩:=MA a b c d e f g h
 unfold f29
 rw[iN,iN]
 simp only[Option.bind_some,Um,Vo,hq]
 by_cases c1:1≤b7 a b∧b7 a b≤32
 case neg=>
  have:(decide (1≤b7 a b)&&decide (b7 a b≤32))=false:=by rw[Bool.and_eq_false_iff,decide_eq_false_iff_not,decide_eq_false_iff_not];omega
  rw[this]
  exact⟨_,rfl,by simp,fun F=>absurd ⟨F.x1,F.x2⟩ c1⟩
 rw[decide_eq_true c1.1,decide_eq_true c1.2]
 by_cases c2:1≤b7 c d∧b7 c d≤4
 case neg=>
  have:(decide (1≤b7 c d)&&decide (b7 c d≤4))=false:=by rw[Bool.and_eq_false_iff,decide_eq_false_iff_not,decide_eq_false_iff_not];omega
  rw[this]
  exact⟨_,rfl,by simp,fun F=>absurd ⟨F.y1,F.y2⟩ c2⟩
 rw[decide_eq_true c2.1,decide_eq_true c2.2]
 simp only[Bool.and_self,cond_true,Bool.not_true,cond_false,Bool.not_not]
 by_cases cm:xm a b c d
 ·rw[decide_eq_true cm]
  exact⟨_,rfl,by simp,fun F=>absurd cm F.meet⟩
 rw[decide_eq_false cm]
 simp only[cond_false]
 by_cases c3:1≤e∧e≤f
 case neg=>
  have:(decide (1≤e)&&decide (e≤f))=false:=by rw[Bool.and_eq_false_iff,decide_eq_false_iff_not,decide_eq_false_iff_not];omega
  rw[this]
  exact⟨_,rfl,by simp,fun F=>absurd ⟨F.Y3,F.lo2⟩ c3⟩
 rw[decide_eq_true c3.1,decide_eq_true c3.2]
 simp only[Bool.and_self,cond_true]
 by_cases c4:f≤65535
 case neg=>
  rw[decide_eq_false c4]
  exact⟨_,rfl,by simp,fun F=>absurd F.hi c4⟩
 rw[decide_eq_true c4,bN (x:=f-e) (by omega) (by omega)]
 simp only[Bool.not_true,cond_false]
 by_cases c6:0≤g∧g≤f-e
 case neg=>
  have:(decide (0≤g)&&decide (g≤f-e))=false:=by rw[Bool.and_eq_false_iff,decide_eq_false_iff_not,decide_eq_false_iff_not];omega
  rw[this]
  exact⟨_,rfl,by simp,fun F=>absurd ⟨F.g1,F.g2⟩ c6⟩
 rw[decide_eq_true c6.1,decide_eq_true c6.2]
 simp only[Bool.and_self,cond_true]
 by_cases c7:1≤h∧h≤65535
 case neg=>
  have:(decide (1≤h)&&decide (h≤65535))=false:=by rw[Bool.and_eq_false_iff,decide_eq_false_iff_not,decide_eq_false_iff_not];omega
  rw[this]
  exact⟨_,rfl,by simp,fun F=>absurd ⟨F.h1,F.h2⟩ c7⟩
 rw[decide_eq_true c7.1,decide_eq_true c7.2,decide_eq_false (show ¬ h=0 by omega)]
 simp only[Bool.and_self,cond_true,Bool.not_false]
 have e2:Int.tdiv g h=g / h:=Int.tdiv_eq_ediv_of_nonneg c6.1
 have p1:0≤g / h:=Int.ediv_nonneg c6.1 (by omega)
 have p2:g / h≤g:=Int.ediv_le_self _ c6.1
 rw[e2,bN (by omega) (by omega)]
 by_cases c8:g / h≤8
 case neg=>
  rw[decide_eq_false c8]
  exact⟨_,rfl,by simp,fun F=>absurd F.blk c8⟩
 rw[decide_eq_true c8,M7 c3.1 c3.2 c4 c6.1 c6.2]
 simp only[Bool.not_true,cond_false,Option.bind_some]
 rw[yV c1.1 c2.1,Option.some.injEq,Prod.mk.injEq] at hq
 obtain⟨hq,_⟩:=hq
 by_cases c9:q≤f-e+1-g
 ·rw[decide_eq_true c9]
  exact⟨_,rfl,fun _=>⟨c1.1,c1.2,c2.1,c2.2,cm,c3.1,c3.2,c4,c6.1,c6.2,c7.1,c7.2,c8,by rw[← hq] at c9;exact c9⟩,fun _=>rfl⟩
 ·rw[decide_eq_false c9]
  exact⟨_,rfl,by simp,fun F=>absurd (by have:=F.sh;rw[← hq];exact this) c9⟩
theorem zR (D:DT):f29 D.1.1 D.1.2 D.2.1.1 D.2.1.2 D.2.2.1 D.2.2.2.1 D.2.2.2.2.1 D.2.2.2.2.2=some (decide (ij D),()):=by
 obtain⟨r,h1,h2⟩:=Vj D.1.1 D.1.2 D.2.1.1 D.2.1.2 D.2.2.1 D.2.2.2.1 D.2.2.2.2.1 D.2.2.2.2.2
 rw[h1]
 have:r=decide (ij D):=by
  by_cases hf:ij D
  ·rw[decide_eq_true hf];exact h2.2 hf
  ·rw[decide_eq_false hf]
   cases r with
   | false=>rfl
   | true=>exact absurd (h2.1 rfl) hf
 rw[this]
section
variable {D:DT}
theorem Me (F:ij D):f118 D.1.1 D.1.2 D.2.1.1 D.2.1.2 D.2.2.1 D.2.2.2.1 D.2.2.2.2.1 D.2.2.2.2.2=some (each D,()):=by
 have hr:=F.PG
 have he:=F.LR
 unfold f118
 rw[zR,decide_eq_true F,M7 F.Y3 F.lo2 F.hi F.g1 F.g2,yV F.x1 F.y1]
 simp only[Option.bind_some,Bool.not_true,cond_false]
 have er:JI (b7 D.1.1 D.1.2) (b7 D.2.1.1 D.2.1.2)=oq D:=rfl
 rw[er,decide_eq_false (show ¬ oq D=0 by omega)]
 simp only[Bool.not_false,cond_true]
 have hs:0≤Bl D-Fj D+1-jj D:=by have:=F.g2;omega
 have p2:(Bl D-Fj D+1-jj D) / oq D≤Bl D-Fj D+1-jj D:=Int.ediv_le_self _ hs
 have e2:Int.tdiv (Bl D-Fj D+1-jj D) (oq D)=each D:=Int.tdiv_eq_ediv_of_nonneg hs
 unfold each at he e2 ⊢
 rw[e2,bN (by omega) (by have:=F.hi;have:=F.Y3;have:=F.g1;omega)]
theorem VW (sub:Int):f76 D.1.1 D.1.2 D.2.1.1 D.2.1.2 D.2.2.1 D.2.2.2.1 D.2.2.2.2.1 D.2.2.2.2.2 sub=some (if Ab D sub then KK D sub else (0,0,0),decide (Ab D sub),()):=by
 unfold f76
 rw[zR]
 simp only[Option.bind_some]
 by_cases F:ij D
 case neg=>
  have:¬ Ab D sub:=fun h=>F h.1
  rw[decide_eq_false F,decide_eq_false this,if_neg this];rfl
 rw[decide_eq_true F]
 simp only[Bool.not_true,cond_false]
 by_cases h0:sub<0
 ·have:¬ Ab D sub:=fun h=>by have:=h.2.1;omega
  rw[decide_eq_true h0,decide_eq_false this,if_neg this];rfl
 rw[decide_eq_false h0,iN]
 simp only[cond_false,Option.bind_some]
 have ex:b7 D.1.1 D.1.2=J4 D:=rfl
 by_cases h1:J4 D≤sub
 ·have:¬ Ab D sub:=fun h=>by have:=h.2.2;omega
  rw[ex,decide_eq_true h1,decide_eq_false this,if_neg this];rfl
 have hS:Ab D sub:=⟨F,by omega,by omega⟩
 rw[ex,decide_eq_false h1,yV F.x1 F.y1,Me F,decide_eq_true hS,if_pos hS]
 simp only[cond_false,Option.bind_some]
 have er:JI (b7 D.1.1 D.1.2) (b7 D.2.1.1 D.2.1.2)=oq D:=rfl
 rw[er]
 have hr:=F.PG
 have he:=F.LR
 obtain⟨q1,q2,q3,q4,q5⟩:=F.base (sub:=sub) (by omega) (by omega)
 rw[decide_eq_false (show ¬ oq D=0 by omega)]
 simp only[Bool.not_false,cond_true]
 have t1:Int.tdiv sub (oq D)=sub / oq D:=Int.tdiv_eq_ediv_of_nonneg (by omega)
 have t2:Int.tmod sub (oq D)=sub % oq D:=Int.tmod_eq_emod_of_nonneg (by omega)
 have hy2:=F.y2
 have hhi:=F.hi
 have hlo:=F.Y3
 have hg:=F.g1
 unfold KK
 unfold jt at q3 q4 ⊢
 rw[t1,t2]
 generalize sub % oq D * each D=k at q3 q4 q5 ⊢
 generalize each D=w at he q4 ⊢
 rw[bN (x:=sub / oq D) (by omega) (by omega),bN (x:=k) (by omega) (by omega),bN (x:=Fj D+k) (by omega) (by omega),bN (x:=Fj D+k+w) (by omega) (by omega),bN (x:=Fj D+k+w-1) (by omega) (by omega)]
theorem Qk:f119 D.1.1 D.1.2 D.2.1.1 D.2.1.2 D.2.2.1 D.2.2.2.1 D.2.2.2.2.1 D.2.2.2.2.2=some (if ij D then Aa D else 0,()):=by
 unfold f119
 rw[zR]
 simp only[Option.bind_some]
 by_cases F:ij D
 case neg=>rw[decide_eq_false F,if_neg F];rfl
 rw[decide_eq_true F,if_pos F]
 have h1:=F.h1
 have g1:=F.g1
 simp only[Bool.not_true,cond_false]
 rw[decide_eq_false (show ¬ Eb D=0 by omega)]
 have e2:Int.tdiv D.2.2.2.2.1 D.2.2.2.2.2=Aa D:=Int.tdiv_eq_ediv_of_nonneg g1
 have p1:0≤Aa D:=Int.ediv_nonneg g1 (by omega)
 have:=F.blk
 rw[e2,bN (by omega) (by omega)]
 rfl
theorem Mt (at' blk:Int):f77 D.1.1 D.1.2 D.2.1.1 D.2.1.2 D.2.2.1 D.2.2.2.1 D.2.2.2.2.1 D.2.2.2.2.2 at' blk=some (if rN D at' blk then Yc D at' blk else (0,0,0),decide (rN D at' blk),()):=by
 unfold f77
 rw[iN,Qk]
 simp only[Option.bind_some]
 have ey:b7 D.2.1.1 D.2.1.2=og D:=rfl
 rw[ey]
 by_cases h0:at'<0
 ·have:¬ rN D at' blk:=fun h=>by have:=h.2.1.1;omega
  rw[decide_eq_true h0,decide_eq_false this,if_neg this];rfl
 rw[decide_eq_false h0]
 simp only[cond_false]
 by_cases h1:og D≤at'
 ·have:¬ rN D at' blk:=fun h=>by have:=h.2.1.2;omega
  rw[decide_eq_true h1,decide_eq_false this,if_neg this];rfl
 rw[decide_eq_false h1]
 simp only[cond_false]
 by_cases h2:blk<0
 ·have:¬ rN D at' blk:=fun h=>by have:=h.2.2.1;omega
  rw[decide_eq_true h2,decide_eq_false this,if_neg this];rfl
 rw[decide_eq_false h2]
 simp only[cond_false]
 by_cases F:ij D
 case neg=>
  have:¬ rN D at' blk:=fun h=>F h.1
  rw[if_neg F,decide_eq_true (show (0:Int)≤blk by omega),decide_eq_false this,if_neg this];rfl
 rw[if_pos F]
 by_cases h3:Aa D≤blk
 ·have:¬ rN D at' blk:=fun h=>by have:=h.2.2.2;omega
  rw[decide_eq_true h3,decide_eq_false this,if_neg this];rfl
 have hB:rN D at' blk:=⟨F,by omega,by omega,by omega⟩
 rw[decide_eq_false h3,decide_eq_true hB,if_pos hB]
 obtain⟨q1,q2⟩:=F.block (blk:=blk) (by omega) (by omega)
 have:=F.g2
 have:=F.hi
 have:=F.Y3
 have:=F.h1
 have:=F.g1
 simp only[cond_false]
 unfold Yc
 generalize blk * Eb D=k at q1 q2 ⊢
 rw[bN (x:=k) (by omega) (by omega),bN (x:=Bl D-jj D) (by omega) (by omega),bN (x:=Bl D-jj D+1) (by omega) (by omega),bN (x:=Bl D-jj D+1+k) (by omega) (by omega),bN (x:=Bl D-jj D+1+k+Eb D) (by omega) (by omega),bN (x:=Bl D-jj D+1+k+Eb D-1) (by omega) (by omega)]
end
theorem An (a b c at':Int):f121 a b c at'=some (hasB (a,b,c) at',()):=by
 unfold f121 hasB
 by_cases h1:0≤a
 ·rw[decide_eq_true h1]
  by_cases h2:a≤4
  ·rw[decide_eq_true h2]
   by_cases h3:1≤b
   ·rw[decide_eq_true h3]
    by_cases h4:b≤4
    ·rw[decide_eq_true h4,bN (x:=a+b) (by omega) (by omega)]
     cases decide (a≤at')<;>rfl
    ·rw[decide_eq_false h4];rfl
   ·rw[decide_eq_false h3];rfl
  ·rw[decide_eq_false h2];rfl
 ·rw[decide_eq_false h1];rfl
theorem U2 (l:List HT)(hl:Sz l)(at':Int):f78 l at'=some (yf l at',()):=by
 unfold f78
 have e:iter aA fO ((l,(),((l.length:Nat):Int),0,()),((at',()),()),())=_:=
  iU l (fun p=>hasB p at') (fun j=>((l,(),((l.length:Nat):Int),((j:Nat):Int),()),((at',()),()),())) (fun j=>((((j:Nat):Int),()),((at',()),()),()))
   (y:=((),((at',()),()),())) (fun j h=>by
    simp only[fO,lF,eO h,fe,cond_true,Bool.and_self,Int.toNat_natCast,Io h,An,Option.bind_some,nx h hl])
   (by simp only[fO,lF,nG,cond_false]) (fuel:=aA) (by unfold aA;omega)
 rw[e]
 unfold yf
 split<;>rfl
theorem O1 (a b c d:Int):f79 a b c d=some (decide (B6 c d a b),()):=by
 unfold f79
 by_cases h1:c<a
 ·rw[decide_eq_true h1,decide_eq_true (show B6 c d a b from .inl h1)];rfl
 ·rw[decide_eq_false h1]
  by_cases h2:a=c
  ·rw[decide_eq_true h2]
   have:(d<b)↔B6 c d a b:=by unfold B6;omega
   simp only[cond_false,cond_true,decide_eq_decide.2 this]
  ·rw[decide_eq_false h2,decide_eq_false (show ¬ B6 c d a b by unfold B6;omega)];rfl
theorem zN (a b c d e:Int):f123 a b c d e=some ((b,c),()):=by unfold f123 f160;rfl
theorem zq (l:List LT)(hl:Sz l)(a b:Int):f80 l a b=some (ir l a b,()):=by
 unfold f80
 have e:iter aA fM ((l,(),((l.length:Nat):Int),0,()),((a,b,()),((),()),()),())=_:=
  iU l (Ee a b) (fun j=>((l,(),((l.length:Nat):Int),((j:Nat):Int),()),((a,b,()),((),()),()),())) (fun j=>((((j:Nat):Int),()),((a,b,()),((),()),()),()))
   (y:=((),((a,b,()),((),()),()),())) (fun j h=>by
    simp only[fM,l7,eO h,fe,cond_true,Bool.and_self,Int.toNat_natCast,UK h,zN,Option.bind_some,Ee,Bool.and_true,nx h hl])
   (by simp only[fM,l7,nG,cond_false]) (fuel:=aA) (by unfold aA;omega)
 rw[e]
 unfold ir
 split<;>rfl
theorem K8 {p q:HT}{out:Int}(hp:iJ p out)(hq:iJ q out)(ho:out≤4):f73 p.1 p.2.1 p.2.2 q.1 q.2.1 q.2.2=some (iL p q,()):=by
 obtain⟨p1,p2,p3,p4,_⟩:=hp
 obtain⟨q1,q2,q3,q4,_⟩:=hq
 unfold f73 iL
 rw[bN (x:=q.1+q.2.1) (by omega) (by omega),bN (x:=p.1+p.2.1) (by omega) (by omega)]
 cases decide (p.1<q.1+q.2.1)<;>rfl
theorem OG (p:HT)(out:Int)(h0:0≤out)(h1:out≤4):f74 p.1 p.2.1 p.2.2 out=some (decide (iJ p out),()):=by
 unfold f74 iJ
 by_cases c1:0≤p.1
 ·by_cases c2:1≤p.2.1
  ·by_cases c3:p.1<out
   ·rw[bN (x:=out-p.1) (by omega) (by omega)]
    by_cases c4:p.2.1≤out-p.1
    ·by_cases c5:0≤p.2.2
     ·simp[c1,c2,c3,c4,c5]
     ·simp[c1,c2,c3,c4,c5]
    ·simp[c1,c2,c3,c4]
   ·simp[c1,c2,c3]
  ·simp[c1,c2]
 ·simp[c1]
def JY (M:List HT)(out:Int):Prop:=(∀ p∈M,iJ p out)∧M.Pairwise fun p q=>iL q p=false
theorem JY.take {l:List HT}{out:Int}(h:JY l out)(j:Nat):JY (l.take j) out:=
 ⟨fun p hp=>h.1 p (List.mem_of_mem_take hp),h.2.sublist (List.take_sublist j l)⟩
theorem JY.snoc {l:List HT}{out:Int}{j:Nat}(hj:j<l.length):JY (l.take (j+1)) out↔JY (l.take j) out∧iJ l[j] out∧(l.take j).any (fun q=>iL l[j] q)=false:=by
 rw[bX hj]
 unfold JY
 rw[List.pairwise_append]
 constructor
 ·intro ⟨h1,h2,h3,h4⟩
  refine⟨⟨fun p hp=>h1 p (List.mem_append.2 (.inl hp)),h2⟩,h1 _ (List.mem_append.2 (.inr (List.mem_singleton.2 rfl))),?_⟩
  rw[List.any_eq_false]
  intro q hq
  rw[h4 q hq _ (List.mem_singleton.2 rfl)];simp
 ·intro ⟨⟨h1,h2⟩,h3,h4⟩
  refine⟨fun p hp=>?_,h2,List.pairwise_singleton _ _,fun a ha b hb=>?_⟩
  ·rcases List.mem_append.1 hp with hp|hp
   ·exact h1 p hp
   ·rw[List.mem_singleton] at hp;rw[hp];exact h3
  ·rw[List.mem_singleton] at hb;subst hb
   rw[List.any_eq_false] at h4
   simpa using h4 a ha
theorem RJ (l:List HT)(hl:Sz l)(p:HT)(out:Int)(hp:iJ p out)(ho:out≤4)(hf:∀ q∈l,iJ q out) :
  iter aA fL ((l,(),((l.length:Nat):Int),0,()),((p.1,p.2.1,p.2.2,()),()),()) =
   some (if l.findIdx (fun q=>iL p q)<l.length then .inr ((((l.findIdx (fun q=>iL p q):Nat):Int),()),((p.1,p.2.1,p.2.2,()),()),()) else .inl ((),((p.1,p.2.1,p.2.2,()),()),())):=
 iU l (fun q=>iL p q) (fun j=>((l,(),((l.length:Nat):Int),((j:Nat):Int),()),((p.1,p.2.1,p.2.2,()),()),())) (fun j=>((((j:Nat):Int),()),((p.1,p.2.1,p.2.2,()),()),()))
  (y:=((),((p.1,p.2.1,p.2.2,()),()),())) (fun j h=>by
   simp only[fL,mN,eO h,fe,cond_true,Bool.and_self,Int.toNat_natCast,Io h,K8 hp (hf _ (List.getElem_mem h)) ho,Option.bind_some,nx h hl])
  (by simp only[fL,mN,nG,cond_false]) (fuel:=aA) (by unfold aA;omega)
theorem uF (l:List HT)(out:Int):f32 l out=some (decide (cv l out),()):=by
 unfold f32
 by_cases h0:out<0
 ·rw[decide_eq_true h0,decide_eq_false (show ¬ cv l out from fun h=>by have:=h.YS;omega)];rfl
 rw[decide_eq_false h0]
 by_cases h4:4<out
 ·rw[decide_eq_true h4,decide_eq_false (show ¬ cv l out from fun h=>by have:=h.UO;omega)];rfl
 rw[decide_eq_false h4]
 by_cases h3:3<l.length
 ·rw[decide_eq_true (show (3:Int)<((l.length:Nat):Int) by omega),decide_eq_false (show ¬ cv l out from fun h=>by have:=h.len;omega)];rfl
 rw[decide_eq_false (show ¬ (3:Int)<((l.length:Nat):Int) by omega)]
 simp only[cond_false]
 let st:Nat→Hl:=fun j=>((l,out,l,((l.length:Nat):Int),((j:Nat):Int),()),(),())
 obtain⟨r,e1,e2⟩:=lV (f:=sU) (fun x=>∃ j,x=st j∧j≤l.length∧JY (l.take j) out) (fun x=>l.length-x.1.2.2.2.2.1.toNat)
  (fun r=>match r with
   | .inl _=>JY l out
   | .inr z=>z.1.1=false∧¬ JY l out) (by
  rintro x ⟨j,rfl,hj1,hj2⟩
  rcases Nat.lt_or_ge j l.length with hlt|hge
  ·have hb1:=OG l[j] out (by omega) (by omega)
   have hsn:=JY.snoc (out:=out) hlt
   by_cases hfit:iJ l[j] out
   case neg=>
    rw[decide_eq_false hfit] at hb1
    refine .inr (.inr ⟨((false,()),(),()),?_,rfl,fun h=>hfit (hsn.1 (h.take _)).2.1⟩)
    simp only[st,sU,DA,eO hlt,fe,cond_true,Bool.and_self,Int.toNat_natCast,Io hlt,hb1,Option.bind_some,Bool.not_false]
   rw[decide_eq_true hfit] at hb1
   have htake:List.drop 0 (List.take j l)=l.take j:=by simp
   have hin:=RJ (l.take j) (by unfold Sz;simp;omega) l[j] out hfit (by omega) hj2.1
   have hle:decide (((j:Nat):Int)≤((l.length:Nat):Int))=true:=decide_eq_true (by omega)
   by_cases hm:(l.take j).findIdx (fun q=>iL l[j] q)<(l.take j).length
   ·rw[if_pos hm] at hin
    refine .inr (.inr ⟨((false,()),(),()),?_,rfl,fun h=>?_⟩)
    ·simp only[st,sU,DA,eO hlt,fe,cond_true,Bool.and_self,Int.toNat_natCast,Io hlt,hb1,Option.bind_some,Bool.not_true,cond_false,hle,htake,hin]
    ·have h1:=(hsn.1 (h.take _)).2.2
     rw[← oM,if_pos hm] at h1
     omega
   ·rw[if_neg hm] at hin
    have hno:(l.take j).any (fun q=>iL l[j] q)=false:=by rw[← oM,if_neg hm]
    refine .inl ⟨st (j+1),?_,⟨j+1,rfl,by omega,hsn.2 ⟨hj2,hfit,hno⟩⟩,?_⟩
    ·simp only[st,sU,DA,eO hlt,fe,cond_true,Bool.and_self,Int.toNat_natCast,Io hlt,hb1,Option.bind_some,Bool.not_true,cond_false,hle,htake,hin,nx hlt (show l.length≤9223372036854775807 by omega)]
    ·show l.length-Int.toNat (((j+1:Nat):Int))<l.length-Int.toNat ((j:Nat):Int)
     omega
  ·have:j=l.length:=by omega
   subst this
   refine .inr (.inl ⟨((),(),()),?_,?_⟩)
   ·simp only[st,sU,DA,nG,cond_false]
   ·rw[List.take_length] at hj2;exact hj2)
  aA (st 0) ⟨0,rfl,by omega,by rw[List.take_zero];exact⟨by simp,by simp⟩⟩ (by simp only[st];unfold aA;omega)
 have e1':iter aA sU ((l,out,l,((l.length:Nat):Int),0,()),(),())=some r:=e1
 rw[e1']
 cases r with
 | inl y=>
  have e2:JY l out:=e2
  rw[decide_eq_true (show cv l out from ⟨by omega,by omega,by omega,e2.1,e2.2⟩)];rfl
 | inr z=>
  obtain⟨k1,k2⟩:=e2
  rw[decide_eq_false (show ¬ cv l out from fun h=>k2 ⟨h.fits,h.apart⟩)]
  show some (z.1.1,())=_
  rw[k1]
theorem Km (p:PT):f30 p.1 p.2.1 p.2.2.1 p.2.2.2=some (decide (wh p),()):=by
 unfold f30 wh
 simp only[EY,Option.bind_some,tJ]
 by_cases h1:1≤p.1∧p.1≤8
 ·by_cases h2:1≤p.2.1∧p.2.1≤1048576
  ·simp[h1,h2]
  ·rw[decide_eq_true h1,decide_eq_false h2]
   simp[h2]
 ·rw[decide_eq_false h1];simp[h1]
theorem I9 (p:Int×Int)(l:List (Int×Int))(x v:Int):kW (p::l) x v=if x=p.1 then (p.1,v)::l else p::kW l x v:=by
 unfold kW
 by_cases h:x=p.1
 ·simp[kS,gr,qJ,h]
 ·rw[if_neg h]
  simp only[kS,gr,decide_eq_false h,cond_false]
  cases kS l x<;>rfl
theorem vo (x v y:Int):∀ (l:List (Int×Int)),cT (kW l x v) y=if y=x then v else cT l y
 | []=>by
  show cT [(x,v)] y=_
  by_cases h:y=x<;>simp[cT,h]
 | p::l=>by
  rw[I9]
  by_cases h:x=p.1
  ·rw[if_pos h]
   simp only[cT]
   by_cases h2:y=p.1
   ·simp[h2,h]
   ·rw[decide_eq_false h2,if_neg (by rw[h];exact h2)];rfl
  ·rw[if_neg h]
   simp only[cT]
   by_cases h2:y=p.1
   ·rw[decide_eq_true h2,if_neg (by rw[h2];exact fun e=>h e.symm)];rfl
   ·rw[decide_eq_false h2]
    simp only[cond_false]
    exact vo x v y l
section
variable {D:DT}{p:PT}{now:Int}{P H:List HT}{L:List LT}
abbrev yH (D:DT)(p:PT)(now:Int)(P:List HT)(L:List LT)(H:List HT)(j:Nat)(mp:List (Int×Int)):w9:=
 (((),(),L,((L.length:Nat):Int),((j:Nat):Int),()),((D.1.1,D.1.2,D.2.1.1,D.2.1.2,D.2.2.1,D.2.2.2.1,D.2.2.2.2.1,D.2.2.2.2.2,p.1,p.2.1,p.2.2.1,p.2.2.2,now,P,L,H,()),mp,()),())
theorem Vn (L:List LT)(s:Int):cnt L s≤L.length:=List.countP_le_length
theorem Vs (hp:wh p)(h0:0≤now)(h1:now≤1073741824)(hP:Sz P)(hL:Sz L)(j:Nat)(mp:List (Int×Int))(hj:j<L.length)(hmp:∀ s,cT mp s=((cnt (L.take j) s:Nat):Int)) :
  (sA (yH D p now P L H j mp)=some (.ret ((false,()),(),()))∧¬ (ng D p now P L[j]∧((cnt (L.take j) L[j].1+1:Nat):Int)≤p.1∧∀ (h0:0<j),yR (L[j-1]'(by omega)) L[j])) ∨
  ((∃ mp',sA (yH D p now P L H j mp)=some (.next (yH D p now P L H (j+1) mp'))∧∀ s,cT mp' s=((cnt (L.take (j+1)) s:Nat):Int)) ∧
   ng D p now P L[j]∧((cnt (L.take j) L[j].1+1:Nat):Int)≤p.1∧∀ (h0:0<j),yR (L[j-1]'(by omega)) L[j]):=by
 obtain⟨p1,p2,p3,pr⟩:=p
 have hc:cnt (L.take j) L[j].1≤j:=Nat.le_trans (Vn _ _) (by rw[List.length_take];omega)
 have hv:cT mp L[j].1+1=((cnt (L.take j) L[j].1+1:Nat):Int):=by rw[hmp];omega
 have hw:IntKind.wrap .i64 (cT mp L[j].1+1)=((cnt (L.take j) L[j].1+1:Nat):Int):=by rw[bN (by omega) (by unfold Sz at hL;omega),hv]
 have hi:IntKind.wrap .i64 (now-p2)=now-p2:=by have h2:1≤p2∧p2≤1048576:=hp.2.1;exact bN (by omega) (by omega)
 simp only[yH,sA,Kt,eO hj,fe,cond_true,Bool.and_self,Int.toNat_natCast,UK hj,VW,Mt,Option.bind_some,U2 P hP,nx hj hL,vo,if_true,hw,hi]
 by_cases hS:Ab D L[j].1
 case neg=>rw[decide_eq_false hS];exact .inl ⟨rfl,fun h=>hS h.1.sub⟩
 rw[decide_eq_true hS,if_pos hS]
 by_cases hB:rN D L[j].2.1 L[j].2.2.1
 case neg=>rw[decide_eq_false hB];exact .inl ⟨rfl,fun h=>hB h.1.blk⟩
 rw[decide_eq_true hB]
 simp only[Bool.not_true,cond_false]
 by_cases hI:yf P L[j].2.1 = -1
 ·rw[decide_eq_true hI]
  refine .inl ⟨rfl,fun h=>?_⟩
  have:=h.1.Z1
  rw[(sL _ _).1 hI] at this
  simp at this
 rw[decide_eq_false hI]
 have hpool:ZU P L[j].2.1=true:=by
  cases hb:ZU P L[j].2.1 with
  | true=>rfl
  | false=>exact absurd ((sL _ _).2 hb) hI
 simp only[cond_false]
 have hlt1:0<j→j-1<L.length:=fun _=>by omega
 have fin:∀ (hpr:pr=true→L[j].1 / oq D=L[j].2.1) (X:Option (R3 w9 HX Gy)),
   X=(cond (decide (p1<((cnt (L.take j) L[j].1+1:Nat):Int))) (some (.ret ((false,()),(),()))) (cond (decide (L[j].2.2.2.1<0)) (some (.ret ((false,()),(),()))) (cond (decide (L[j].2.2.2.2<L[j].2.2.2.1)) (some (.ret ((false,()),(),())))
    (cond (decide (now<L[j].2.2.2.2)) (some (.ret ((false,()),(),()))) (cond (decide (L[j].2.2.2.2≤now-p2)) (some (.ret ((false,()),(),())))
     (if (∀ (h0:0<j),yR (L[j-1]'(by omega)) L[j]) then some (.next (yH D (p1,p2,p3,pr) now P L H (j+1) (kW mp L[j].1 ((cnt (L.take j) L[j].1+1:Nat):Int)))) else some (.ret ((false,()),(),())))))))) →
   (X=some (.ret ((false,()),(),()))∧¬ (ng D (p1,p2,p3,pr) now P L[j]∧((cnt (L.take j) L[j].1+1:Nat):Int)≤p1∧∀ (h0:0<j),yR (L[j-1]'(by omega)) L[j])) ∨
   ((∃ mp',X=some (.next (yH D (p1,p2,p3,pr) now P L H (j+1) mp'))∧∀ s,cT mp' s=((cnt (L.take (j+1)) s:Nat):Int)) ∧
    ng D (p1,p2,p3,pr) now P L[j]∧((cnt (L.take j) L[j].1+1:Nat):Int)≤p1∧∀ (h0:0<j),yR (L[j-1]'(by omega)) L[j]):=by
  intro hpr X hX
  subst hX
  by_cases c1:p1<((cnt (L.take j) L[j].1+1:Nat):Int)
  ·rw[decide_eq_true c1];exact .inl ⟨rfl,fun h=>by have:=h.2.1;omega⟩
  rw[decide_eq_false c1]
  by_cases c2:L[j].2.2.2.1<0
  ·rw[decide_eq_true c2];exact .inl ⟨rfl,fun h=>by have:=h.1.Xi;omega⟩
  rw[decide_eq_false c2]
  by_cases c3:L[j].2.2.2.2<L[j].2.2.2.1
  ·rw[decide_eq_true c3];exact .inl ⟨rfl,fun h=>by have:=h.1.XF;omega⟩
  rw[decide_eq_false c3]
  by_cases c4:now<L[j].2.2.2.2
  ·rw[decide_eq_true c4];exact .inl ⟨rfl,fun h=>by have:=h.1.Y5;omega⟩
  rw[decide_eq_false c4]
  by_cases c5:L[j].2.2.2.2≤now-p2
  ·rw[decide_eq_true c5];exact .inl ⟨rfl,fun h=>by have:now-p2<L[j].2.2.2.2:=h.1.idle;omega⟩
  rw[decide_eq_false c5]
  simp only[cond_false]
  by_cases c6:∀ (h0:0<j),yR (L[j-1]'(by omega)) L[j]
  ·rw[if_pos c6]
   refine .inr ⟨⟨_,rfl,fun s=>?_⟩,⟨hS,hB,hpool,hpr,by omega,by omega,by omega,show now-p2<L[j].2.2.2.2 by omega⟩,by show _≤p1;omega,c6⟩
   rw[vo,bX hj,ux,hmp]
   by_cases e:s=L[j].1
   ·subst e;rw[if_pos rfl,if_pos rfl]
   ·rw[if_neg e,if_neg (fun h=>e h.symm)];rfl
  ·rw[if_neg c6];exact .inl ⟨rfl,fun h=>c6 h.2.2⟩
 have tail:∀ (N:R3 w9 HX Gy),(cond (decide ((0:Int)<((j:Nat):Int)))
   (cond (decide (0≤IntKind.wrap .i64 (((j:Nat):Int)-1))&&decide (IntKind.wrap .i64 (((j:Nat):Int)-1)<((L.length:Nat):Int)))
    (cond (decide (0≤IntKind.wrap .i64 (((j:Nat):Int)-1))&&decide (IntKind.wrap .i64 (((j:Nat):Int)-1)<((L.length:Nat):Int)))
     ((f79 L[j].2.1 L[j].2.2.1 (rd (.pair (.int .i64) (.pair (.int .i64) (.pair (.int .i64) (.pair (.int .i64) (.int .i64))))) L (Int.toNat (IntKind.wrap .i64 (((j:Nat):Int)-1)))).2.1 (rd (.pair (.int .i64) (.pair (.int .i64) (.pair (.int .i64) (.pair (.int .i64) (.int .i64))))) L (Int.toNat (IntKind.wrap .i64 (((j:Nat):Int)-1)))).2.2.1).bind fun y24=>
      cond (!y24.1) (some (R3.ret ((false,()),(),()))) (some N))
     none) none) (some N))=if (∀ (h0:0<j),yR (L[j-1]'(by omega)) L[j]) then some N else some (.ret ((false,()),(),())):=by
  intro N
  by_cases h0:0<j
  ·have hw:IntKind.wrap .i64 (((j:Nat):Int)-1)=((j-1:Nat):Int):=by rw[bN (by omega) (by unfold Sz at hL;omega)];omega
   rw[decide_eq_true (show (0:Int)<((j:Nat):Int) by omega),hw,fe,eO (hlt1 h0),Int.toNat_natCast,UK (hlt1 h0),O1]
   simp only[cond_true,Bool.and_self,Option.bind_some]
   by_cases hl:yR (L[j-1]'(by omega)) L[j]
   ·rw[if_pos (fun _=>hl)]
    unfold yR at hl
    rw[decide_eq_true hl];rfl
   ·rw[if_neg (fun h=>hl (h h0))]
    unfold yR at hl
    rw[decide_eq_false hl];rfl
  ·rw[decide_eq_false (show ¬ (0:Int)<((j:Nat):Int) by omega),if_pos (fun h=>absurd h h0)];rfl
 have hbase:(KK D L[j].1).1=L[j].1 / oq D:=rfl
 cases pr with
 | true=>
  simp only[cond_true,if_true,hbase]
  by_cases hq:L[j].1 / oq D=L[j].2.1
  ·rw[decide_eq_true hq]
   simp only[Bool.not_true,cond_false]
   refine fin (fun _=>hq) _ ?_
   rw[tail]
  ·rw[decide_eq_false hq]
   exact .inl ⟨rfl,fun h=>hq (h.1.pair rfl)⟩
 | false=>
  simp only[cond_false]
  refine fin (fun h=>by simp at h) _ ?_
  rw[tail]
theorem TY (hp:wh p)(h0:0≤now)(h1:now≤1073741824)(hP:Sz P)(hL:Sz L) :
  f34 D.1.1 D.1.2 D.2.1.1 D.2.1.2 D.2.2.1 D.2.2.2.1 D.2.2.2.2.1 D.2.2.2.2.2 p.1 p.2.1 p.2.2.1 p.2.2.2 now P L H=some (decide (bK D p now P L∧L.length≤32),()):=by
 unfold f34
 obtain⟨r,e1,e2⟩:=lV (f:=sA) (fun x=>∃ j mp,x=yH D p now P L H j mp∧j≤L.length∧bK D p now P (L.take j)∧∀ s,cT mp s=((cnt (L.take j) s:Nat):Int)) (fun x=>L.length-x.1.2.2.2.2.1.toNat)
  (fun r=>match r with
   | .inl y=>bK D p now P L∧y.2.1.1.2.2.2.2.2.2.2.2.2.2.2.2.2.2.1=L
   | .inr z=>z.1.1=false∧¬ bK D p now P L) (by
  rintro x ⟨j,mp,rfl,hj1,hj2,hmp⟩
  rcases Nat.lt_or_ge j L.length with hlt|hge
  ·rcases Vs (D:=D) (H:=H) hp h0 h1 hP hL j mp hlt hmp with⟨hs,hn⟩|⟨⟨mp',hs,hm'⟩,k⟩
   ·exact .inr (.inr ⟨_,hs,rfl,fun h=>hn ((bK.snoc hlt (h.take j)).1 (h.take (j+1)))⟩)
   ·refine .inl ⟨_,hs,⟨j+1,mp',rfl,by omega,(bK.snoc hlt hj2).2 k,hm'⟩,?_⟩
    show L.length-Int.toNat (((j+1:Nat):Int))<L.length-Int.toNat ((j:Nat):Int)
    omega
  ·have:j=L.length:=by omega
   subst this
   refine .inr (.inl ⟨_,by simp only[yH,sA,Kt,nG,cond_false];rfl,?_,rfl⟩)
   rw[List.take_length] at hj2;exact hj2)
  aA (yH D p now P L H 0 []) ⟨0,[],rfl,by omega,by rw[List.take_zero];exact bK.nil,fun s=>by rw[List.take_zero];rfl⟩ (by
   show L.length-Int.toNat ((0:Nat):Int)<aA
   unfold aA;unfold Sz at hL;omega)
 have e1':iter aA sA (((),(),L,((L.length:Nat):Int),0,()),((D.1.1,D.1.2,D.2.1.1,D.2.1.2,D.2.2.1,D.2.2.2.1,D.2.2.2.2.1,D.2.2.2.2.2,p.1,p.2.1,p.2.2.1,p.2.2.2,now,P,L,H,()),[],()),())=some r:=e1
 rw[e1']
 cases r with
 | inl y=>
  obtain⟨k1,k2⟩:=e2
  simp only[Option.bind_some,k2]
  have:(((L.length:Nat):Int)≤32)↔(bK D p now P L∧L.length≤32):=⟨fun h=>⟨k1,by omega⟩,fun h=>by have:=h.2;omega⟩
  rw[decide_eq_decide.2 this]
 | inr z=>
  obtain⟨k1,k2⟩:=e2
  simp only[Option.bind_some,k1]
  rw[decide_eq_false (fun h=>k2 h.1)]
abbrev Ep (D:DT)(p:PT)(now:Int)(P:List HT)(L:List LT)(H:List HT)(j:Nat):Hg:=
 (((),H,((H.length:Nat):Int),((j:Nat):Int),()),((D.1.1,D.1.2,D.2.1.1,D.2.1.2,D.2.2.1,D.2.2.2.1,D.2.2.2.2.1,D.2.2.2.2.2,p.1,p.2.1,p.2.2.1,p.2.2.2,now,P,L,H,()),()),())
theorem Ut (h0:0≤now)(h1:now≤1073741824)(hL:Sz L)(hH:Sz H)(j:Nat)(hj:j<H.length) :
  (sV (Ep D p now P L H j)=some (.ret ((false,()),(),()))∧¬ (vU D now L H[j]∧∀ (h0:0<j),oD (H[j-1]'(by omega)) H[j])) ∨
  (sV (Ep D p now P L H j)=some (.next (Ep D p now P L H (j+1)))∧vU D now L H[j]∧∀ (h0:0<j),oD (H[j-1]'(by omega)) H[j]):=by
 simp only[Ep,sV,Ni,eO hj,fe,cond_true,Bool.and_self,Int.toNat_natCast,Io hj,Mt,EY,Option.bind_some,zq L hL,nx hj hH,
  bN (show -9223372036854775808≤now+1 by omega) (by omega),bN (show -9223372036854775808≤now+1048576 by omega) (by omega)]
 by_cases hB:rN D H[j].1 H[j].2.1
 case neg=>rw[decide_eq_false hB];exact .inl ⟨rfl,fun h=>hB h.1.blk⟩
 rw[decide_eq_true hB]
 simp only[Bool.not_true,cond_false]
 by_cases hT:now+1≤H[j].2.2∧H[j].2.2≤now+1048576
 case neg=>rw[tJ,decide_eq_false hT];exact .inl ⟨rfl,fun h=>hT ⟨h.1.Yf,h.1.Xh⟩⟩
 rw[tJ,decide_eq_true hT]
 simp only[Bool.not_true,cond_false]
 by_cases hI:ir L H[j].1 H[j].2.1 = -1
 case neg=>
  rw[decide_eq_false hI]
  exact .inl ⟨rfl,fun h=>hI ((dU _ _ _).2 h.1.free)⟩
 rw[decide_eq_true hI]
 simp only[Bool.not_true,cond_false]
 have hOK:vU D now L H[j]:=⟨hB,hT.1,hT.2,(dU _ _ _).1 hI⟩
 by_cases hj0:0<j
 ·have hw:IntKind.wrap .i64 (((j:Nat):Int)-1)=((j-1:Nat):Int):=by rw[bN (by omega) (by unfold Sz at hH;omega)];omega
  have hl1:j-1<H.length:=by omega
  rw[decide_eq_true (show (0:Int)<((j:Nat):Int) by omega),hw,fe,eO hl1,Int.toNat_natCast,Io hl1,O1]
  simp only[cond_true,Bool.and_self,Option.bind_some]
  by_cases hl:oD (H[j-1]'(by omega)) H[j]
  ·unfold oD at hl
   rw[decide_eq_true hl]
   exact .inr ⟨rfl,hOK,fun _=>hl⟩
  ·have hl':=hl
   unfold oD at hl'
   rw[decide_eq_false hl']
   exact .inl ⟨rfl,fun h=>hl (h.2 hj0)⟩
 ·rw[decide_eq_false (show ¬ (0:Int)<((j:Nat):Int) by omega)]
  exact .inr ⟨rfl,hOK,fun h=>absurd h hj0⟩
theorem VH (h0:0≤now)(h1:now≤1073741824)(hL:Sz L)(hH:Sz H) :
  f35 D.1.1 D.1.2 D.2.1.1 D.2.1.2 D.2.2.1 D.2.2.2.1 D.2.2.2.2.1 D.2.2.2.2.2 p.1 p.2.1 p.2.2.1 p.2.2.2 now P L H=some (decide (cG D now L H),()):=by
 unfold f35
 obtain⟨r,e1,e2⟩:=lV (f:=sV) (fun x=>∃ j,x=Ep D p now P L H j∧j≤H.length∧cG D now L (H.take j)) (fun x=>H.length-x.1.2.2.2.1.toNat)
  (fun r=>match r with
   | .inl y=>cG D now L H
   | .inr z=>z.1.1=false∧¬ cG D now L H) (by
  rintro x ⟨j,rfl,hj1,hj2⟩
  rcases Nat.lt_or_ge j H.length with hlt|hge
  ·rcases Ut (D:=D) (p:=p) (P:=P) h0 h1 hL hH j hlt with⟨hs,hn⟩|⟨hs,k⟩
   ·exact .inr (.inr ⟨_,hs,rfl,fun h=>hn ((cG.snoc hlt (h.take j)).1 (h.take (j+1)))⟩)
   ·refine .inl ⟨_,hs,⟨j+1,rfl,by omega,(cG.snoc hlt hj2).2 k⟩,?_⟩
    show H.length-Int.toNat (((j+1:Nat):Int))<H.length-Int.toNat ((j:Nat):Int)
    omega
  ·have:j=H.length:=by omega
   subst this
   refine .inr (.inl ⟨((),(),()),?_,?_⟩)
   ·simp only[Ep,sV,Ni,nG,cond_false]
   ·rw[List.take_length] at hj2;exact hj2)
  aA (Ep D p now P L H 0) ⟨0,rfl,by omega,by rw[List.take_zero];exact cG.nil⟩ (by
   show H.length-Int.toNat ((0:Nat):Int)<aA
   unfold aA;unfold Sz at hH;omega)
 have e1':iter aA sV (((),H,((H.length:Nat):Int),0,()),((D.1.1,D.1.2,D.2.1.1,D.2.1.2,D.2.2.1,D.2.2.2.1,D.2.2.2.2.1,D.2.2.2.2.2,p.1,p.2.1,p.2.2.1,p.2.2.2,now,P,L,H,()),()),())=some r:=e1
 rw[e1']
 cases r with
 | inl y=>
  have e2:cG D now L H:=e2
  rw[decide_eq_true e2];rfl
 | inr z=>
  obtain⟨k1,k2⟩:=e2
  simp only[Option.bind_some,k1]
  rw[decide_eq_false k2]
end
theorem uj (s:ST)(hP:Sz s.2.2.2.1)(hL:Sz s.2.2.2.2.1)(hH:Sz s.2.2.2.2.2) :
  f11 s.1.1.1 s.1.1.2 s.1.2.1.1 s.1.2.1.2 s.1.2.2.1 s.1.2.2.2.1 s.1.2.2.2.2.1 s.1.2.2.2.2.2 s.2.1.1 s.2.1.2.1 s.2.1.2.2.1 s.2.1.2.2.2 s.2.2.1 s.2.2.2.1 s.2.2.2.2.1 s.2.2.2.2.2=some (decide (bR s),()):=by
 unfold f11
 rw[zR]
 simp only[Option.bind_some]
 by_cases c1:ij s.1
 case neg=>rw[decide_eq_false c1,decide_eq_false (fun h=>c1 (bR.fit h))];rfl
 rw[decide_eq_true c1,Km]
 simp only[Option.bind_some,cond_true]
 by_cases c2:wh s.2.1
 case neg=>rw[decide_eq_false c2,decide_eq_false (fun h=>c2 (bR.pol h))];rfl
 rw[decide_eq_true c2,EY,tJ]
 simp only[Option.bind_some,cond_true]
 by_cases c3:0≤s.2.2.1∧s.2.2.1≤1073741824
 case neg=>rw[decide_eq_false c3,decide_eq_false (fun h=>c3 ⟨bR.Yr h,bR.YA h⟩)];rfl
 rw[decide_eq_true c3]
 have h42:f33 s.1.1.1 s.1.1.2 s.1.2.1.1 s.1.2.1.2 s.1.2.2.1 s.1.2.2.2.1 s.1.2.2.2.2.1 s.1.2.2.2.2.2 s.2.1.1 s.2.1.2.1 s.2.1.2.2.1 s.2.1.2.2.2 s.2.2.1 s.2.2.2.1 s.2.2.2.2.1 s.2.2.2.2.2=some (og s.1,()):=by
  unfold f33;rw[iN];rfl
 rw[h42]
 simp only[Option.bind_some,cond_true,uF]
 by_cases c4:cv s.2.2.2.1 (og s.1)
 case neg=>rw[decide_eq_false c4,decide_eq_false (fun h=>c4 (bR.HV h))];rfl
 rw[decide_eq_true c4,TY c2 c3.1 c3.2 hP hL]
 simp only[Option.bind_some,cond_true]
 by_cases c5:bK s.1 s.2.1 s.2.2.1 s.2.2.2.1 s.2.2.2.2.1∧s.2.2.2.2.1.length≤32
 case neg=>rw[decide_eq_false c5,decide_eq_false (fun h=>c5 ⟨bR.Wg h,bR.len h⟩)];rfl
 rw[decide_eq_true c5,VH c3.1 c3.2 hL hH]
 simp only[Option.bind_some,cond_true]
 by_cases c6:cG s.1 s.2.2.1 s.2.2.2.2.1 s.2.2.2.2.2
 case neg=>rw[decide_eq_false c6,decide_eq_false (fun h=>c6 (bR.J7 h))]
 rw[decide_eq_true c6,decide_eq_true (show bR s from ⟨c1,c2,c3.1,c3.2,c4,c5.1,c5.2,c6⟩)]
theorem WQ (l:List HT)(hl:l.length≤1000):fC l=some (l,()):=by
 unfold fC iV
 rw[Nat.ble_eq_true_of_le (show l.length * 24≤140737488355328 by omega)];rfl
theorem ZY (l:List LT)(hl:l.length≤1000):cY l=some (l,()):=by
 unfold cY iV
 rw[Nat.ble_eq_true_of_le (show l.length * 40≤140737488355328 by omega)];rfl
theorem ZX (l:List HT)(hl:l.length≤1000):dR l=some (l,()):=by
 unfold dR iV
 rw[Nat.ble_eq_true_of_le (show l.length * 24≤140737488355328 by omega)];rfl
theorem V3 (l m:List HT)(hl:Sz l):f84 l m=some (decide (l=m),()):=by
 unfold f84
 by_cases hlen:l.length=m.length
 ·rw[decide_eq_true (show ((l.length:Nat):Int)=((m.length:Nat):Int) by omega)]
  simp only[Bool.not_true,cond_false]
  have e:iter aA Dm ((l,m,((l.length:Nat):Int),0,()),(),())=_:=vN (fun j=>((l,m,((l.length:Nat):Int),((j:Nat):Int),()),(),())) (fun j=>!decide (rd (.pair (.int .i64) (.pair (.int .i64) (.int .i64))) l j=rd (.pair (.int .i64) (.pair (.int .i64) (.int .i64))) m j))
   (n:=l.length) (z:=((false,()),(),())) (y:=((),(),())) (fun j hj=>by
    simp only[Dm,Kp,eO hj,fe,eO (show j<m.length by omega),nx hj hl,cond_true,Bool.and_self,Int.toNat_natCast,TF])
   (by simp only[Dm,Kp,nG,cond_false]) 0 aA (Nat.zero_le _) (by unfold aA;omega)
  rw[e,jG hlen _ (fun j h=>by rw[jz h,jz (by omega)])]
  cases decide (l=m)<;>rfl
 ·rw[decide_eq_false (show ¬ ((l.length:Nat):Int)=((m.length:Nat):Int) by omega),decide_eq_false (fun h=>hlen (by rw[h]))]
  rfl
theorem UL (l m:List HT)(hl:Sz l):f86 l m=some (decide (l=m),()):=by
 unfold f86
 by_cases hlen:l.length=m.length
 ·rw[decide_eq_true (show ((l.length:Nat):Int)=((m.length:Nat):Int) by omega)]
  simp only[Bool.not_true,cond_false]
  have e:iter aA DX ((l,m,((l.length:Nat):Int),0,()),(),())=_:=vN (fun j=>((l,m,((l.length:Nat):Int),((j:Nat):Int),()),(),())) (fun j=>!decide (rd (.pair (.int .i64) (.pair (.int .i64) (.int .i64))) l j=rd (.pair (.int .i64) (.pair (.int .i64) (.int .i64))) m j))
   (n:=l.length) (z:=((false,()),(),())) (y:=((),(),())) (fun j hj=>by
    simp only[DX,MX,eO hj,fe,eO (show j<m.length by omega),nx hj hl,cond_true,Bool.and_self,Int.toNat_natCast,TF])
   (by simp only[DX,MX,nG,cond_false]) 0 aA (Nat.zero_le _) (by unfold aA;omega)
  rw[e,jG hlen _ (fun j h=>by rw[jz h,jz (by omega)])]
  cases decide (l=m)<;>rfl
 ·rw[decide_eq_false (show ¬ ((l.length:Nat):Int)=((m.length:Nat):Int) by omega),decide_eq_false (fun h=>hlen (by rw[h]))]
  rfl
theorem Wb (l m:List LT)(hl:Sz l):f85 l m=some (decide (l=m),()):=by
 unfold f85
 by_cases hlen:l.length=m.length
 ·rw[decide_eq_true (show ((l.length:Nat):Int)=((m.length:Nat):Int) by omega)]
  simp only[Bool.not_true,cond_false]
  have e:iter aA BV ((l,m,((l.length:Nat):Int),0,()),(),())=_:=vN (fun j=>((l,m,((l.length:Nat):Int),((j:Nat):Int),()),(),())) (fun j=>!decide (rd (.pair (.int .i64) (.pair (.int .i64) (.pair (.int .i64) (.pair (.int .i64) (.int .i64))))) l j=rd (.pair (.int .i64) (.pair (.int .i64) (.pair (.int .i64) (.pair (.int .i64) (.int .i64))))) m j))
   (n:=l.length) (z:=((false,()),(),())) (y:=((),(),())) (fun j hj=>by
    simp only[BV,Mn,eO hj,fe,eO (show j<m.length by omega),nx hj hl,cond_true,Bool.and_self,Int.toNat_natCast,lt_eq])
   (by simp only[BV,Mn,nG,cond_false]) 0 aA (Nat.zero_le _) (by unfold aA;omega)
  rw[e,jG hlen _ (fun j h=>by rw[jz h,jz (by omega)])]
  cases decide (l=m)<;>rfl
 ·rw[decide_eq_false (show ¬ ((l.length:Nat):Int)=((m.length:Nat):Int) by omega),decide_eq_false (fun h=>hlen (by rw[h]))]
  rfl
theorem Wa (l m:List HT)(hl:Sz l):f37 l m=some (decide (l=m),()):=by unfold f37;rw[V3 l m hl];rfl
theorem Ul (l m:List LT)(hl:Sz l):f38 l m=some (decide (l=m),()):=by unfold f38;rw[Wb l m hl];rfl
theorem Ws (l m:List HT)(hl:Sz l):f39 l m=some (decide (l=m),()):=by unfold f39;rw[UL l m hl];rfl
structure Sm (s:ST):Prop where
 p:s.2.2.2.1.length≤1000
 l:s.2.2.2.2.1.length≤1000
 h:s.2.2.2.2.2.length≤1000
theorem Sm.WX {s:ST}(h:Sm s):Sz s.2.2.2.1:=by have:=h.p;unfold Sz;omega
theorem Sm.Wq {s:ST}(h:Sm s):Sz s.2.2.2.2.1:=by have:=h.l;unfold Sz;omega
theorem Sm.WN {s:ST}(h:Sm s):Sz s.2.2.2.2.2:=by have:=h.h;unfold Sz;omega
theorem MC (s t:ST)(h:Sm s) :
  f13 s.1.1.1 s.1.1.2 s.1.2.1.1 s.1.2.1.2 s.1.2.2.1 s.1.2.2.2.1 s.1.2.2.2.2.1 s.1.2.2.2.2.2 s.2.1.1 s.2.1.2.1 s.2.1.2.2.1 s.2.1.2.2.2 s.2.2.1 s.2.2.2.1 s.2.2.2.2.1 s.2.2.2.2.2
   t.1.1.1 t.1.1.2 t.1.2.1.1 t.1.2.1.2 t.1.2.2.1 t.1.2.2.2.1 t.1.2.2.2.2.1 t.1.2.2.2.2.2 t.2.1.1 t.2.1.2.1 t.2.1.2.2.1 t.2.1.2.2.2 t.2.2.1 t.2.2.2.1 t.2.2.2.2.1 t.2.2.2.2.2=some (decide (s=t),()):=by
 unfold f13
 rw[Wa _ _ h.WX,Ul _ _ h.Wq,Ws _ _ h.WN]
 obtain⟨⟨⟨a,b⟩,⟨c,d⟩,e,f,g,w⟩,⟨q,i,o,p⟩,n,P,L,H⟩:=s
 obtain⟨⟨⟨a',b'⟩,⟨c',d'⟩,e',f',g',w'⟩,⟨q',i',o',p'⟩,n',P',L',H'⟩:=t
 simp only[Option.bind_some]
 by_cases h1:a=a'∧b=b'∧c=c'∧d=d'∧e=e'∧f=f'∧g=g'∧w=w'
 case neg=>
  have:((decide (a=a')&&(decide (b=b')&&true))&&((decide (c=c')&&(decide (d=d')&&true))&&(decide (e=e')&&(decide (f=f')&&(decide (g=g')&&(decide (w=w')&&true))))))=false:=by
   rw[Bool.eq_false_iff]
   intro h
   simp only[Bool.and_eq_true,decide_eq_true_eq,and_true] at h
   exact h1 ⟨h.1.1,h.1.2,h.2.1.1,h.2.1.2,h.2.2.1,h.2.2.2.1,h.2.2.2.2.1,h.2.2.2.2.2⟩
  have hne:¬ ((((a,b),(c,d),e,f,g,w),(q,i,o,p),n,P,L,H):ST)=(((a',b'),(c',d'),e',f',g',w'),(q',i',o',p'),n',P',L',H'):=by
   intro h
   simp only[Prod.mk.injEq] at h
   exact h1 ⟨h.1.1.1,h.1.1.2,h.1.2.1.1,h.1.2.1.2,h.1.2.2.1,h.1.2.2.2.1,h.1.2.2.2.2.1,h.1.2.2.2.2.2⟩
  rw[this,decide_eq_false hne];rfl
 obtain⟨rfl,rfl,rfl,rfl,rfl,rfl,rfl,rfl⟩:=h1
 simp only[decide_true,Bool.and_self,cond_true,Bool.and_true,Bool.true_and]
 by_cases h2:q=q'∧i=i'∧o=o'∧p=p'
 case neg=>
  have:(decide (q=q')&&(decide (i=i')&&(decide (o=o')&&(p == p'))))=false:=by
   rw[Bool.eq_false_iff]
   intro h
   simp only[Bool.and_eq_true,decide_eq_true_eq,beq_iff_eq] at h
   exact h2 ⟨h.1,h.2.1,h.2.2.1,h.2.2.2⟩
  have hne:¬ ((((a,b),(c,d),e,f,g,w),(q,i,o,p),n,P,L,H):ST)=(((a,b),(c,d),e,f,g,w),(q',i',o',p'),n',P',L',H'):=by
   intro h
   simp only[Prod.mk.injEq,true_and] at h
   exact h2 ⟨h.1.1,h.1.2.1,h.1.2.2.1,h.1.2.2.2⟩
  rw[this,decide_eq_false hne];rfl
 obtain⟨rfl,rfl,rfl,rfl⟩:=h2
 simp only[decide_true,Bool.and_self,cond_true,Bool.and_true,Bool.true_and,beq_self_eq_true]
 by_cases h3:n=n'
 case neg=>
  have hne:¬ ((((a,b),(c,d),e,f,g,w),(q,i,o,p),n,P,L,H):ST)=(((a,b),(c,d),e,f,g,w),(q,i,o,p),n',P',L',H'):=fun k=>h3 (congrArg (fun s:ST=>s.2.2.1) k)
  rw[decide_eq_false h3,decide_eq_false hne];rfl
 subst h3
 simp only[decide_true,cond_true]
 by_cases h4:P=P'
 case neg=>
  have hne:¬ ((((a,b),(c,d),e,f,g,w),(q,i,o,p),n,P,L,H):ST)=(((a,b),(c,d),e,f,g,w),(q,i,o,p),n,P',L',H'):=fun k=>h4 (congrArg (fun s:ST=>s.2.2.2.1) k)
  rw[decide_eq_false h4,decide_eq_false hne];rfl
 subst h4
 simp only[decide_true,cond_true]
 by_cases h5:L=L'
 case neg=>
  have hne:¬ ((((a,b),(c,d),e,f,g,w),(q,i,o,p),n,P,L,H):ST)=(((a,b),(c,d),e,f,g,w),(q,i,o,p),n,P,L',H'):=fun k=>h5 (congrArg (fun s:ST=>s.2.2.2.2.1) k)
  rw[decide_eq_false h5,decide_eq_false hne];rfl
 subst h5
 simp only[decide_true,cond_true]
 by_cases h6:H=H'
 case neg=>
  have hne:¬ ((((a,b),(c,d),e,f,g,w),(q,i,o,p),n,P,L,H):ST)=(((a,b),(c,d),e,f,g,w),(q,i,o,p),n,P,L,H'):=fun k=>h6 (congrArg (fun s:ST=>s.2.2.2.2.2) k)
  rw[decide_eq_false h6,decide_eq_false hne]
 subst h6
 simp
theorem yG (s:ST)(h:Sm s) :
  f42 s.1.1.1 s.1.1.2 s.1.2.1.1 s.1.2.1.2 s.1.2.2.1 s.1.2.2.2.1 s.1.2.2.2.2.1 s.1.2.2.2.2.2 s.2.1.1 s.2.1.2.1 s.2.1.2.2.1 s.2.1.2.2.2 s.2.2.1 s.2.2.2.1 s.2.2.2.2.1 s.2.2.2.2.2=some (s,()):=by
 unfold f42
 rw[WQ _ h.p,ZY _ h.l,ZX _ h.h];rfl
theorem RB (H:List HT)(hH:H.length≤1000)(now:Int):f137 H now=some (ur H now,()):=by
 have hS:Sz H:=by unfold Sz;omega
 unfold f137
 rw[ZX H hH]
 simp only[Option.bind_some]
 have e:iter aA eN (((),(),((H.length:Nat):Int),0,()),((now,()),H,()),())=_:=
  iU H (fun x=>decide (x.2.2≤now)) (fun j=>(((),(),((H.length:Nat):Int),((j:Nat):Int),()),((now,()),H,()),())) (fun j=>((((j:Nat):Int),()),((now,()),H,()),()))
   (y:=((),((now,()),H,()),())) (fun j h=>by
    simp only[eN,ke,eO h,fe,cond_true,Bool.and_self,Int.toNat_natCast,Io h,decide_eq_true h,nx h hS])
   (by simp only[eN,ke,nG,cond_false]) (fuel:=aA) (by unfold aA;omega)
 rw[e]
 by_cases hlt:H.findIdx (fun x=>decide (x.2.2≤now))<H.length
 ·rw[if_pos hlt]
  simp only[Option.bind_some]
  rw[decide_eq_false (show ¬ ((H.findIdx (fun x=>decide (x.2.2≤now)):Nat):Int) = -1 by omega),nx hlt hS]
  simp only[cond_false]
  obtain⟨k,l',k1,k2,k3,k4⟩:=GM (u:=eo) (fun x:HT=>decide (x.2.2≤now)) (fun i j l=>(((),(),((i:Nat):Int),((j:Nat):Int),()),((now,()),l,()),()))
   (fun i l=>(((),((i:Nat):Int),()),((now,()),l,()),())) H (fun i j l h hi hN=>by
    have hsz:l.length≤9223372036854775807:=by omega
    simp only[eo,jP,eO h,fe,cond_true,Bool.and_self,Int.toNat_natCast,Io h,decide_eq_true h,nx h hsz]
    by_cases hd:l[j].2.2≤now
    ·rw[decide_eq_true hd];simp only[Bool.not_true,cond_false,if_true]
    ·rw[decide_eq_false hd,eO (show i<l.length by omega),decide_eq_true (show i<l.length by omega),nx (show i<l.length by omega) hsz];rfl)
   (fun i l h=>by simp only[eo,jP,nG,cond_false]) (by unfold aA;omega) hlt
  rw[k1]
  simp only[Option.bind_some,Nat.sub_zero,Nat.zero_add,Int.zero_add,Int.toNat_natCast,fe,Bool.true_and]
  have hk:k≤l'.length:=by rw[k2,k4];exact List.length_filter_le _ _
  have hlen:(l'.take k++List.replicate (l'.length-k) ((0,0,0):HT)++l'.drop (k+(l'.length-k))).length=l'.length:=by
   simp only[List.length_append,List.length_take,List.length_replicate,List.length_drop];omega
  rw[bh hk,bh (Nat.le_refl l'.length)]
  simp only[Bool.and_self,cond_true,hlen]
  rw[bh hk]
  simp only[cond_true]
  rw[List.append_assoc,List.take_append_of_le_length (by rw[List.length_take];omega),List.take_take,Nat.min_self,k3]
  rfl
 ·rw[if_neg hlt]
  simp only[Option.bind_some]
  have:ur H now=H:=by
   unfold ur
   rw[List.filter_eq_self]
   intro x hx
   rw[List.findIdx_lt_length] at hlt
   cases hd:decide (x.2.2≤now) with
   | false=>rfl
   | true=>exact absurd ⟨x,hx,hd⟩ hlt
  rw[this]
set_option maxRecDepth 100000
def RF (s:ST):Prop:=s.2.2.2.2.1.length≤40∧s.2.2.2.2.2.length≤40∧s.2.2.2.1.length≤6
instance (s:ST):Decidable (RF s):=by unfold RF;infer_instance
theorem RF.sm {s:ST}(h:RF s):Sm s:=⟨by have:=h.2.2;omega,by have:=h.1;omega,by have:=h.2.1;omega⟩
theorem OU (s:ST) :
  f19 s.1.1.1 s.1.1.2 s.1.2.1.1 s.1.2.1.2 s.1.2.2.1 s.1.2.2.2.1 s.1.2.2.2.2.1 s.1.2.2.2.2.2 s.2.1.1 s.2.1.2.1 s.2.1.2.2.1 s.2.1.2.2.2 s.2.2.1 s.2.2.2.1 s.2.2.2.2.1 s.2.2.2.2.2=some (decide (RF s),()):=by
 unfold f19 f44 RF
 by_cases h1:s.2.2.2.2.1.length≤40
 ·by_cases h2:s.2.2.2.2.2.length≤40
  ·by_cases h3:s.2.2.2.1.length≤6
   ·have h1':((s.2.2.2.2.1.length:Nat):Int)≤40:=by omega
    have h2':((s.2.2.2.2.2.length:Nat):Int)≤40:=by omega
    have h3':((s.2.2.2.1.length:Nat):Int)≤6:=by omega
    simp[h1,h2,h3,h1',h2',h3']
   ·have h1':((s.2.2.2.2.1.length:Nat):Int)≤40:=by omega
    have h2':((s.2.2.2.2.2.length:Nat):Int)≤40:=by omega
    have h3':¬ ((s.2.2.2.1.length:Nat):Int)≤6:=by omega
    simp[h1,h2,h3,h1',h2',h3']
  ·have h1':((s.2.2.2.2.1.length:Nat):Int)≤40:=by omega
   have h2':¬ ((s.2.2.2.2.2.length:Nat):Int)≤40:=by omega
   simp[h1,h2,h1',h2']
 ·have h1':¬ ((s.2.2.2.2.1.length:Nat):Int)≤40:=by omega
  simp[h1,h1']
theorem US (s:ST)(now:Int)(h:Sm s) :
  iter aA xb ((now,(),(),((s.2.2.2.2.1.length:Nat):Int),0,()),((0,0,0,0,0,0,0,0,0,0,0,false,0,(),(),(),()),(s.1.1.1,s.1.1.2,s.1.2.1.1,s.1.2.1.2,s.1.2.2.1,s.1.2.2.2.1,s.1.2.2.2.2.1,s.1.2.2.2.2.2,s.2.1.1,s.2.1.2.1,s.2.1.2.2.1,s.2.1.2.2.2,now,(),(),(),()),()),[],[],[],s.2.2.2.1,s.2.2.2.2.1,s.2.2.2.2.2,())
  = some (.inl ((now,(),(),()),((0,0,0,0,0,0,0,0,0,0,0,false,0,(),(),(),()),(s.1.1.1,s.1.1.2,s.1.2.1.1,s.1.2.1.2,s.1.2.2.1,s.1.2.2.2.1,s.1.2.2.2.2.1,s.1.2.2.2.2.2,s.2.1.1,s.2.1.2.1,s.2.1.2.2.1,s.2.1.2.2.2,now,(),(),(),()),()),[],[],[],s.2.2.2.1,kV s.2.2.2.2.1 now,s.2.2.2.2.2,())):=by
 have hl:=h.l
 generalize s.2.2.2.2.1=L at hl ⊢
 have hS:L.length≤9223372036854775807:=by omega
 have hm:∀ j,(kV (L.take j) now++L.drop j).length=L.length:=fun j=>by rw[List.length_append,oU,List.length_take,List.length_drop];omega
 have:=uL (u:=xb) (fun j=>((now,(),(),((L.length:Nat):Int),((j:Nat):Int),()),((0,0,0,0,0,0,0,0,0,0,0,false,0,(),(),(),()),(s.1.1.1,s.1.1.2,s.1.2.1.1,s.1.2.1.2,s.1.2.2.1,s.1.2.2.2.1,s.1.2.2.2.2.1,s.1.2.2.2.2.2,s.2.1.1,s.2.1.2.1,s.2.1.2.2.1,s.2.1.2.2.2,now,(),(),(),()),()),[],[],[],s.2.2.2.1,kV (L.take j) now++L.drop j,s.2.2.2.2.2,()))
  (n:=L.length) (y:=((now,(),(),()),((0,0,0,0,0,0,0,0,0,0,0,false,0,(),(),(),()),(s.1.1.1,s.1.1.2,s.1.2.1.1,s.1.2.1.2,s.1.2.2.1,s.1.2.2.2.1,s.1.2.2.2.2.1,s.1.2.2.2.2.2,s.2.1.1,s.2.1.2.1,s.2.1.2.2.1,s.2.1.2.2.2,now,(),(),(),()),()),[],[],[],s.2.2.2.1,kV L now,s.2.2.2.2.2,())) (fun j hj=>by
   have hj2:j<(kV (L.take j) now++L.drop j).length:=by rw[hm];exact hj
   have hlen:(kV (L.take j) now).length=j:=by rw[oU,List.length_take];omega
   have hat:(kV (L.take j) now++L.drop j)[j]=L[j]:=by
    rw[List.getElem_append_right (by omega)]
    simp only[hlen,Nat.sub_self,List.getElem_drop,Nat.add_zero]
   simp only[xb,M8,eO hj,fe,hm j,decide_eq_true hj,cond_true,Bool.and_self,Int.toNat_natCast,UK hj2,hat,nx hj hS]
   have e2:kV (L.take (j+1)) now++L.drop (j+1)=(kV (L.take j) now++L.drop j).set j (L[j].1,L[j].2.1,L[j].2.2.1,L[j].2.2.2.1,now):=by
    rw[List.set_append_right _ _ (by omega),hlen,Nat.sub_self,List.drop_eq_getElem_cons hj,List.set_cons_zero,bX hj]
    unfold kV
    rw[List.map_append,List.append_assoc];rfl
   rw[e2])
  (by
   have e:kV (L.take L.length) now++L.drop L.length=kV L now:=by rw[List.take_length,List.drop_length,List.append_nil]
   simp only[xb,M8,nG,cond_false,e])
  0 aA (Nat.zero_le _) (by unfold aA;omega)
 have e0:kV (L.take 0) now++L.drop 0=L:=by rw[List.take_zero,List.drop_zero];rfl
 rw[e0] at this
 exact this
theorem Vz (s:ST)(now:Int)(h:Sm s) :
  f99 s.1.1.1 s.1.1.2 s.1.2.1.1 s.1.2.1.2 s.1.2.2.1 s.1.2.2.2.1 s.1.2.2.2.2.1 s.1.2.2.2.2.2 s.2.1.1 s.2.1.2.1 s.2.1.2.2.1 s.2.1.2.2.2 s.2.2.1 s.2.2.2.1 s.2.2.2.2.1 s.2.2.2.2.2 now=some ((settle s now).1,(settle s now).2,()):=by
 unfold f99
 rw[WQ _ h.p,ZY _ h.l,ZX _ h.h]
 simp only[Option.bind_some]
 rw[uj s h.WX h.Wq h.WN]
 simp only[Option.bind_some]
 unfold settle
 by_cases hM:bR s
 case neg=>rw[decide_eq_false hM,if_neg (fun k=>hM k.1)];rfl
 rw[decide_eq_true hM]
 by_cases h1:now<s.2.2.1
 ·rw[decide_eq_true h1,if_neg (fun k=>by have:=k.2.1;omega)];rfl
 rw[decide_eq_false h1]
 by_cases h2:1073741824<now
 ·rw[decide_eq_true h2,if_neg (fun k=>by have:=k.2.2;omega)];rfl
 rw[decide_eq_false h2,if_pos ⟨hM,by omega,by omega⟩]
 simp only[Bool.not_true,cond_false]
 rw[US s now h]
 simp only[Option.bind_some]
 rw[RB _ h.h]
 rfl
theorem GU (x y:Int):f219 x y=some (if x<y then -1 else if y<x then 1 else 0,()):=by
 unfold f219 f236
 simp only[decide_true,Bool.not_true,Option.bind_some,cond_false]
 by_cases h1:x<y
 ·simp[h1]
 ·by_cases h2:y<x
  ·simp[h1,h2]
  ·simp[h1,h2]
theorem QX (x y:Int):f218 [x,y]=some (if x=0 then y else x,()):=by
 unfold f218
 by_cases hx:x=0
 ·by_cases hy:y=0
  ·subst hx hy
   have e:iter aA lm ((0,[0,0],(([0,0]:List Int).length:Int),0,()),(),())=some (.inl ((0,()),(),())):=en (k:=3) (by unfold aA;omega) (by kernel_rfl)
   rw[e];rfl
  ·subst hx
   have e:iter aA lm ((0,[0,y],(([0,y]:List Int).length:Int),0,()),(),())=some (.inr ((y,()),(),())):=
    pU (fun j=>((0,[0,y],(([0,y]:List Int).length:Int),((j:Nat):Int),()),(),())) (n:=1) (fun j hj=>by
     have:j=0:=by omega
     subst this
     simp[lm,zh,rd,bN]) (by
     simp[lm,zh,rd,hy]) 0 aA (by omega) (by unfold aA;omega)
   rw[e];rfl
 ·have e:iter aA lm ((0,[x,y],(([x,y]:List Int).length:Int),0,()),(),())=some (.inr ((x,()),(),())):=
    pU (fun j=>((0,[x,y],(([x,y]:List Int).length:Int),((j:Nat):Int),()),(),())) (n:=0) (fun j hj=>by omega) (by
     simp[lm,zh,rd,hx]) 0 aA (by omega) (by unfold aA;omega)
  rw[e];simp[hx]
theorem Hj (b c:Int×Int):∃ r,f207 b.1 b.2 c.1 c.2=some (r,())∧decide (0<r)=decide (Zj c b):=by
 obtain⟨b1,b2⟩:=b
 obtain⟨c1,c2⟩:=c
 unfold f207
 rw[GU,GU]
 simp only[Option.bind_some]
 rw[QX]
 refine⟨_,rfl,?_⟩
 unfold Zj B6
 simp only
 rcases Int.lt_trichotomy b1 c1 with h|h|h
 ·rw[if_pos h]
  have h1:¬ c1<b1:=by omega
  have h2:¬ c1=b1:=by omega
  simp[h1,h2]
 ·subst h
  simp only[Int.lt_irrefl,if_false,if_true]
  rcases Int.lt_trichotomy b2 c2 with h|h|h
  ·have:¬ c2<b2:=by omega
   simp[h,this]
  ·subst h;simp
  ·have:¬ b2<c2:=by omega
   simp[h,this]
 ·have h1:¬ b1<c1:=by omega
  have h2:¬ b1=c1:=by omega
  simp[h,h1,h2]
theorem RM (l:List LT)(hl:Sz l)(a b:Int):f193 l a b=some (((l.findIdx (kI kL (a,b)):Nat):Int),()):=by
 unfold f193
 have e:iter aA eA ((l,(),((l.length:Nat):Int),0,()),((a,b,()),((),()),()),())=_:=
  iU l (kI kL (a,b)) (fun j=>((l,(),((l.length:Nat):Int),((j:Nat):Int),()),((a,b,()),((),()),()),())) (fun j=>((((j:Nat):Int),()),((a,b,()),((),()),()),()))
   (y:=((),((a,b,()),((),()),()),())) (fun j h=>by
    obtain⟨r,h1,h2⟩:=Hj (kL l[j]) (a,b)
    have h1':f207 l[j].2.1 l[j].2.2.1 a b=some (r,()):=h1
    simp only[eA,ko,eO h,fe,cond_true,Bool.and_self,Int.toNat_natCast,UK h,zN,Option.bind_some,h1',h2,kI,nx h hl])
   (by simp only[eA,ko,nG,cond_false]) (fuel:=aA) (by unfold aA;omega)
 rw[e]
 by_cases hlt:l.findIdx (kI kL (a,b))<l.length
 ·rw[if_pos hlt]
  simp only[Option.bind_some]
  rw[decide_eq_false (by omega)];rfl
 ·rw[if_neg hlt]
  have:l.findIdx (kI kL (a,b))=l.length:=Nat.le_antisymm List.findIdx_le_length (by omega)
  rw[this];rfl
theorem qe (a b c:Int):f196 a b c=some ((a,b),()):=by unfold f196 f208;rfl
theorem GG (l:List HT)(hl:Sz l)(a b:Int):f198 l a b=some (((l.findIdx (kI kH (a,b)):Nat):Int),()):=by
 unfold f198
 have e:iter aA eD ((l,(),((l.length:Nat):Int),0,()),((a,b,()),((),()),()),())=_:=
  iU l (kI kH (a,b)) (fun j=>((l,(),((l.length:Nat):Int),((j:Nat):Int),()),((a,b,()),((),()),()),())) (fun j=>((((j:Nat):Int),()),((a,b,()),((),()),()),()))
   (y:=((),((a,b,()),((),()),()),())) (fun j h=>by
    obtain⟨r,h1,h2⟩:=Hj (kH l[j]) (a,b)
    have h1':f207 l[j].1 l[j].2.1 a b=some (r,()):=h1
    simp only[eD,ki,eO h,fe,cond_true,Bool.and_self,Int.toNat_natCast,Io h,qe,Option.bind_some,h1',h2,kI,nx h hl])
   (by simp only[eD,ki,nG,cond_false]) (fuel:=aA) (by unfold aA;omega)
 rw[e]
 by_cases hlt:l.findIdx (kI kH (a,b))<l.length
 ·rw[if_pos hlt]
  simp only[Option.bind_some]
  rw[decide_eq_false (by omega)];rfl
 ·rw[if_neg hlt]
  have:l.findIdx (kI kH (a,b))=l.length:=Nat.le_antisymm List.findIdx_le_length (by omega)
  rw[this];rfl
theorem D6 (l:List LT)(hl:l.length≤1000)(x:LT):jy l ((l.findIdx (kI kL (kL x)):Nat):Int) [x]=some (Db kL l x):=by
 have hle:l.findIdx (kI kL (kL x))≤l.length:=List.findIdx_le_length
 unfold jy Fs
 rw[fe,bh hle,Nat.ble_eq_true_of_le (show (List.length l+1) * 40≤140737488355328 by omega)]
 rfl
theorem Eo (l:List HT)(hl:l.length≤1000)(x:HT):gO l ((l.findIdx (kI kH (kH x)):Nat):Int) [x]=some (Db kH l x):=by
 have hle:l.findIdx (kI kH (kH x))≤l.length:=List.findIdx_le_length
 unfold gO Fs
 rw[fe,bh hle,Nat.ble_eq_true_of_le (show (List.length l+1) * 24≤140737488355328 by omega)]
 rfl
theorem Qm (l:List LT)(hl:l.length≤1000)(x:LT):f167 l x.1 x.2.1 x.2.2.1 x.2.2.2.1 x.2.2.2.2=some ((A9 l x).1,(A9 l x).2,()):=by
 have hs:Sz l:=by unfold Sz;omega
 unfold f167 A9
 rw[ZY l hl,zq l hs]
 simp only[Option.bind_some]
 by_cases hh:wD l x.2.1 x.2.2.1=true
 ·rw[if_pos (.inl hh),decide_eq_false (fun h=>by rw[dU] at h;rw[h] at hh;cases hh)];rfl
 ·have hn:wD l x.2.1 x.2.2.1=false:=by simpa using hh
  rw[decide_eq_true ((dU _ _ _).2 hn)]
  simp only[Bool.not_true,cond_false]
  by_cases h32:32≤l.length
  ·rw[decide_eq_true (show (32:Int)≤((l.length:Nat):Int) by omega),if_pos (.inr h32)];rfl
  ·rw[decide_eq_false (show ¬ (32:Int)≤((l.length:Nat):Int) by omega),if_neg (by rintro (h|h);exact hh h;exact h32 h)]
   simp only[cond_false,zN,Option.bind_some,RM l hs]
   have:jy l ((l.findIdx (kI kL (x.2.1,x.2.2.1)):Nat):Int) [(x.1,x.2.1,x.2.2.1,x.2.2.2.1,x.2.2.2.2)]=some (Db kL l x):=D6 l hl x
   rw[this];rfl
theorem QN (l:List LT)(hl:l.length≤1000)(a b:Int):f168 l a b=some (if wD l a b=true then (EX l a b,true,()) else (l,false,())):=by
 have hs:Sz l:=by unfold Sz;omega
 unfold f168
 rw[ZY l hl,zq l hs]
 simp only[Option.bind_some]
 by_cases hh:wD l a b=true
 ·have hne:ir l a b ≠ -1:=fun h=>by rw[dU] at h;rw[h] at hh;cases hh
  have hlt:l.findIdx (Ee a b)<l.length:=by
   rcases Nat.lt_or_ge (l.findIdx (Ee a b)) l.length with h|h
   ·exact h
   ·exact absurd (by unfold ir;rw[if_neg (by omega)]) hne
  have hf:ir l a b=((l.findIdx (Ee a b):Nat):Int):=by unfold ir;rw[if_pos hlt]
  rw[if_pos hh,hf]
  unfold EX
  generalize l.findIdx (Ee a b)=i at hlt
  rw[decide_eq_false (show ¬ ((i:Int) = -1) by omega),nx hlt hs]
  simp only[cond_false,Nat.zero_add,Nat.sub_zero,Int.toNat_natCast,List.take_length,fe,Int.zero_add,Bool.true_and,List.length_drop,List.drop_zero]
  rw[decide_eq_true (show ((i:Nat):Int)≤((i+1:Nat):Int) by omega),bh (show i+1≤l.length by omega),bh (Nat.le_refl l.length),decide_eq_false (show ¬ ((i:Nat):Int)=((i+1:Nat):Int) by omega),bh (show i≤l.length by omega)]
  simp only[Bool.and_self,cond_true,cond_false]
  rw[decide_eq_true (show i+(l.length-(i+1))≤l.length by omega)]
  have hlen:(l.take i++l.drop (i+1)++l.drop (i+(l.length-(i+1)))).length=l.length:=by
   simp only[List.length_append,List.length_take,List.length_drop];omega
  simp only[cond_true,hlen]
  rw[bh (show i+(l.length-(i+1))≤l.length by omega),bh (Nat.le_refl l.length)]
  simp only[Bool.and_self,cond_true]
  congr 2
  rw[List.eraseIdx_eq_take_drop_succ]
  have hn:(l.take i++l.drop (i+1)).length=i+(l.length-(i+1)):=by
   simp only[List.length_append,List.length_take,List.length_drop];omega
  have e1:(l.take i++l.drop (i+1)++l.drop (i+(l.length-(i+1)))).take (i+(l.length-(i+1)))=l.take i++l.drop (i+1):=List.take_left' hn
  rw[e1,List.append_assoc,List.take_left' hn]
 ·have hn:wD l a b=false:=by simpa using hh
  rw[if_neg hh,decide_eq_true ((dU _ _ _).2 hn)]
  rfl
theorem Dz (a b c d:Int):(decide (a=c)&&(decide (b=d)&&true))=decide (((a,b):Int×Int)=(c,d)):=by
 simp[Prod.ext_iff]
theorem RQ (H:List HT)(hH:H.length≤900)(x:HT):f169 H x.1 x.2.1 x.2.2=some (w5 H x,()):=by
 have hS:Sz H:=by unfold Sz;omega
 unfold f169
 rw[ZX H (by omega)]
 simp only[Option.bind_some]
 have e:iter aA eS (((),(),((H.length:Nat):Int),0,()),((x.1,x.2.1,x.2.2,()),H,()),())=_:=
  iU H (fun y=>decide (kH y=kH x)) (fun j=>(((),(),((H.length:Nat):Int),((j:Nat):Int),()),((x.1,x.2.1,x.2.2,()),H,()),())) (fun j=>((((j:Nat):Int),()),((x.1,x.2.1,x.2.2,()),H,()),()))
   (y:=((),((x.1,x.2.1,x.2.2,()),H,()),())) (fun j h=>by
    simp only[eS,jE,eO h,fe,cond_true,Bool.and_self,Int.toNat_natCast,Io h,decide_eq_true h,nx h hS,qe,Option.bind_some,Dz];rfl)
   (by simp only[eS,jE,nG,cond_false]) (fuel:=aA) (by unfold aA;omega)
 rw[e]
 have hins:∀ (l:List HT),l.length≤1000→gO l ((l.findIdx (kI kH (x.1,x.2.1)):Nat):Int) [(x.1,x.2.1,x.2.2)]=some (Db kH l x):=fun l hl=>Eo l hl x
 by_cases hlt:H.findIdx (fun y=>decide (kH y=kH x))<H.length
 ·rw[if_pos hlt]
  simp only[Option.bind_some]
  rw[decide_eq_false (show ¬ ((H.findIdx (fun y=>decide (kH y=kH x)):Nat):Int) = -1 by omega),nx hlt hS]
  simp only[cond_false]
  obtain⟨k,l',k1,k2,k3,k4⟩:=GM (u:=e7) (fun y:HT=>decide (kH y=kH x)) (fun i j l=>(((),(),((i:Nat):Int),((j:Nat):Int),()),((x.1,x.2.1,x.2.2,()),l,()),()))
   (fun i l=>(((),((i:Nat):Int),()),((x.1,x.2.1,x.2.2,()),l,()),())) H (fun i j l h hi hN=>by
    have hsz:l.length≤9223372036854775807:=by omega
    simp only[e7,j4,eO h,fe,cond_true,Bool.and_self,Int.toNat_natCast,Io h,decide_eq_true h,nx h hsz,qe,Option.bind_some,Dz]
    show cond (!decide (kH l[j]=kH x)) _ _=_
    by_cases hd:kH l[j]=kH x
    ·rw[decide_eq_true hd];simp only[Bool.not_true,cond_false,if_true]
    ·rw[decide_eq_false hd,eO (show i<l.length by omega),decide_eq_true (show i<l.length by omega),nx (show i<l.length by omega) hsz];rfl)
   (fun i l h=>by simp only[e7,j4,nG,cond_false]) (by unfold aA;omega) hlt
  rw[k1]
  simp only[Option.bind_some,Nat.sub_zero,Nat.zero_add,Int.zero_add,Int.toNat_natCast,fe,Bool.true_and,qe]
  have hk:k≤l'.length:=by rw[k2,k4];exact List.length_filter_le _ _
  have hlen:(l'.take k++List.replicate (l'.length-k) ((0,0,0):HT)++l'.drop (k+(l'.length-k))).length=l'.length:=by
   simp only[List.length_append,List.length_take,List.length_replicate,List.length_drop];omega
  rw[bh hk,bh (Nat.le_refl l'.length)]
  simp only[Bool.and_self,cond_true,hlen]
  rw[bh hk]
  simp only[cond_true]
  have hfin:(l'.take k++List.replicate (l'.length-k) ((0,0,0):HT)++l'.drop (k+(l'.length-k))).take k=H.filter fun y=>!decide (kH y=kH x):=by
   rw[List.append_assoc,List.take_append_of_le_length (by rw[List.length_take];omega),List.take_take,Nat.min_self,k3]
  have hlf:(H.filter fun y=>!decide (kH y=kH x)).length≤H.length:=List.length_filter_le _ _
  rw[hfin,List.drop_zero,GG _ (by unfold Sz;omega)]
  simp only[Option.bind_some]
  rw[hins (H.filter fun y=>!decide (kH y=kH x)) (by omega)];rfl
 ·rw[if_neg hlt]
  simp only[Option.bind_some,qe]
  have hfil:(H.filter fun y=>!decide (kH y=kH x))=H:=by
   rw[List.filter_eq_self]
   intro y hy
   rw[List.findIdx_lt_length] at hlt
   cases hd:decide (kH y=kH x) with
   | false=>rfl
   | true=>exact absurd ⟨y,hy,hd⟩ hlt
  rw[GG _ hS]
  simp only[Option.bind_some]
  rw[hins H (by omega)]
  unfold w5
  rw[hfil];rfl
theorem PS (a b c d e:Int):f160 a b c d e=some (((b,c),a,b,c,d,e),()):=by unfold f160;rfl
theorem GC (l:List LT)(hl:l.length≤1000):f170 l=some (ju l,()):=by
 unfold f170
 let acc:Nat→List Int:=fun j=>(l.take j).map (·.2.1)
 have ha:∀ j,j≤l.length→(acc j).length=j:=fun j h=>by simp only[acc,List.length_map,List.length_take];omega
 have e:iter aA uo ((l,((l.length:Nat):Int),0,()),(),[],())=_:=uL (fun j=>((l,((l.length:Nat):Int),((j:Nat):Int),()),(),acc j,())) (n:=l.length) (y:=((),(),acc l.length,())) (fun j hj=>by
   have h1:=ha j (by omega)
   have hacc:acc (j+1)=acc j++[l[j].2.1]:=by
    simp only[acc]
    rw[bX hj,List.map_append];rfl
   simp only[uo,EG,eO hj,fe,Bool.and_self,cond_true,Int.toNat_natCast,nx hj (show l.length≤9223372036854775807 by omega),hacc,PS,Option.bind_some,UK hj]
   rw[decide_eq_true (show ((acc j).length+1) * 8≤140737488355328 by omega),decide_eq_true (show (acc j).length+1≤9223372036854775807 by omega)]
   rfl) (by simp only[uo,EG,nG,cond_false]) 0 aA (by omega) (by unfold aA;omega)
 have hfin:acc l.length=l.map (·.2.1):=by simp only[acc,List.take_length]
 rw[e]
 simp only[Option.bind_some,hfin]
 have hS:DB (l.map (·.2.1))=some ((l.map (·.2.1)).mergeSort fun x y=>decide (x≤y)):=by
  unfold DB
  rw[show nE (List.length (l.map (·.2.1))) 4611686018427387904=true from by rw[List.length_map];exact Nat.ble_eq_true_of_le (by omega)];rfl
 have hlen:((l.map (·.2.1)).mergeSort fun x y=>decide (x≤y)).length=(l.map (·.2.1)).length:=List.length_mergeSort _
 have hC:mM ((l.map (·.2.1)).mergeSort fun x y=>decide (x≤y))=some (ju l):=by
  unfold mM ju
  rw[show nE (List.length ((l.map (·.2.1)).mergeSort fun x y=>decide (x≤y))) 4611686018427387904=true from by rw[hlen,List.length_map];exact Nat.ble_eq_true_of_le (by omega)];rfl
 rw[hS]
 simp only[Option.bind_some,hlen,Nat.beq_refl,Bool.and_self,cond_true,hC]
theorem P7 {α β γ:Type}{u:α→Option (R3 α β γ)}(st:Nat→α)(p:Nat→Bool){n:Nat}{y:β}{z:γ}(hs:∀ j,j<n→u (st j)=cond (p j) (some (.ret z)) (some (.next (st (j+1)))))(he:u (st n)=some (.out y))(hn:n<aA) :
  iter aA u (st 0)=some (cond ((List.range n).any p) (.inr z) (.inl y)):=by
 have:=vN st p hs he 0 aA (Nat.zero_le _) (by omega)
 rw[this,Nat.sub_zero,List.range_eq_range']
theorem getD_lt {l:List HT}{j:Nat}(h:j<l.length):l.getD j (0,0,0)=l[j]:=by
 rw[List.getD_eq_getElem?_getD,List.getElem?_eq_getElem h];rfl
theorem GY {out:Int}(P:List HT)(hP:cv P out)(v1 v3 v4 v5 v6:Int)(busy:List Int)(but:Int)(p:HT) :
  f234 v1 out v3 v4 v5 v6 busy P but p.1 p.2.1 p.2.2=some (sW P out but p,()):=by
 unfold f234 sW
 rw[OG p out hP.YS hP.UO]
 simp only[Option.bind_some]
 by_cases hf:iJ p out
 case neg=>rw[decide_eq_false hf,if_pos hf];rfl
 rw[decide_eq_true hf,if_neg (fun h=>h hf)]
 simp only[Bool.not_true,cond_false]
 have hl:=hP.len
 have hsz:P.length≤9223372036854775807:=by omega
 have e:=P7 (u:=qF) (fun j=>((P,but,(),P,((P.length:Nat):Int),((j:Nat):Int),()),((p.1,p.2.1,p.2.2,()),()),()))
  (fun j=>!decide ((j:Int)=but)&&iL p (P.getD j (0,0,0))) (n:=P.length) (y:=((P,but,()),(),())) (z:=((11,()),(),()))
  (fun j hj=>by
   simp only[qF,EH,eO hj,fe,cond_true,Bool.and_self,Int.toNat_natCast,Io hj,nx hj hsz,K8 hf (hP.fits _ (List.getElem_mem hj)) hP.UO,Option.bind_some,getD_lt hj]
   by_cases hb:(j:Int)=but
   ·rw[decide_eq_true hb];rfl
   ·rw[decide_eq_false hb]
    cases iL p P[j]<;>rfl)
  (by simp only[qF,EH,nG,cond_false]) (by unfold aA;omega)
 have e':iter aA qF ((P,but,(),P,((P.length:Nat):Int),0,()),((p.1,p.2.1,p.2.2,()),()),())=_:=e
 rw[e']
 cases ha:(List.range P.length).any (fun j=>!decide ((j:Int)=but)&&iL p (P.getD j (0,0,0))) with
 | true=>rfl
 | false=>
  simp only[cond_false,Option.bind_some,Bool.false_eq_true,if_false]
  by_cases hb:but = -1
  ·by_cases h3:P.length=3
   ·rw[decide_eq_true hb,decide_eq_true (show ((P.length:Nat):Int)=3 by omega),if_pos ⟨hb,h3⟩];rfl
   ·rw[decide_eq_true hb,decide_eq_false (show ¬ ((P.length:Nat):Int)=3 by omega),if_neg (fun h=>h3 h.2)];rfl
  ·rw[decide_eq_false hb,if_neg (fun h=>hb h.1)];rfl
section
variable {out:Int}{P:List HT}
theorem Pz (hS:P.length≤1000)(a n:Int):f171 P out a n=some ((D3 P out a n).1,(D3 P out a n).2,()):=by
 unfold f171 f201 f214 D3
 rw[WQ P hS]
 simp only[Option.bind_some,uF,decide_true,Bool.not_true,cond_false,cond_true]
 by_cases hP:cv P out
 case neg=>
  rw[decide_eq_false hP,if_pos hP];rfl
 rw[decide_eq_true hP,if_neg (fun h=>h hP)]
 have h158:=GY P hP 0 0 a n 0 [] (-1) (a,n,0)
 simp only[Bool.not_true,cond_false]
 simp only at h158
 simp only[h158,Option.bind_some]
 by_cases he:sW P out (-1) (a,n,0)=0
 ·rw[if_neg (fun h=>h he),decide_eq_true he,decide_eq_true (show (P.length+1) * 24≤140737488355328 by omega),decide_eq_true (show P.length+1≤9223372036854775807 by omega)]
  rfl
 ·rw[if_pos he,decide_eq_false he];rfl
theorem oS {k:Int}(h0:0≤k)(h1:k<(P.length:Int)):rd (.pair (.int .i64) (.pair (.int .i64) (.int .i64))) P (Int.toNat k)=cj P k:=by
 have hk:k.toNat<P.length:=by omega
 rw[Io hk]
 exact (getD_lt hk).symm
theorem Q6 (hS:P.length≤1000)(k:Int):f172 P out k=some ((lB P out k).1,(lB P out k).2,()):=by
 unfold f172 f201 f214 lB
 rw[WQ P hS]
 simp only[Option.bind_some,uF]
 by_cases hP:cv P out
 case neg=>rw[decide_eq_false hP,if_pos hP];rfl
 rw[decide_eq_true hP,if_neg (fun h=>h hP)]
 by_cases h0:k<0
 ·rw[decide_eq_true h0,if_pos (.inl h0)];rfl
 by_cases h1:(P.length:Int)≤k
 ·rw[decide_eq_false h0,decide_eq_true h1,if_pos (.inr h1)];rfl
 rw[decide_eq_false h0,decide_eq_false h1,if_neg (by rintro (h|h);exact h0 h;exact h1 h)]
 rw[oS (P:=P) (k:=k) (by omega) (by omega),decide_eq_true (show (0:Int)≤k by omega),decide_eq_true (show k<((P.length:Nat):Int) by omega)]
 by_cases h2:(cj P k).2.2=1
 ·rw[decide_eq_true h2,if_pos h2];rfl
 ·rw[decide_eq_false h2,if_neg h2]
  have hk:k.toNat<P.length:=by omega
  simp only[decide_eq_true hk]
  rfl
theorem Xx (hP:cv P out){k:Int}(h0:0≤k)(h1:k<(P.length:Int))(busy:List Int)(hb:Sz busy)(v1 n:Int)(q:HT) :
  iter aA dw ((busy,(),((busy.length:Nat):Int),0,()),((v1,out,k,0,n,0,busy,()),(P,()),(q.1,q.2.1,q.2.2,()),(q.1,q.2.1,q.2.2,()),()),()) =
  some (if busy.findIdx (fun at'=>hasB (cj P k) at' && !hasB q at')<busy.length then .inr ((((busy.findIdx (fun at'=>hasB (cj P k) at' && !hasB q at'):Nat):Int),()),((v1,out,k,0,n,0,busy,()),(P,()),(q.1,q.2.1,q.2.2,()),(q.1,q.2.1,q.2.2,()),()),())
   else .inl ((),((v1,out,k,0,n,0,busy,()),(P,()),(q.1,q.2.1,q.2.2,()),(q.1,q.2.1,q.2.2,()),()),())):=
 iU busy (fun at'=>hasB (cj P k) at' && !hasB q at') (fun j=>((busy,(),((busy.length:Nat):Int),((j:Nat):Int),()),((v1,out,k,0,n,0,busy,()),(P,()),(q.1,q.2.1,q.2.2,()),(q.1,q.2.1,q.2.2,()),()),()))
  (fun j=>((((j:Nat):Int),()),((v1,out,k,0,n,0,busy,()),(P,()),(q.1,q.2.1,q.2.2,()),(q.1,q.2.1,q.2.2,()),()),()))
  (y:=((),((v1,out,k,0,n,0,busy,()),(P,()),(q.1,q.2.1,q.2.2,()),(q.1,q.2.1,q.2.2,()),()),()))
  (fun j h=>by
   have e1:hasB ((cj P k).1,(cj P k).2.1,(cj P k).2.2) busy[j]=hasB (cj P k) busy[j]:=rfl
   have e2:hasB (q.1,q.2.1,q.2.2) busy[j]=hasB q busy[j]:=rfl
   simp only[dw,jR,eO h,fe,cond_true,Bool.and_self,Int.toNat_natCast,ZP h,nx h hb,decide_eq_true h0,decide_eq_true h1,oS h0 h1,An,Option.bind_some,e1,e2]
   cases hasB (cj P k) busy[j]<;>cases hasB q busy[j]<;>rfl)
  (by simp only[dw,jR,nG,cond_false]) (fuel:=aA) (by unfold aA;unfold Sz at hb;omega)
theorem XY (hP:cv P out){k:Int}(h0:0≤k)(h1:k<(P.length:Int))(busy:List Int)(hb:Sz busy)(v1:Int) :
  iter aA dy ((busy,(),((busy.length:Nat):Int),0,()),((v1,out,k,0,0,0,busy,()),(P,()),(0,0,0,()),()),()) =
  some (if busy.findIdx (fun at'=>hasB (cj P k) at' && !hasB (0,0,0) at')<busy.length then .inr ((((busy.findIdx (fun at'=>hasB (cj P k) at' && !hasB (0,0,0) at'):Nat):Int),()),((v1,out,k,0,0,0,busy,()),(P,()),(0,0,0,()),()),())
   else .inl ((),((v1,out,k,0,0,0,busy,()),(P,()),(0,0,0,()),()),())):=
 iU busy (fun at'=>hasB (cj P k) at' && !hasB (0,0,0) at') (fun j=>((busy,(),((busy.length:Nat):Int),((j:Nat):Int),()),((v1,out,k,0,0,0,busy,()),(P,()),(0,0,0,()),()),()))
  (fun j=>((((j:Nat):Int),()),((v1,out,k,0,0,0,busy,()),(P,()),(0,0,0,()),()),()))
  (y:=((),((v1,out,k,0,0,0,busy,()),(P,()),(0,0,0,()),()),()))
  (fun j h=>by
   have e1:hasB ((cj P k).1,(cj P k).2.1,(cj P k).2.2) busy[j]=hasB (cj P k) busy[j]:=rfl
   simp only[dy,jT,eO h,fe,cond_true,Bool.and_self,Int.toNat_natCast,ZP h,nx h hb,decide_eq_true h0,decide_eq_true h1,oS h0 h1,An,Option.bind_some,e1]
   cases hasB (cj P k) busy[j]<;>cases hasB (0,0,0) busy[j]<;>rfl)
  (by simp only[dy,jT,nG,cond_false]) (fuel:=aA) (by unfold aA;unfold Sz at hb;omega)
theorem tQ {α:Type}(l:List α)(q:α→Bool):l.findIdx q<l.length↔l.any q=true:=by
 rw[List.findIdx_lt_length,List.any_eq_true]
theorem PX (hS:P.length≤1000)(k n:Int)(busy:List Int)(hb:Sz busy):f173 P out k n busy=some ((sg P out k n busy).1,(sg P out k n busy).2,()):=by
 unfold f173 f201 f214 sg
 rw[WQ P hS]
 simp only[Option.bind_some,uF]
 by_cases hP:cv P out
 case neg=>rw[decide_eq_false hP,if_pos hP];rfl
 rw[decide_eq_true hP,if_neg (fun h=>h hP)]
 by_cases h0:k<0
 ·rw[decide_eq_true h0,if_pos (.inl h0)];rfl
 by_cases h1:(P.length:Int)≤k
 ·rw[decide_eq_false h0,decide_eq_true h1,if_pos (.inr h1)];rfl
 rw[decide_eq_false h0,decide_eq_false h1,if_neg (by rintro (h|h);exact h0 h;exact h1 h)]
 have g0:(0:Int)≤k:=by omega
 have g1:k<((P.length:Nat):Int):=by omega
 rw[oS (P:=P) (k:=k) g0 g1,decide_eq_true g0,decide_eq_true g1]
 have h158:=GY P hP 2 k 0 n 0 busy k ((cj P k).1,n,(cj P k).2.2)
 simp only at h158
 have d1:decide ((2:Int)=0)=false:=rfl
 have d2:decide ((2:Int)=1)=false:=rfl
 have d3:decide ((2:Int)=2)=true:=rfl
 simp only[d1,d2,decide_true,Bool.not_false,Bool.not_true,cond_true,cond_false,Bool.and_self,h158,Option.bind_some]
 by_cases he:sW P out k ((cj P k).1,n,(cj P k).2.2)=0
 case neg=>rw[if_pos he,decide_eq_false he];simp only[Bool.not_false,cond_true,Option.bind_some,decide_eq_false he]
 rw[if_neg (fun h=>h he),decide_eq_true he,Xx hP g0 g1 busy hb 2 n ((cj P k).1,n,(cj P k).2.2)]
 unfold Hi
 simp only[Bool.not_true,cond_false]
 by_cases hl:busy.any (fun at'=>hasB (cj P k) at' && !hasB ((cj P k).1,n,(cj P k).2.2) at')=true
 ·rw[if_pos ((tQ busy _).2 hl),if_pos hl]
  simp only[Option.bind_some,fe,cond_true]
  rfl
 ·rw[if_neg (fun h=>hl ((tQ busy _).1 h)),if_neg hl]
  have hk:k.toNat<P.length:=by omega
  simp only[Option.bind_some,decide_true,Bool.not_true,cond_false,decide_eq_true hk,cond_true]
theorem Qi (hS:P.length≤1000)(k:Int)(busy:List Int)(hb:Sz busy):f174 P out k busy=some ((sD P out k busy).1,(sD P out k busy).2,()):=by
 unfold f174 f201 f214 sD
 rw[WQ P hS]
 simp only[Option.bind_some,uF]
 by_cases hP:cv P out
 case neg=>rw[decide_eq_false hP,if_pos hP];rfl
 rw[decide_eq_true hP,if_neg (fun h=>h hP)]
 by_cases h0:k<0
 ·rw[decide_eq_true h0,if_pos (.inl h0)];rfl
 by_cases h1:(P.length:Int)≤k
 ·rw[decide_eq_false h0,decide_eq_true h1,if_pos (.inr h1)];rfl
 rw[decide_eq_false h0,decide_eq_false h1,if_neg (by rintro (h|h);exact h0 h;exact h1 h)]
 have g0:(0:Int)≤k:=by omega
 have g1:k<((P.length:Nat):Int):=by omega
 rw[oS (P:=P) (k:=k) g0 g1,decide_eq_true g0,decide_eq_true g1]
 have d1:decide ((3:Int)=0)=false:=rfl
 have d2:decide ((3:Int)=1)=false:=rfl
 have d3:decide ((3:Int)=2)=false:=rfl
 have d4:decide ((3:Int)=3)=true:=rfl
 simp only[d1,d2,d3,decide_true,Bool.not_false,Bool.not_true,cond_true,cond_false,Bool.and_self,Option.bind_some]
 by_cases he:(cj P k).2.2=0
 ·rw[if_pos (.inl he),decide_eq_true he];rfl
 rw[decide_eq_false he,XY hP g0 g1 busy hb 3]
 unfold Hi
 simp only[cond_false]
 by_cases hl:busy.any (fun at'=>hasB (cj P k) at' && !hasB (0,0,0) at')=true
 ·rw[if_pos ((tQ busy _).2 hl),if_pos (.inr hl)]
  simp only[Option.bind_some,fe,cond_true]
  rfl
 rw[if_neg (fun h=>hl ((tQ busy _).1 h)),if_neg (by rintro (h|h);exact he h;exact hl h)]
 have hk:k.toNat<P.length:=by omega
 obtain⟨i,rfl⟩:∃ i:Nat,k=(i:Int):=⟨k.toNat,by omega⟩
 have hlt:i<P.length:=by omega
 simp only[Option.bind_some,decide_true,Bool.not_true,cond_false]
 rw[nx hlt (by omega)]
 simp only[cond_false,Nat.zero_add,Nat.sub_zero,Int.toNat_natCast,List.take_length,fe,Int.zero_add,Bool.true_and,List.length_drop,List.drop_zero]
 rw[decide_eq_true (show ((i:Nat):Int)≤((i+1:Nat):Int) by omega),bh (show i+1≤P.length by omega),bh (Nat.le_refl P.length),decide_eq_false (show ¬ ((i:Nat):Int)=((i+1:Nat):Int) by omega),bh (show i≤P.length by omega)]
 simp only[Bool.and_self,cond_true,cond_false]
 rw[decide_eq_true (show i+(P.length-(i+1))≤P.length by omega)]
 have hlen:(P.take i++P.drop (i+1)++P.drop (i+(P.length-(i+1)))).length=P.length:=by
  simp only[List.length_append,List.length_take,List.length_drop];omega
 simp only[cond_true,hlen]
 rw[bh (show i+(P.length-(i+1))≤P.length by omega),bh (Nat.le_refl P.length)]
 simp only[Bool.and_self,cond_true,Option.bind_some]
 congr 2
 rw[List.eraseIdx_eq_take_drop_succ]
 have hn:(P.take i++P.drop (i+1)).length=i+(P.length-(i+1)):=by
  simp only[List.length_append,List.length_take,List.length_drop];omega
 have e1:(P.take i++P.drop (i+1)++P.drop (i+(P.length-(i+1)))).take (i+(P.length-(i+1)))=P.take i++P.drop (i+1):=List.take_left' hn
 rw[e1,List.append_assoc,List.take_left' hn]
end
theorem HF (a b c:Int):f104 a b c=some (decide (fK a b c),()):=by
 unfold f104 fK
 by_cases h:b≤a
 ·simp[h]
 ·simp[h]
theorem T0 (p q r:Prop)[Decidable p][Decidable q][Decidable r]:(cond (decide p) (cond (decide q) (some (decide r,())) (some (false,()))) (some (false,())):Option (Bool×Unit))=some (decide (p∧q∧r),()):=by
 by_cases hp:p<;>by_cases hq:q<;>simp[hp,hq]
theorem mc (e:ET):f98 e.1 e.2.1 e.2.2.1 e.2.2.2.1 e.2.2.2.2.1 e.2.2.2.2.2.1 e.2.2.2.2.2.2.1 e.2.2.2.2.2.2.2.1 e.2.2.2.2.2.2.2.2=some (decide (ef e),()):=by
 obtain⟨k,at',a,b,c,q,i,o,p⟩:=e
 have h39:=Km (q,i,o,p)
 simp only at h39 ⊢
 unfold f98
 simp only[HF,h39,Option.bind_some,T0]
 by_cases hat:fK at' 0 1073741824
 case neg=>
  rw[decide_eq_false hat,decide_eq_false (fun h:ef _=>hat h.1)];rfl
 rw[decide_eq_true hat]
 simp only[Bool.not_true,cond_false]
 by_cases h6:k=6
 ·subst h6
  have d0:decide ((6:Int)=0)=false:=rfl
  have d1:decide ((6:Int)=1)=false:=rfl
  have d2:decide ((6:Int)=2)=false:=rfl
  have d3:decide ((6:Int)=3)=false:=rfl
  have d4:decide ((6:Int)=4)=false:=rfl
  have d5:decide ((6:Int)=5)=false:=rfl
  simp only[d0,d1,d2,d3,d4,d5,decide_true,Bool.not_true,cond_true,cond_false]
  by_cases hp:wh (q,i,o,p)
  ·rw[decide_eq_true hp]
   simp only[Bool.not_true,cond_false]
   have:(fK a 0 0∧fK b 0 0∧fK c 0 0)↔ef (6,at',a,b,c,q,i,o,p):=by
    unfold ef fE
    simp[hat,hp]
   rw[decide_eq_decide.2 this]
  ·rw[decide_eq_false hp]
   have:¬ ef (6,at',a,b,c,q,i,o,p):=by
    unfold ef fE
    simp[hp]
   rw[decide_eq_false this];rfl
 ·rw[decide_eq_false h6]
  simp only[Bool.not_false,cond_true]
  by_cases hz:(q,i,o,p)=((0,0,0,false):PT)
  case neg=>
   have:(decide (q=0)&&(decide (i=0)&&(decide (o=0)&&((p == false)&&true))))=false:=by
    rw[Bool.eq_false_iff]
    intro h
    simp only[Bool.and_eq_true,decide_eq_true_eq,beq_iff_eq] at h
    exact hz (by rw[h.1,h.2.1,h.2.2.1,h.2.2.2.1])
   rw[this,decide_eq_false (fun h:ef _=>hz (h.2.1 h6))];rfl
  have hz':=hz
  simp only[Prod.mk.injEq] at hz'
  obtain⟨rfl,rfl,rfl,rfl⟩:=hz'
  have e1:(decide ((0:Int)=0)&&(decide ((0:Int)=0)&&(decide ((0:Int)=0)&&((false == false)&&true))))=true:=rfl
  rw[e1]
  simp only[Bool.not_true,cond_false]
  have fin:∀ (X:Prop) [Decidable X],(X↔fE k a b c (0,0,0,false))→decide X=decide (ef (k,at',a,b,c,0,0,0,false)):=fun X _ h=>by
   rw[decide_eq_decide,h]
   unfold ef
   simp[hat]
  by_cases k0:k=0
  ·subst k0;rw[← fin (fK a 0 31∧fK b 0 3∧fK c 0 7) (by unfold fE;simp)];rfl
  rw[decide_eq_false k0]
  simp only[cond_false]
  by_cases k1:k=1
  ·subst k1;rw[← fin (fK a 0 31∧fK b 0 3∧fK c 0 7) (by unfold fE;simp)];rfl
  rw[decide_eq_false k1]
  simp only[cond_false]
  by_cases k2:k=2
  ·subst k2;rw[← fin (fK a 0 3∧fK b 1 4∧fK c 0 0) (by unfold fE;simp)];rfl
  rw[decide_eq_false k2]
  simp only[cond_false]
  by_cases k4:k=4
  ·subst k4;rw[← fin (fK a 0 2∧fK b 1 4∧fK c 0 0) (by unfold fE;simp)];rfl
  rw[decide_eq_false k4]
  simp only[cond_false]
  by_cases k3:k=3
  ·subst k3;rw[← fin (fK a 0 2∧fK b 0 0∧fK c 0 0) (by unfold fE;simp)];rfl
  rw[decide_eq_false k3]
  simp only[cond_false]
  by_cases k5:k=5
  ·subst k5;rw[← fin (fK a 0 2∧fK b 0 0∧fK c 0 0) (by unfold fE;simp)];rfl
  rw[decide_eq_false k5]
  simp only[cond_false]
  have:¬ ef (k,at',a,b,c,0,0,0,false):=by
   unfold ef fE
   simp[k0,k1,k2,k3,k4,k5,h6]
  rw[decide_eq_false this]
theorem IG {s:ST}{now:Int}(h:Sm s):Sm (dL s now):=by
 refine⟨h.p,?_,?_⟩
 ·show (kV s.2.2.2.2.1 now).length≤1000
  rw[oU];exact h.l
 ·show (ur s.2.2.2.2.2 now).length≤1000
  exact Nat.le_trans (List.length_filter_le _ _) h.h
theorem Kv (L:List LT)(x:LT):(A9 L x).1.length≤L.length+1:=by
 unfold A9
 split
 ·exact Nat.le_succ _
 ·exact Nat.le_of_eq (Dc L x)
theorem Ks (L:List LT)(a b:Int):(EX L a b).length≤L.length:=by
 unfold EX
 exact (List.eraseIdx_sublist _ _).length_le
theorem Jn (H:List HT)(x:HT):(w5 H x).length≤H.length+1:=by
 unfold w5
 rw[Dc]
 have:=List.length_filter_le (fun y=>!decide (kH y=kH x)) H
 omega
theorem O3 (P:List HT)(out a n:Int):(D3 P out a n).1.length≤P.length+1:=by
 unfold D3;repeat' split
 all_goals simp
theorem EK (P:List HT)(out k:Int):(lB P out k).1.length≤P.length:=by
 unfold lB;repeat' split
 all_goals simp
theorem JG (P:List HT)(out k n:Int)(b:List Int):(sg P out k n b).1.length≤P.length:=by
 unfold sg;repeat' split
 all_goals simp
theorem IF (P:List HT)(out k:Int)(b:List Int):(sD P out k b).1.length≤P.length:=by
 unfold sD;repeat' split
 all_goals first|(exact (List.eraseIdx_sublist _ _).length_le)|simp
theorem Uh (s:ST)(t:ST)(h:Sm s)(ht:Sm t) :
  ((f11 t.1.1.1 t.1.1.2 t.1.2.1.1 t.1.2.1.2 t.1.2.2.1 t.1.2.2.2.1 t.1.2.2.2.2.1 t.1.2.2.2.2.2 t.2.1.1 t.2.1.2.1 t.2.1.2.2.1 t.2.1.2.2.2 t.2.2.1 t.2.2.2.1 t.2.2.2.2.1 t.2.2.2.2.2).bind fun y=>
   cond (!y.1) ((f42 s.1.1.1 s.1.1.2 s.1.2.1.1 s.1.2.1.2 s.1.2.2.1 s.1.2.2.2.1 s.1.2.2.2.2.1 s.1.2.2.2.2.2 s.2.1.1 s.2.1.2.1 s.2.1.2.2.1 s.2.1.2.2.2 s.2.2.1 s.2.2.2.1 s.2.2.2.2.1 s.2.2.2.2.2).bind fun y35=>
    some ((((y35.1.1.1.1,y35.1.1.1.2),(y35.1.1.2.1.1,y35.1.1.2.1.2),y35.1.1.2.2.1,y35.1.1.2.2.2.1,y35.1.1.2.2.2.2.1,y35.1.1.2.2.2.2.2),(y35.1.2.1.1,y35.1.2.1.2.1,y35.1.2.1.2.2.1,y35.1.2.1.2.2.2),y35.1.2.2.1,y35.1.2.2.2.1,y35.1.2.2.2.2.1,y35.1.2.2.2.2.2),(2:Int),()))
    (some (t,(0:Int),())))=some ((if bR t then (t,(0:Int)) else (s,2)).1,(if bR t then (t,(0:Int)) else (s,2)).2,()):=by
 rw[uj t ht.WX ht.Wq ht.WN,yG s h]
 simp only[Option.bind_some]
 by_cases hm:bR t
 ·rw[decide_eq_true hm,if_pos hm];rfl
 ·rw[decide_eq_false hm,if_neg hm];rfl
theorem Wc (s:ST)(e:ET)(hp:s.2.2.2.1.length≤900)(hl:s.2.2.2.2.1.length≤900)(hh:s.2.2.2.2.2.length≤900) :
  f43 s.1.1.1 s.1.1.2 s.1.2.1.1 s.1.2.1.2 s.1.2.2.1 s.1.2.2.2.1 s.1.2.2.2.2.1 s.1.2.2.2.2.2 s.2.1.1 s.2.1.2.1 s.2.1.2.2.1 s.2.1.2.2.2 s.2.2.1 s.2.2.2.1 s.2.2.2.2.1 s.2.2.2.2.2
   e.1 e.2.1 e.2.2.1 e.2.2.2.1 e.2.2.2.2.1 e.2.2.2.2.2.1 e.2.2.2.2.2.2.1 e.2.2.2.2.2.2.2.1 e.2.2.2.2.2.2.2.2=some ((bG s e).1,(bG s e).2,()):=by
 have h:Sm s:=⟨by omega,by omega,by omega⟩
 have h20:=yG s h
 unfold f43 bG
 rw[uj s h.WX h.Wq h.WN]
 simp only[Option.bind_some]
 by_cases hM:bR s
 case neg=>rw[decide_eq_false hM,if_pos (.inl hM),h20];rfl
 rw[decide_eq_true hM,mc]
 simp only[Option.bind_some,Bool.not_true,cond_false]
 by_cases hE:ef e
 case neg=>rw[decide_eq_false hE,if_pos (.inr hE),h20];rfl
 rw[decide_eq_true hE,if_neg (by rintro (k|k);exact k hM;exact k hE),Vz s _ h]
 simp only[Option.bind_some,Bool.not_true,cond_false]
 by_cases hC:gw s e.2.1
 case neg=>
  have:settle s e.2.1=(s,false):=by unfold settle;rw[if_neg hC]
  rw[this,if_pos hC]
  simp only[Bool.not_false,cond_true,h20];rfl
 have hs:settle s e.2.1=(dL s e.2.1,true):=by unfold settle;rw[if_pos hC]
 rw[hs,if_neg (fun k=>k hC)]
 simp only[Bool.not_true,cond_false]
 have hK:=Uh s
 have hSm:Sm (dL s e.2.1):=IG h
 have hL9:(dL s e.2.1).2.2.2.2.1.length≤900:=by
  show (kV s.2.2.2.2.1 e.2.1).length≤900
  rw[oU];exact hl
 have hP9:(dL s e.2.1).2.2.2.1.length≤900:=hp
 have hH9:(dL s e.2.1).2.2.2.2.2.length≤900:=Nat.le_trans (List.length_filter_le _ _) hh
 have hpol:(dL s e.2.1).2.1=s.2.1:=rfl
 have hnow:(dL s e.2.1).2.2.1=e.2.1:=rfl
 generalize dL s e.2.1=t at hSm hL9 hP9 hH9 hpol hnow ⊢
 unfold CW
 by_cases k0:e.1=0
 ·rw[decide_eq_true k0,if_pos k0]
  simp only[cond_true]
  have h109:=Qm t.2.2.2.2.1 hSm.l (e.2.2.1,e.2.2.2.1,e.2.2.2.2.1,e.2.1,e.2.1)
  simp only at h109
  rw[h109]
  simp only[Option.bind_some]
  cases hb:(A9 t.2.2.2.2.1 (e.2.2.1,e.2.2.2.1,e.2.2.2.2.1,e.2.1,e.2.1)).2 with
  | false=>simp only[Bool.not_false,cond_true,h20,Bool.false_eq_true,if_false];rfl
  | true=>
   simp only[Bool.not_true,cond_false,if_true]
   have hlen:=Kv t.2.2.2.2.1 (e.2.2.1,e.2.2.2.1,e.2.2.2.2.1,e.2.1,e.2.1)
   exact hK (YQ t (A9 t.2.2.2.2.1 (e.2.2.1,e.2.2.2.1,e.2.2.2.2.1,e.2.1,e.2.1)).1) h ⟨hSm.p,Nat.le_trans hlen (by omega),hSm.h⟩
 rw[decide_eq_false k0,if_neg k0]
 simp only[cond_false]
 by_cases k1:e.1=1
 ·rw[decide_eq_true k1,if_pos k1]
  simp only[cond_true]
  unfold J8
  rw[zq _ hSm.Wq]
  simp only[Option.bind_some]
  by_cases hf:ir t.2.2.2.2.1 e.2.2.2.1 e.2.2.2.2.1 = -1
  ·rw[decide_eq_true hf,if_pos hf];simp only[cond_true,h20];rfl
  rw[decide_eq_false hf,if_neg hf]
  have hlt:t.2.2.2.2.1.findIdx (Ee e.2.2.2.1 e.2.2.2.2.1)<t.2.2.2.2.1.length:=by
   rcases Nat.lt_or_ge (t.2.2.2.2.1.findIdx (Ee e.2.2.2.1 e.2.2.2.2.1)) t.2.2.2.2.1.length with k|k
   ·exact k
   ·exact absurd (by unfold ir;rw[if_neg (by omega)]) hf
  have hfi:ir t.2.2.2.2.1 e.2.2.2.1 e.2.2.2.2.1=((t.2.2.2.2.1.findIdx (Ee e.2.2.2.1 e.2.2.2.2.1):Nat):Int):=by unfold ir;rw[if_pos hlt]
  rw[hfi,fe,eO hlt]
  simp only[Int.toNat_natCast,cond_false,Bool.and_self,cond_true]
  simp only[UK hlt]
  have hgd:t.2.2.2.2.1.getD (t.2.2.2.2.1.findIdx (Ee e.2.2.2.1 e.2.2.2.2.1)) (0,0,0,0,0)=t.2.2.2.2.1[t.2.2.2.2.1.findIdx (Ee e.2.2.2.1 e.2.2.2.2.1)]:=by
   rw[List.getD_eq_getElem?_getD,List.getElem?_eq_getElem hlt];rfl
  simp only[hgd]
  by_cases hsub:(t.2.2.2.2.1[t.2.2.2.2.1.findIdx (Ee e.2.2.2.1 e.2.2.2.2.1)]).1=e.2.2.1
  case neg=>rw[decide_eq_false hsub,if_pos hsub];simp only[Bool.not_false,cond_true,h20];rfl
  rw[decide_eq_true hsub,if_neg (fun k=>k hsub),QN _ hSm.l]
  have hhas:wD t.2.2.2.2.1 e.2.2.2.1 e.2.2.2.2.1=true:=by
   cases hb:wD t.2.2.2.2.1 e.2.2.2.1 e.2.2.2.2.1 with
   | true=>rfl
   | false=>exact absurd ((dU _ _ _).2 hb) hf
  rw[if_pos hhas]
  simp only[Bool.not_true,cond_false,Option.bind_some]
  have hdl:=Ks t.2.2.2.2.1 e.2.2.2.1 e.2.2.2.2.1
  have hP:=hM.pol
  have hA:=hC.2.2
  have hA0:=hE.1.1
  by_cases hh0:0<t.2.1.2.2.1
  ·rw[decide_eq_true hh0,if_pos hh0]
   have hw:IntKind.wrap .i64 (e.2.1+t.2.1.2.2.1)=e.2.1+t.2.1.2.2.1:=by
    rw[hpol]
    have:=hP.2.2
    exact bN (by omega) (by omega)
   have h111:=RQ t.2.2.2.2.2 hH9 (e.2.2.2.1,e.2.2.2.2.1,e.2.1+t.2.1.2.2.1)
   simp only at h111
   rw[hw]
   simp only[cond_true,h111,Option.bind_some]
   have hhl:=Jn t.2.2.2.2.2 (e.2.2.2.1,e.2.2.2.2.1,e.2.1+t.2.1.2.2.1)
   exact hK (Ka t (EX t.2.2.2.2.1 e.2.2.2.1 e.2.2.2.2.1) (w5 t.2.2.2.2.2 (e.2.2.2.1,e.2.2.2.2.1,e.2.1+t.2.1.2.2.1))) h ⟨hSm.p,Nat.le_trans hdl (by omega),Nat.le_trans hhl (by omega)⟩
  ·rw[decide_eq_false hh0,if_neg hh0]
   simp only[cond_false]
   exact hK (Ka t (EX t.2.2.2.2.1 e.2.2.2.1 e.2.2.2.2.1) t.2.2.2.2.2) h ⟨hSm.p,Nat.le_trans hdl (by omega),hSm.h⟩
 rw[decide_eq_false k1,if_neg k1]
 simp only[cond_false]
 by_cases k6:e.1=6
 ·rw[decide_eq_true k6,if_pos k6]
  simp only[cond_true]
  exact hK (NO t e.2.2.2.2.2) h ⟨hSm.p,hSm.l,hSm.h⟩
 rw[decide_eq_false k6,if_neg k6]
 simp only[cond_false]
 have hY:f62 t.1.2.1.1 t.1.2.1.2=some (og t.1,()):=iN _ _
 rw[hY,GC _ hSm.l]
 simp only[Option.bind_some]
 have hbz:Sz (ju t.2.2.2.2.1):=by
  have h1:=GC t.2.2.2.2.1 hSm.l
  unfold Sz ju
  have h2:=Lib.compact_length_le ((t.2.2.2.2.1.map (·.2.1)).mergeSort fun x y=>decide (x≤y))
  rw[List.length_mergeSort,List.length_map] at h2
  have:=hSm.l
  omega
 unfold I4
 by_cases k2:e.1=2
 ·rw[decide_eq_true k2,if_pos k2]
  simp only[cond_true]
  rw[Pz hSm.p]
  simp only[Option.bind_some]
  by_cases he:(D3 t.2.2.2.1 (og t.1) e.2.2.1 e.2.2.2.1).2=0
  ·rw[decide_eq_true he,if_pos he]
   simp only[Bool.not_true,cond_false]
   have:=O3 t.2.2.2.1 (og t.1) e.2.2.1 e.2.2.2.1
   exact hK (lP t (D3 t.2.2.2.1 (og t.1) e.2.2.1 e.2.2.2.1).1) h ⟨Nat.le_trans this (by omega),hSm.l,hSm.h⟩
  ·rw[decide_eq_false he,if_neg he];simp only[Bool.not_false,cond_true,h20];rfl
 rw[decide_eq_false k2,if_neg k2]
 simp only[cond_false]
 by_cases k3:e.1=3
 ·rw[decide_eq_true k3,if_pos k3]
  simp only[cond_true]
  rw[Q6 hSm.p]
  simp only[Option.bind_some]
  by_cases he:(lB t.2.2.2.1 (og t.1) e.2.2.1).2=0
  ·rw[decide_eq_true he,if_pos he]
   simp only[Bool.not_true,cond_false]
   have:=EK t.2.2.2.1 (og t.1) e.2.2.1
   exact hK (lP t (lB t.2.2.2.1 (og t.1) e.2.2.1).1) h ⟨Nat.le_trans this (by omega),hSm.l,hSm.h⟩
  ·rw[decide_eq_false he,if_neg he];simp only[Bool.not_false,cond_true,h20];rfl
 rw[decide_eq_false k3,if_neg k3]
 simp only[cond_false]
 by_cases k4:e.1=4
 ·rw[decide_eq_true k4,if_pos k4]
  simp only[cond_true]
  rw[PX hSm.p _ _ _ hbz]
  simp only[Option.bind_some]
  by_cases he:(sg t.2.2.2.1 (og t.1) e.2.2.1 e.2.2.2.1 (ju t.2.2.2.2.1)).2=0
  ·rw[decide_eq_true he,if_pos he]
   simp only[Bool.not_true,cond_false]
   have:=JG t.2.2.2.1 (og t.1) e.2.2.1 e.2.2.2.1 (ju t.2.2.2.2.1)
   exact hK (lP t (sg t.2.2.2.1 (og t.1) e.2.2.1 e.2.2.2.1 (ju t.2.2.2.2.1)).1) h ⟨Nat.le_trans this (by omega),hSm.l,hSm.h⟩
  ·rw[decide_eq_false he,if_neg he];simp only[Bool.not_false,cond_true,h20];rfl
 rw[decide_eq_false k4,if_neg k4]
 simp only[cond_false]
 rw[Qi hSm.p _ _ hbz]
 simp only[Option.bind_some]
 by_cases he:(sD t.2.2.2.1 (og t.1) e.2.2.1 (ju t.2.2.2.2.1)).2=0
 ·rw[decide_eq_true he,if_pos he]
  simp only[Bool.not_true,cond_false]
  have:=IF t.2.2.2.1 (og t.1) e.2.2.1 (ju t.2.2.2.2.1)
  exact hK (lP t (sD t.2.2.2.1 (og t.1) e.2.2.1 (ju t.2.2.2.2.1)).1) h ⟨Nat.le_trans this (by omega),hSm.l,hSm.h⟩
 ·rw[decide_eq_false he,if_neg he];simp only[Bool.not_false,cond_true,h20];rfl
theorem bR.sm {s:ST}(M:bR s):Sm s:=⟨by have:=M.HV.len;omega,by have:=M.len;omega,by have:=M.Vt;omega⟩
abbrev fl (s:ST):Int×Int×Int×Int×Int×Int×Int×Int×Int×Int×Int×Bool×Int×List HT×List LT×List HT×Unit:=
 (s.1.1.1,s.1.1.2,s.1.2.1.1,s.1.2.1.2,s.1.2.2.1,s.1.2.2.2.1,s.1.2.2.2.2.1,s.1.2.2.2.2.2,s.2.1.1,s.2.1.2.1,s.2.1.2.2.1,s.2.1.2.2.2,s.2.2.1,s.2.2.2.1,s.2.2.2.2.1,s.2.2.2.2.2,())
abbrev nk:Int×Int×Int×Int×Int×Int×Int×Int×Int×Int×Int×Bool×Int×Unit×Unit×Unit×Unit:=
 (0,0,0,0,0,0,0,0,0,0,0,false,0,(),(),(),())
def RY (s:ST):Prop:=s.2.2.2.1.length≤900∧s.2.2.2.2.1.length≤900∧s.2.2.2.2.2.length≤900
theorem bR.ZO {s:ST}(M:bR s):RY s:=⟨by have:=M.HV.len;omega,by have:=M.len;omega,by have:=M.Vt;omega⟩
theorem RF.ZO {s:ST}(h:RF s):RY s:=⟨by have:=h.2.2;omega,by have:=h.1;omega,by have:=h.2.1;omega⟩
theorem RY.sm {s:ST}(h:RY s):Sm s:=⟨by have:=h.1;omega,by have:=h.2.1;omega,by have:=h.2.2;omega⟩
theorem JQ {s:ST}{e:ET}(h:RY s):RY (bG s e).1:=by
 by_cases he:(bG s e).2=0
 ·exact (qO he).2.2.2.1.ZO
 ·rw[xX he];exact h
theorem rdE {l:List ET}{j:Nat}(h:j<l.length):rd (.pair (.int .i64) (.pair (.int .i64) (.pair (.int .i64) (.pair (.int .i64) (.pair (.int .i64) (.pair (.int .i64) (.pair (.int .i64) (.pair (.int .i64) .bool)))))))) l j=l[j]:=jz h
theorem NZ (s:ST)(l:List ET)(hl:l.length≤9223372036854775807):∀ (d j:Nat) (t:ST) (fuel:Nat),j+d=l.length→d<fuel→RY t →
  iter fuel sC (((),(),(),0,l,((l.length:Nat):Int),((j:Nat):Int),()),(fl s,nk,fl t,()),[],[],[],()) =
   some (.inl (((),(),(),(pG t (l.drop j)).2,()),(fl s,nk,fl (pG t (l.drop j)).1,()),[],[],[],()))
 | _,j,t,0,_,h,_=>by omega
 | 0,j,t,fuel+1,hj,_,ht=>by
  have:j=l.length:=by omega
  subst this
  rw[List.drop_length]
  refine bJ ?_
  simp only[sC,GW,nG,cond_false,fl,nk,pG]
 | d+1,j,t,fuel+1,hj,hf,ht=>by
  have hlt:j<l.length:=by omega
  have hd:l.drop j=l[j]::l.drop (j+1):=by rw[List.drop_eq_getElem_cons hlt]
  have h15:=Wc t l[j] ht.1 ht.2.1 ht.2.2
  rw[hd]
  by_cases he:(bG t l[j]).2=0
  ·have hu:sC (((),(),(),0,l,((l.length:Nat):Int),((j:Nat):Int),()),(fl s,nk,fl t,()),[],[],[],()) =
     some (.next (((),(),(),0,l,((l.length:Nat):Int),((j+1:Nat):Int),()),(fl s,nk,fl (bG t l[j]).1,()),[],[],[],())):=by
    simp only[sC,GW,fl,nk,eO hlt,fe,cond_true,Bool.and_self,Int.toNat_natCast,rdE hlt,h15,Option.bind_some,nx hlt hl,he,decide_true,Bool.not_true,cond_false]
   rw[br hu,NZ s l hl d (j+1) (bG t l[j]).1 fuel (by omega) (by omega) (JQ ht)]
   have hg:pG t (l[j]::l.drop (j+1))=pG (bG t l[j]).1 (l.drop (j+1)):=by rw[pG,if_pos he]
   rw[hg]
  ·have hg:pG t (l[j]::l.drop (j+1))=(t,(bG t l[j]).2):=by rw[pG,if_neg he]
   rw[hg]
   have hu:sC (((),(),(),0,l,((l.length:Nat):Int),((j:Nat):Int),()),(fl s,nk,fl t,()),[],[],[],()) =
     some (.out (((),(),(),(bG t l[j]).2,()),(fl s,nk,fl t,()),[],[],[],())):=by
    simp only[sC,GW,fl,nk,eO hlt,fe,cond_true,Bool.and_self,Int.toNat_natCast,rdE hlt,h15,Option.bind_some,decide_eq_false he,Bool.not_false,xX he]
   exact bJ hu
theorem EA (s:ST)(l:List ET)(h:RY s)(hl:l.length≤9223372036854775807) :
  f17 s.1.1.1 s.1.1.2 s.1.2.1.1 s.1.2.1.2 s.1.2.2.1 s.1.2.2.2.1 s.1.2.2.2.2.1 s.1.2.2.2.2.2 s.2.1.1 s.2.1.2.1 s.2.1.2.2.1 s.2.1.2.2.2 s.2.2.1 s.2.2.2.1 s.2.2.2.2.1 s.2.2.2.2.2 l=some ((dh s l).1,(dh s l).2,()):=by
 unfold f17 dh
 rw[yG s h.sm]
 simp only[Option.bind_some]
 have:=NZ s l hl l.length 0 s aA (by omega) (by unfold aA;omega) h
 rw[show (((0:Nat):Int))=0 from rfl] at this
 rw[this,List.drop_zero]
 simp only[Option.bind_some,fl]
 by_cases he:(pG s l).2=0
 ·rw[decide_eq_true he,if_pos he]
  simp only[Bool.not_true,cond_false,he]
 ·rw[decide_eq_false he,if_neg he]
  simp only[Bool.not_false,cond_true]
  rw[yG s h.sm]
  rfl
theorem x4:∀ (l m:List ET) (s:ST),pG s (l++m)=if (pG s l).2=0 then pG (pG s l).1 m else pG s l
 | [],m,s=>by simp[pG]
 | e::l,m,s=>by
  rw[List.cons_append,pG,pG]
  by_cases he:(bG s e).2=0
  ·rw[if_pos he,if_pos he,x4 l m]
  ·rw[if_neg he,if_neg he,if_neg he]
end Go.Proofs.Zz
