/- P9a, P9b, P9c, P9d, P9e, P9i. -/
import Derived.Test.YtadlmipfbockgaaGreatPU
import Derived.Test.YtadlmipfbockgaaGreatFI
namespace Go.Proofs.Zz
open Go Go.Sy
set_option linter.unusedSimpArgs false
set_option linter.unusedVariables false
theorem f143_eq (b k:Int):f143 b k=some (decide (MayP b k),()):=by
 unfold f143
 by_cases h1:0≤k
 case neg=>simp[h1,MayP]
 by_cases h2:k≤32
 case neg=>simp[h1,h2,MayP]
 by_cases h3:0≤b
 case neg=>simp[h1,h2,h3,MayP]
 by_cases h4:b<4294967296
 case neg=>simp[h1,h2,h3,h4,MayP]
 have w:IntKind.wrap .i64 (32-k)=32-k:=w64 (by omega) (by omega)
 have hneg:decide (IntKind.wrap .i64 (32-k)<0)=false:=by rw[w];simp;omega
 have hs:=szI_le h1
 have hp:=szI_pos k
 rw[shl_sz h1 h2,hneg,w64 (show -9223372036854775808≤szI k-1 by omega) (by omega)]
 obtain⟨n,rfl⟩:∃ n:Nat,b=n:=⟨b.toNat,by omega⟩
 have e:bitop .and .i64 (n:Int) (szI k-1)=(n:Int) % szI k:=by
  unfold szI
  rw[b_and_mask (by omega) (by omega)];rfl
 simp only[h1,h2,h3,h4,e,decide_true,cond_true,Bool.not_false,MayP,true_and]
theorem f116_eq (b k:Int):f116 b k=some (sizeI b k,()):=by
 unfold f116
 rw[f143_eq]
 unfold sizeI
 by_cases h:MayP b k
 ·have w:IntKind.wrap .i64 (32-k)=32-k:=w64 (by have:=h.1;have:=h.2.1;omega) (by have:=h.1;have:=h.2.1;omega)
  have hneg:decide (IntKind.wrap .i64 (32-k)<0)=false:=by rw[w];have:=h.2.1;simp;omega
  simp only[Option.bind_some,h,decide_true,Bool.not_true,cond_false,hneg,Bool.not_false,cond_true,if_true,shl_sz h.1 h.2.1]
 ·simp[h]
theorem f144_eq (b k a:Int):f144 b k a=some (indexI b k a,()):=by
 unfold f144
 rw[f143_eq]
 unfold indexI
 by_cases hm:MayP b k
 case neg=>simp[hm]
 by_cases h1:a<0
 ·have h:¬ (b≤a):=by have:=hm.2.2.1;omega
  simp[hm,h1,h]
 by_cases h2:4294967296≤a
 ·have h:¬ (a<b+szI k):=by have:=may_room hm;omega
  simp[hm,h1,h2,h]
 have w:IntKind.wrap .i64 (32-k)=32-k:=w64 (by have:=hm.1;have:=hm.2.1;omega) (by have:=hm.1;have:=hm.2.1;omega)
 have hneg:decide (IntKind.wrap .i64 (32-k)<0)=false:=by rw[w];have:=hm.2.1;simp;omega
 have hmin:min (Int.toNat (IntKind.wrap .i64 (32-k))) 64=(32-k).toNat:=by rw[w,Nat.min_eq_left];have:=hm.1;omega
 obtain⟨n,rfl⟩:∃ n:Nat,b=n:=⟨b.toNat,by have:=hm.2.2.1;omega⟩
 obtain⟨j,rfl⟩:∃ j:Nat,a=j:=⟨a.toNat,by omega⟩
 have hb:=hm.2.2.2.1
 have hn:n % 2 ^ (32-k).toNat=0:=by
  have:=hm.2.2.2.2
  unfold szI at this
  have h:(n:Int) % ((2 ^ (32-k).toNat:Nat):Int)=((n % 2 ^ (32-k).toNat:Nat):Int):=rfl
  rw[h] at this
  omega
 have e:decide (Int.fdiv (bitop .xor .i64 (j:Int) (n:Int)) ((2:Int) ^ ((min (Int.toNat (IntKind.wrap .i64 (32-k))) 64):Nat))=0)=decide ((n:Int)≤j∧(j:Int)<n+szI k):=by
  rw[hmin,b_xor (by omega) (by omega),fdiv_pow]
  have h1:(j ^^^ n) / 2 ^ (32-k).toNat=(j / 2 ^ (32-k).toNat) ^^^ (n / 2 ^ (32-k).toNat):=by
   rw[← Nat.shiftRight_eq_div_pow,← Nat.shiftRight_eq_div_pow,← Nat.shiftRight_eq_div_pow,Nat.shiftRight_xor_distrib]
  have h2:(j ^^^ n) / 2 ^ (32-k).toNat=0↔j / 2 ^ (32-k).toNat=n / 2 ^ (32-k).toNat:=by
   rw[h1];exact xor_zero _ _
  have h3:=div_same (a:=j) (Nat.two_pow_pos (32-k).toNat) hn
  unfold szI
  rw[decide_eq_decide]
  constructor
  ·intro h
   have:=h3.1 (h2.1 (by omega))
   omega
  ·intro h
   have:=h2.2 (h3.2 (by omega))
   omega
 rw[e]
 simp only[hm,h1,h2,hneg,decide_true,decide_false,Option.bind_some,Bool.not_true,Bool.not_false,cond_false,cond_true,true_and]
 by_cases hin:(n:Int)≤j∧(j:Int)<n+szI k
 ·rw[decide_eq_true hin,if_pos hin,w64 (by omega) (by omega)];rfl
 ·rw[decide_eq_false hin,if_neg hin];rfl
theorem f118_eq (b k b' k':Int):f118 b k b' k'=some (decide (MeetP b k b' k'),()):=by
 unfold f118
 rw[f143_eq,f143_eq,f144_eq,f144_eq]
 unfold MeetP
 by_cases h1:MayP b k
 case neg=>simp[h1]
 by_cases h2:MayP b' k'
 case neg=>simp[h1,h2]
 have e1:=index_ne b k b'
 have e2:=index_ne b' k' b
 simp only[h1,h2,true_and] at e1 e2
 by_cases h3:indexI b k b' = -1
 ·have:¬ (b≤b'∧b'<b+szI k):=fun h=>e1.2 h h3
  by_cases h4:indexI b' k' b = -1
  ·have h5:¬ (b'≤b∧b<b'+szI k'):=fun h=>e2.2 h h4
   simp[h1,h2,h3,h4,this,h5]
  ·have h5:=e2.1 h4
   simp[h1,h2,h3,h4,this,h5]
 ·have:=e1.1 h3
  simp[h1,h2,h3,this]
theorem f114_eq (a b c:Int):f114 a b c=some (decide (b≤a)&&decide (a≤c),()):=by
 unfold f114
 cases decide (b≤a)<;>rfl
theorem f83_eq (a b c:Int):f83 a b c=some (decide (b≤a)&&decide (a≤c),()):=by
 unfold f83
 cases decide (b≤a)<;>rfl
theorem f78_fit {a b c d e f g h:Int}(hx:1≤sizeI a b)(hy:1≤sizeI c d):f123 a b c d e f g h=some (ratI (sizeI a b) (sizeI c d),()):=by
 unfold f123 mnI
 rw[f116_eq,f116_eq]
 simp only[Option.bind_some]
 have hx2:=(sizeI_bound a b).2
 generalize sizeI a b=x at hx hx2 ⊢
 generalize sizeI c d=y at hy ⊢
 have:(cond (decide (y<x)) y x)≠0:=by
  by_cases h:y<x
  ·rw[decide_eq_true h];show y≠0;omega
  ·rw[decide_eq_false h];show x≠0;omega
 rw[decide_eq_false this,decide_eq_false (show ¬ y=0 by omega)]
 simp only[Bool.not_false,cond_true,cond_false]
 have e1:IntKind.wrap .i64 (x-1)=x-1:=w64 (by omega) (by omega)
 have h1:0≤(x-1) / y:=Int.ediv_nonneg (by omega) (by omega)
 have h2:(x-1) / y≤x-1:=Int.ediv_le_self _ (by omega)
 have e2:Int.tdiv (x-1) y=(x-1) / y:=Int.tdiv_eq_ediv_of_nonneg (by omega)
 rw[e1,e2,w64 (x:=(x-1) / y) (by omega) (by omega),w64 (x:=(x-1) / y+1) (by omega) (by omega)]
 rfl
theorem f78_some (a b c d e f g h:Int):∃ r,f123 a b c d e f g h=some (r,()):=by
 unfold f123 mnI
 rw[f116_eq,f116_eq]
 simp only[Option.bind_some]
 have h1:=(sizeI_bound a b).1
 have h2:=(sizeI_bound c d).1
 generalize sizeI a b=x at h1 ⊢
 generalize sizeI c d=y at h2 ⊢
 by_cases hy:y=0
 ·subst hy
  have:(cond (decide ((0:Int)<x)) 0 x)=0:=by
   by_cases hx:(0:Int)<x
   ·rw[decide_eq_true hx];rfl
   ·rw[decide_eq_false hx];show x=0;omega
  rw[decide_eq_true this]
  exact⟨_,rfl⟩
 ·rw[decide_eq_false hy]
  cases decide ((cond (decide (y<x)) y x)=0)<;>exact⟨_,rfl⟩
theorem f122_eq {e f g:Int}(h1:1≤e)(h2:e≤f)(h3:f≤65535)(h4:0≤g)(h5:g≤f-e)(a b c d h:Int):f122 a b c d e f g h=some (f-e+1-g,()):=by
 unfold f122
 rw[w64 (x:=f-e) (by omega) (by omega),w64 (x:=f-e+1) (by omega) (by omega),w64 (by omega) (by omega)]
theorem f38_ok (a b c d e f g h:Int):∃ r,f81 a b c d e f g h=some (r,())∧(r=true↔FitP ((a,b),(c,d),e,f,g,h)):=by
 obtain⟨q,hq⟩:=f78_some a b c d e f g h
 unfold f81
 rw[f116_eq,f116_eq]
 simp only[Option.bind_some,f114_eq,f118_eq,hq]
 by_cases c1:1≤sizeI a b∧sizeI a b≤32
 case neg=>
  have:(decide (1≤sizeI a b)&&decide (sizeI a b≤32))=false:=by rw[Bool.and_eq_false_iff,decide_eq_false_iff_not,decide_eq_false_iff_not];omega
  rw[this]
  exact⟨_,rfl,by simp,fun F=>absurd ⟨F.x1,F.x2⟩ c1⟩
 rw[decide_eq_true c1.1,decide_eq_true c1.2]
 by_cases c2:1≤sizeI c d∧sizeI c d≤4
 case neg=>
  have:(decide (1≤sizeI c d)&&decide (sizeI c d≤4))=false:=by rw[Bool.and_eq_false_iff,decide_eq_false_iff_not,decide_eq_false_iff_not];omega
  rw[this]
  exact⟨_,rfl,by simp,fun F=>absurd ⟨F.y1,F.y2⟩ c2⟩
 rw[decide_eq_true c2.1,decide_eq_true c2.2]
 simp only[Bool.and_self,cond_true,Bool.not_true,cond_false,Bool.not_not]
 by_cases cm:MeetP a b c d
 ·rw[decide_eq_true cm]
  exact⟨_,rfl,by simp,fun F=>absurd cm F.meet⟩
 rw[decide_eq_false cm]
 simp only[cond_false]
 by_cases c3:1≤e∧e≤f
 case neg=>
  have:(decide (1≤e)&&decide (e≤f))=false:=by rw[Bool.and_eq_false_iff,decide_eq_false_iff_not,decide_eq_false_iff_not];omega
  rw[this]
  exact⟨_,rfl,by simp,fun F=>absurd ⟨F.lo1,F.lo2⟩ c3⟩
 rw[decide_eq_true c3.1,decide_eq_true c3.2]
 simp only[Bool.and_self,cond_true]
 by_cases c4:f≤65535
 case neg=>
  rw[decide_eq_false c4]
  exact⟨_,rfl,by simp,fun F=>absurd F.hi c4⟩
 rw[decide_eq_true c4,w64 (x:=f-e) (by omega) (by omega)]
 simp only[Bool.not_true,cond_false]
 by_cases c6:0≤g∧g≤f-e
 case neg=>
  have:(decide (0≤g)&&decide (g≤f-e))=false:=by rw[Bool.and_eq_false_iff,decide_eq_false_iff_not,decide_eq_false_iff_not];omega
  rw[this]
  exact⟨_,rfl,by simp,fun F=>absurd ⟨F.g1,F.g2⟩ c6⟩
 rw[decide_eq_true c6.1,decide_eq_true c6.2]
 simp only[Bool.and_self,cond_true]
 by_cases c7:1≤h∧h≤65535
 case neg=>
  have:(decide (1≤h)&&decide (h≤65535))=false:=by rw[Bool.and_eq_false_iff,decide_eq_false_iff_not,decide_eq_false_iff_not];omega
  rw[this]
  exact⟨_,rfl,by simp,fun F=>absurd ⟨F.h1,F.h2⟩ c7⟩
 rw[decide_eq_true c7.1,decide_eq_true c7.2,decide_eq_false (show ¬ h=0 by omega)]
 simp only[Bool.and_self,cond_true,Bool.not_false]
 have e2:Int.tdiv g h=g / h:=Int.tdiv_eq_ediv_of_nonneg c6.1
 have p1:0≤g / h:=Int.ediv_nonneg c6.1 (by omega)
 have p2:g / h≤g:=Int.ediv_le_self _ c6.1
 rw[e2,w64 (by omega) (by omega)]
 by_cases c8:g / h≤8
 case neg=>
  rw[decide_eq_false c8]
  exact⟨_,rfl,by simp,fun F=>absurd F.blk c8⟩
 rw[decide_eq_true c8,f122_eq c3.1 c3.2 c4 c6.1 c6.2]
 simp only[Bool.not_true,cond_false,Option.bind_some]
 rw[f78_fit c1.1 c2.1,Option.some.injEq,Prod.mk.injEq] at hq
 obtain⟨hq,_⟩:=hq
 by_cases c9:q≤f-e+1-g
 ·rw[decide_eq_true c9]
  exact⟨_,rfl,fun _=>⟨c1.1,c1.2,c2.1,c2.2,cm,c3.1,c3.2,c4,c6.1,c6.2,c7.1,c7.2,c8,by rw[← hq] at c9;exact c9⟩,fun _=>rfl⟩
 ·rw[decide_eq_false c9]
  exact⟨_,rfl,by simp,fun F=>absurd (by have:=F.sh;rw[← hq];exact this) c9⟩
theorem f81_eq (D:DT):f81 D.1.1 D.1.2 D.2.1.1 D.2.1.2 D.2.2.1 D.2.2.2.1 D.2.2.2.2.1 D.2.2.2.2.2=some (decide (FitP D),()):=by
 obtain⟨r,h1,h2⟩:=f38_ok D.1.1 D.1.2 D.2.1.1 D.2.1.2 D.2.2.1 D.2.2.2.1 D.2.2.2.2.1 D.2.2.2.2.2
 rw[h1]
 have:r=decide (FitP D):=by
  by_cases hf:FitP D
  ·rw[decide_eq_true hf];exact h2.2 hf
  ·rw[decide_eq_false hf]
   cases r with
   | false=>rfl
   | true=>exact absurd (h2.1 rfl) hf
 rw[this]
section
variable {D:DT}
theorem f103_fit (F:FitP D):f147 D.1.1 D.1.2 D.2.1.1 D.2.1.2 D.2.2.1 D.2.2.2.1 D.2.2.2.2.1 D.2.2.2.2.2=some (each D,()):=by
 have hr:=F.rat1
 have he:=F.each1
 unfold f147
 rw[f81_eq,decide_eq_true F,f122_eq F.lo1 F.lo2 F.hi F.g1 F.g2,f78_fit F.x1 F.y1]
 simp only[Option.bind_some,Bool.not_true,cond_false]
 have er:ratI (sizeI D.1.1 D.1.2) (sizeI D.2.1.1 D.2.1.2)=rat D:=rfl
 rw[er,decide_eq_false (show ¬ rat D=0 by omega)]
 simp only[Bool.not_false,cond_true]
 have hs:0≤hiI D-loI D+1-dynI D:=by have:=F.g2;omega
 have p2:(hiI D-loI D+1-dynI D) / rat D≤hiI D-loI D+1-dynI D:=Int.ediv_le_self _ hs
 have e2:Int.tdiv (hiI D-loI D+1-dynI D) (rat D)=each D:=Int.tdiv_eq_ediv_of_nonneg hs
 unfold each at he e2 ⊢
 rw[e2,w64 (by omega) (by have:=F.hi;have:=F.lo1;have:=F.g1;omega)]
theorem f130_eq (sub:Int):f130 D.1.1 D.1.2 D.2.1.1 D.2.1.2 D.2.2.1 D.2.2.2.1 D.2.2.2.2.1 D.2.2.2.2.2 sub=some (if SubP D sub then baseI D sub else (0,0,0),decide (SubP D sub),()):=by
 unfold f130
 rw[f81_eq]
 simp only[Option.bind_some]
 by_cases F:FitP D
 case neg=>
  have:¬ SubP D sub:=fun h=>F h.1
  rw[decide_eq_false F,decide_eq_false this,if_neg this];rfl
 rw[decide_eq_true F]
 simp only[Bool.not_true,cond_false]
 by_cases h0:sub<0
 ·have:¬ SubP D sub:=fun h=>by have:=h.2.1;omega
  rw[decide_eq_true h0,decide_eq_false this,if_neg this];rfl
 rw[decide_eq_false h0,f116_eq]
 simp only[cond_false,Option.bind_some]
 have ex:sizeI D.1.1 D.1.2=szX D:=rfl
 by_cases h1:szX D≤sub
 ·have:¬ SubP D sub:=fun h=>by have:=h.2.2;omega
  rw[ex,decide_eq_true h1,decide_eq_false this,if_neg this];rfl
 have hS:SubP D sub:=⟨F,by omega,by omega⟩
 rw[ex,decide_eq_false h1,f78_fit F.x1 F.y1,f103_fit F,decide_eq_true hS,if_pos hS]
 simp only[cond_false,Option.bind_some]
 have er:ratI (sizeI D.1.1 D.1.2) (sizeI D.2.1.1 D.2.1.2)=rat D:=rfl
 rw[er]
 have hr:=F.rat1
 have he:=F.each1
 obtain⟨q1,q2,q3,q4,q5⟩:=F.base (sub:=sub) (by omega) (by omega)
 rw[decide_eq_false (show ¬ rat D=0 by omega)]
 simp only[Bool.not_false,cond_true]
 have t1:Int.tdiv sub (rat D)=sub / rat D:=Int.tdiv_eq_ediv_of_nonneg (by omega)
 have t2:Int.tmod sub (rat D)=sub % rat D:=Int.tmod_eq_emod_of_nonneg (by omega)
 have hy2:=F.y2
 have hhi:=F.hi
 have hlo:=F.lo1
 have hg:=F.g1
 unfold baseI
 unfold baseFrom at q3 q4 ⊢
 rw[t1,t2]
 generalize sub % rat D * each D=k at q3 q4 q5 ⊢
 generalize each D=w at he q4 ⊢
 rw[w64 (x:=sub / rat D) (by omega) (by omega),w64 (x:=k) (by omega) (by omega),w64 (x:=loI D+k) (by omega) (by omega),w64 (x:=loI D+k+w) (by omega) (by omega),w64 (x:=loI D+k+w-1) (by omega) (by omega)]
theorem f148_eq:f148 D.1.1 D.1.2 D.2.1.1 D.2.1.2 D.2.2.1 D.2.2.2.1 D.2.2.2.2.1 D.2.2.2.2.2=some (if FitP D then blks D else 0,()):=by
 unfold f148
 rw[f81_eq]
 simp only[Option.bind_some]
 by_cases F:FitP D
 case neg=>rw[decide_eq_false F,if_neg F];rfl
 rw[decide_eq_true F,if_pos F]
 have h1:=F.h1
 have g1:=F.g1
 simp only[Bool.not_true,cond_false]
 rw[decide_eq_false (show ¬ wdI D=0 by omega)]
 have e2:Int.tdiv D.2.2.2.2.1 D.2.2.2.2.2=blks D:=Int.tdiv_eq_ediv_of_nonneg g1
 have p1:0≤blks D:=Int.ediv_nonneg g1 (by omega)
 have:=F.blk
 rw[e2,w64 (by omega) (by omega)]
 rfl
theorem f131_eq (at' blk:Int):f131 D.1.1 D.1.2 D.2.1.1 D.2.1.2 D.2.2.1 D.2.2.2.1 D.2.2.2.2.1 D.2.2.2.2.2 at' blk=some (if BlkP D at' blk then blkI D at' blk else (0,0,0),decide (BlkP D at' blk),()):=by
 unfold f131
 rw[f116_eq,f148_eq]
 simp only[Option.bind_some]
 have ey:sizeI D.2.1.1 D.2.1.2=szY D:=rfl
 rw[ey]
 by_cases h0:at'<0
 ·have:¬ BlkP D at' blk:=fun h=>by have:=h.2.1.1;omega
  rw[decide_eq_true h0,decide_eq_false this,if_neg this];rfl
 rw[decide_eq_false h0]
 simp only[cond_false]
 by_cases h1:szY D≤at'
 ·have:¬ BlkP D at' blk:=fun h=>by have:=h.2.1.2;omega
  rw[decide_eq_true h1,decide_eq_false this,if_neg this];rfl
 rw[decide_eq_false h1]
 simp only[cond_false]
 by_cases h2:blk<0
 ·have:¬ BlkP D at' blk:=fun h=>by have:=h.2.2.1;omega
  rw[decide_eq_true h2,decide_eq_false this,if_neg this];rfl
 rw[decide_eq_false h2]
 simp only[cond_false]
 by_cases F:FitP D
 case neg=>
  have:¬ BlkP D at' blk:=fun h=>F h.1
  rw[if_neg F,decide_eq_true (show (0:Int)≤blk by omega),decide_eq_false this,if_neg this];rfl
 rw[if_pos F]
 by_cases h3:blks D≤blk
 ·have:¬ BlkP D at' blk:=fun h=>by have:=h.2.2.2;omega
  rw[decide_eq_true h3,decide_eq_false this,if_neg this];rfl
 have hB:BlkP D at' blk:=⟨F,by omega,by omega,by omega⟩
 rw[decide_eq_false h3,decide_eq_true hB,if_pos hB]
 obtain⟨q1,q2⟩:=F.block (blk:=blk) (by omega) (by omega)
 have:=F.g2
 have:=F.hi
 have:=F.lo1
 have:=F.h1
 have:=F.g1
 simp only[cond_false]
 unfold blkI
 generalize blk * wdI D=k at q1 q2 ⊢
 rw[w64 (x:=k) (by omega) (by omega),w64 (x:=hiI D-dynI D) (by omega) (by omega),w64 (x:=hiI D-dynI D+1) (by omega) (by omega),w64 (x:=hiI D-dynI D+1+k) (by omega) (by omega),w64 (x:=hiI D-dynI D+1+k+wdI D) (by omega) (by omega),w64 (x:=hiI D-dynI D+1+k+wdI D-1) (by omega) (by omega)]
end
theorem f150_eq (a b c at':Int):f150 a b c at'=some (hasB (a,b,c) at',()):=by
 unfold f150 hasB
 by_cases h1:0≤a
 ·rw[decide_eq_true h1]
  by_cases h2:a≤4
  ·rw[decide_eq_true h2]
   by_cases h3:1≤b
   ·rw[decide_eq_true h3]
    by_cases h4:b≤4
    ·rw[decide_eq_true h4,w64 (x:=a+b) (by omega) (by omega)]
     cases decide (a≤at')<;>rfl
    ·rw[decide_eq_false h4];rfl
   ·rw[decide_eq_false h3];rfl
  ·rw[decide_eq_false h2];rfl
 ·rw[decide_eq_false h1];rfl
theorem f132_eq (l:List HT)(hl:Sz l)(at':Int):f132 l at'=some (poolOf l at',()):=by
 unfold f132
 have e:iter big u132_146_2_0 ((l,(),((l.length:Nat):Int),0,()),((at',()),()),())=_:=
  it_idx l (fun p=>hasB p at') (fun j=>((l,(),((l.length:Nat):Int),((j:Nat):Int),()),((at',()),()),())) (fun j=>((((j:Nat):Int),()),((at',()),()),()))
   (y:=((),((at',()),()),())) (fun j h=>by
    simp only[u132_146_2_0,t132_146_2_0,ltn h,ge0,cond_true,Bool.and_self,Int.toNat_natCast,rdH h,f150_eq,Option.bind_some,nx h hl])
   (by simp only[u132_146_2_0,t132_146_2_0,nlt,cond_false]) (fuel:=big) (by unfold big;omega)
 rw[e]
 unfold poolOf
 split<;>rfl
theorem f133_eq (a b c d:Int):f133 a b c d=some (decide (ltB c d a b),()):=by
 unfold f133
 by_cases h1:c<a
 ·rw[decide_eq_true h1,decide_eq_true (show ltB c d a b from .inl h1)];rfl
 ·rw[decide_eq_false h1]
  by_cases h2:a=c
  ·rw[decide_eq_true h2]
   have:(d<b)↔ltB c d a b:=by unfold ltB;omega
   simp only[cond_false,cond_true,decide_eq_decide.2 this]
  ·rw[decide_eq_false h2,decide_eq_false (show ¬ ltB c d a b by unfold ltB;omega)];rfl
theorem f152_eq (a b c d e:Int):f152 a b c d e=some ((b,c),()):=by unfold f152 f157;rfl
theorem f134_eq (l:List LT)(hl:Sz l)(a b:Int):f134 l a b=some (findL l a b,()):=by
 unfold f134
 have e:iter big u134_88_2_0 ((l,(),((l.length:Nat):Int),0,()),((a,b,()),((),()),()),())=_:=
  it_idx l (isL a b) (fun j=>((l,(),((l.length:Nat):Int),((j:Nat):Int),()),((a,b,()),((),()),()),())) (fun j=>((((j:Nat):Int),()),((a,b,()),((),()),()),()))
   (y:=((),((a,b,()),((),()),()),())) (fun j h=>by
    simp only[u134_88_2_0,t134_88_2_0,ltn h,ge0,cond_true,Bool.and_self,Int.toNat_natCast,rdL h,f152_eq,Option.bind_some,isL,Bool.and_true,nx h hl])
   (by simp only[u134_88_2_0,t134_88_2_0,nlt,cond_false]) (fuel:=big) (by unfold big;omega)
 rw[e]
 unfold findL
 split<;>rfl
theorem f127_eq {p q:HT}{out:Int}(hp:FitsP p out)(hq:FitsP q out)(ho:out≤4):f127 p.1 p.2.1 p.2.2 q.1 q.2.1 q.2.2=some (meetB p q,()):=by
 obtain⟨p1,p2,p3,p4,_⟩:=hp
 obtain⟨q1,q2,q3,q4,_⟩:=hq
 unfold f127 meetB
 rw[w64 (x:=q.1+q.2.1) (by omega) (by omega),w64 (x:=p.1+p.2.1) (by omega) (by omega)]
 cases decide (p.1<q.1+q.2.1)<;>rfl
theorem f128_eq (p:HT)(out:Int)(h0:0≤out)(h1:out≤4):f128 p.1 p.2.1 p.2.2 out=some (decide (FitsP p out),()):=by
 unfold f128 FitsP
 by_cases c1:0≤p.1
 ·by_cases c2:1≤p.2.1
  ·by_cases c3:p.1<out
   ·rw[w64 (x:=out-p.1) (by omega) (by omega)]
    by_cases c4:p.2.1≤out-p.1
    ·by_cases c5:0≤p.2.2
     ·simp[c1,c2,c3,c4,c5]
     ·simp[c1,c2,c3,c4,c5]
    ·simp[c1,c2,c3,c4]
   ·simp[c1,c2,c3]
  ·simp[c1,c2]
 ·simp[c1]
def POK (M:List HT)(out:Int):Prop:=(∀ p∈M,FitsP p out)∧M.Pairwise fun p q=>meetB q p=false
theorem POK.take {l:List HT}{out:Int}(h:POK l out)(j:Nat):POK (l.take j) out:=
 ⟨fun p hp=>h.1 p (List.mem_of_mem_take hp),h.2.sublist (List.take_sublist j l)⟩
theorem POK.snoc {l:List HT}{out:Int}{j:Nat}(hj:j<l.length):POK (l.take (j+1)) out↔POK (l.take j) out∧FitsP l[j] out∧(l.take j).any (fun q=>meetB l[j] q)=false:=by
 rw[take_snoc hj]
 unfold POK
 rw[List.pairwise_append]
 constructor
 ·intro ⟨h1,h2,h3,h4⟩
  refine⟨⟨fun p hp=>h1 p (List.mem_append.2 (.inl hp)),h2⟩,h1 _ (List.mem_append.2 (.inr (List.mem_singleton.2 rfl))),?_⟩
  rw[List.any_eq_false]
  intro q hq
  rw[h4 q hq _ (List.mem_singleton.2 rfl)];simp
 ·intro ⟨⟨h1,h2⟩,h3,h4⟩
  refine⟨fun p hp=>?_,h2,List.pairwise_singleton _ _,fun a ha b hb=>?_⟩
  ·rcases List.mem_append.1 hp with hp|hp
   ·exact h1 p hp
   ·rw[List.mem_singleton] at hp;rw[hp];exact h3
  ·rw[List.mem_singleton] at hb;subst hb
   rw[List.any_eq_false] at h4
   simpa using h4 a ha
theorem inner41 (l:List HT)(hl:Sz l)(p:HT)(out:Int)(hp:FitsP p out)(ho:out≤4)(hf:∀ q∈l,FitsP q out) :
  iter big u84_146_2_0 ((l,(),((l.length:Nat):Int),0,()),((p.1,p.2.1,p.2.2,()),()),()) =
   some (if l.findIdx (fun q=>meetB p q)<l.length then .inr ((((l.findIdx (fun q=>meetB p q):Nat):Int),()),((p.1,p.2.1,p.2.2,()),()),()) else .inl ((),((p.1,p.2.1,p.2.2,()),()),())):=
 it_idx l (fun q=>meetB p q) (fun j=>((l,(),((l.length:Nat):Int),((j:Nat):Int),()),((p.1,p.2.1,p.2.2,()),()),())) (fun j=>((((j:Nat):Int),()),((p.1,p.2.1,p.2.2,()),()),()))
  (y:=((),((p.1,p.2.1,p.2.2,()),()),())) (fun j h=>by
   simp only[u84_146_2_0,t84_146_2_0,ltn h,ge0,cond_true,Bool.and_self,Int.toNat_natCast,rdH h,f127_eq hp (hf _ (List.getElem_mem h)) ho,Option.bind_some,nx h hl])
  (by simp only[u84_146_2_0,t84_146_2_0,nlt,cond_false]) (fuel:=big) (by unfold big;omega)
theorem f84_eq (l:List HT)(out:Int):f84 l out=some (decide (PoolsP l out),()):=by
 unfold f84
 by_cases h0:out<0
 ·rw[decide_eq_true h0,decide_eq_false (show ¬ PoolsP l out from fun h=>by have:=h.out0;omega)];rfl
 rw[decide_eq_false h0]
 by_cases h4:4<out
 ·rw[decide_eq_true h4,decide_eq_false (show ¬ PoolsP l out from fun h=>by have:=h.out4;omega)];rfl
 rw[decide_eq_false h4]
 by_cases h3:3<l.length
 ·rw[decide_eq_true (show (3:Int)<((l.length:Nat):Int) by omega),decide_eq_false (show ¬ PoolsP l out from fun h=>by have:=h.len;omega)];rfl
 rw[decide_eq_false (show ¬ (3:Int)<((l.length:Nat):Int) by omega)]
 simp only[cond_false]
 let st:Nat→X84_4:=fun j=>((l,out,l,((l.length:Nat):Int),((j:Nat):Int),()),(),())
 obtain⟨r,e1,e2⟩:=it_inv (f:=u84_4) (fun x=>∃ j,x=st j∧j≤l.length∧POK (l.take j) out) (fun x=>l.length-x.1.2.2.2.2.1.toNat)
  (fun r=>match r with
   | .inl _=>POK l out
   | .inr z=>z.1.1=false∧¬ POK l out) (by
  rintro x ⟨j,rfl,hj1,hj2⟩
  rcases Nat.lt_or_ge j l.length with hlt|hge
  ·have hb1:=f128_eq l[j] out (by omega) (by omega)
   have hsn:=POK.snoc (out:=out) hlt
   by_cases hfit:FitsP l[j] out
   case neg=>
    rw[decide_eq_false hfit] at hb1
    refine .inr (.inr ⟨((false,()),(),()),?_,rfl,fun h=>hfit (hsn.1 (h.take _)).2.1⟩)
    simp only[st,u84_4,t84_4,ltn hlt,ge0,cond_true,Bool.and_self,Int.toNat_natCast,rdH hlt,hb1,Option.bind_some,Bool.not_false]
   rw[decide_eq_true hfit] at hb1
   have htake:List.drop 0 (List.take j l)=l.take j:=by simp
   have hin:=inner41 (l.take j) (by unfold Sz;simp;omega) l[j] out hfit (by omega) hj2.1
   have hle:decide (((j:Nat):Int)≤((l.length:Nat):Int))=true:=decide_eq_true (by omega)
   by_cases hm:(l.take j).findIdx (fun q=>meetB l[j] q)<(l.take j).length
   ·rw[if_pos hm] at hin
    refine .inr (.inr ⟨((false,()),(),()),?_,rfl,fun h=>?_⟩)
    ·simp only[st,u84_4,t84_4,ltn hlt,ge0,cond_true,Bool.and_self,Int.toNat_natCast,rdH hlt,hb1,Option.bind_some,Bool.not_true,cond_false,hle,htake,hin]
    ·have h1:=(hsn.1 (h.take _)).2.2
     rw[← idx_none,if_pos hm] at h1
     omega
   ·rw[if_neg hm] at hin
    have hno:(l.take j).any (fun q=>meetB l[j] q)=false:=by rw[← idx_none,if_neg hm]
    refine .inl ⟨st (j+1),?_,⟨j+1,rfl,by omega,hsn.2 ⟨hj2,hfit,hno⟩⟩,?_⟩
    ·simp only[st,u84_4,t84_4,ltn hlt,ge0,cond_true,Bool.and_self,Int.toNat_natCast,rdH hlt,hb1,Option.bind_some,Bool.not_true,cond_false,hle,htake,hin,nx hlt (show l.length≤9223372036854775807 by omega)]
    ·show l.length-Int.toNat (((j+1:Nat):Int))<l.length-Int.toNat ((j:Nat):Int)
     omega
  ·have:j=l.length:=by omega
   subst this
   refine .inr (.inl ⟨((),(),()),?_,?_⟩)
   ·simp only[st,u84_4,t84_4,nlt,cond_false]
   ·rw[List.take_length] at hj2;exact hj2)
  big (st 0) ⟨0,rfl,by omega,by rw[List.take_zero];exact⟨by simp,by simp⟩⟩ (by simp only[st];unfold big;omega)
 have e1':iter big u84_4 ((l,out,l,((l.length:Nat):Int),0,()),(),())=some r:=e1
 rw[e1']
 cases r with
 | inl y=>
  have e2:POK l out:=e2
  rw[decide_eq_true (show PoolsP l out from ⟨by omega,by omega,by omega,e2.1,e2.2⟩)];rfl
 | inr z=>
  obtain⟨k1,k2⟩:=e2
  rw[decide_eq_false (show ¬ PoolsP l out from fun h=>k2 ⟨h.fits,h.apart⟩)]
  show some (z.1.1,())=_
  rw[k1]
theorem f82_eq (p:PT):f82 p.1 p.2.1 p.2.2.1 p.2.2.2=some (decide (PolP p),()):=by
 unfold f82 PolP
 simp only[f83_eq,Option.bind_some,and_dec]
 by_cases h1:1≤p.1∧p.1≤8
 ·by_cases h2:1≤p.2.1∧p.2.1≤1048576
  ·simp[h1,h2]
  ·rw[decide_eq_true h1,decide_eq_false h2]
   simp[h2]
 ·rw[decide_eq_false h1];simp[h1]
theorem mPut_cons (p:Int×Int)(l:List (Int×Int))(x v:Int):mPut (p::l) x v=if x=p.1 then (p.1,v)::l else p::mPut l x v:=by
 unfold mPut
 by_cases h:x=p.1
 ·simp[mHas,mIdx,mSet,h]
 ·rw[if_neg h]
  simp only[mHas,mIdx,decide_eq_false h,cond_false]
  cases mHas l x<;>rfl
theorem mVal_put (x v y:Int):∀ (l:List (Int×Int)),mVal (mPut l x v) y=if y=x then v else mVal l y
 | []=>by
  show mVal [(x,v)] y=_
  by_cases h:y=x<;>simp[mVal,h]
 | p::l=>by
  rw[mPut_cons]
  by_cases h:x=p.1
  ·rw[if_pos h]
   simp only[mVal]
   by_cases h2:y=p.1
   ·simp[h2,h]
   ·rw[decide_eq_false h2,if_neg (by rw[h];exact h2)];rfl
  ·rw[if_neg h]
   simp only[mVal]
   by_cases h2:y=p.1
   ·rw[decide_eq_true h2,if_neg (by rw[h2];exact fun e=>h e.symm)];rfl
   ·rw[decide_eq_false h2]
    simp only[cond_false]
    exact mVal_put x v y l
section
variable {D:DT}{p:PT}{now:Int}{P H:List HT}{L:List LT}
abbrev st43 (D:DT)(p:PT)(now:Int)(P:List HT)(L:List LT)(H:List HT)(j:Nat)(mp:List (Int×Int)):X86_3:=
 (((),(),L,((L.length:Nat):Int),((j:Nat):Int),()),((D.1.1,D.1.2,D.2.1.1,D.2.1.2,D.2.2.1,D.2.2.2.1,D.2.2.2.2.1,D.2.2.2.2.2,p.1,p.2.1,p.2.2.1,p.2.2.2,now,P,L,H,()),mp,()),())
theorem cnt_le (L:List LT)(s:Int):cnt L s≤L.length:=List.countP_le_length
theorem step43 (hp:PolP p)(h0:0≤now)(h1:now≤1073741824)(hP:Sz P)(hL:Sz L)(j:Nat)(mp:List (Int×Int))(hj:j<L.length)(hmp:∀ s,mVal mp s=((cnt (L.take j) s:Nat):Int)) :
  (u86_3 (st43 D p now P L H j mp)=some (.ret ((false,()),(),()))∧¬ (LeaseOK D p now P L[j]∧((cnt (L.take j) L[j].1+1:Nat):Int)≤p.1∧∀ (h0:0<j),ltL (L[j-1]'(by omega)) L[j])) ∨
  ((∃ mp',u86_3 (st43 D p now P L H j mp)=some (.next (st43 D p now P L H (j+1) mp'))∧∀ s,mVal mp' s=((cnt (L.take (j+1)) s:Nat):Int)) ∧
   LeaseOK D p now P L[j]∧((cnt (L.take j) L[j].1+1:Nat):Int)≤p.1∧∀ (h0:0<j),ltL (L[j-1]'(by omega)) L[j]):=by
 obtain⟨p1,p2,p3,pr⟩:=p
 have hc:cnt (L.take j) L[j].1≤j:=Nat.le_trans (cnt_le _ _) (by rw[List.length_take];omega)
 have hv:mVal mp L[j].1+1=((cnt (L.take j) L[j].1+1:Nat):Int):=by rw[hmp];omega
 have hw:IntKind.wrap .i64 (mVal mp L[j].1+1)=((cnt (L.take j) L[j].1+1:Nat):Int):=by rw[w64 (by omega) (by unfold Sz at hL;omega),hv]
 have hi:IntKind.wrap .i64 (now-p2)=now-p2:=by have h2:1≤p2∧p2≤1048576:=hp.2.1;exact w64 (by omega) (by omega)
 simp only[st43,u86_3,t86_3,ltn hj,ge0,cond_true,Bool.and_self,Int.toNat_natCast,rdL hj,f130_eq,f131_eq,Option.bind_some,f132_eq P hP,nx hj hL,mVal_put,if_true,hw,hi]
 by_cases hS:SubP D L[j].1
 case neg=>rw[decide_eq_false hS];exact .inl ⟨rfl,fun h=>hS h.1.sub⟩
 rw[decide_eq_true hS,if_pos hS]
 by_cases hB:BlkP D L[j].2.1 L[j].2.2.1
 case neg=>rw[decide_eq_false hB];exact .inl ⟨rfl,fun h=>hB h.1.blk⟩
 rw[decide_eq_true hB]
 simp only[Bool.not_true,cond_false]
 by_cases hI:poolOf P L[j].2.1 = -1
 ·rw[decide_eq_true hI]
  refine .inl ⟨rfl,fun h=>?_⟩
  have:=h.1.pool
  rw[(poolOf_none _ _).1 hI] at this
  simp at this
 rw[decide_eq_false hI]
 have hpool:inB P L[j].2.1=true:=by
  cases hb:inB P L[j].2.1 with
  | true=>rfl
  | false=>exact absurd ((poolOf_none _ _).2 hb) hI
 simp only[cond_false]
 have hlt1:0<j→j-1<L.length:=fun _=>by omega
 have fin:∀ (hpr:pr=true→L[j].1 / rat D=L[j].2.1) (X:Option (R3 X86_3 Y86_3 Z86_3)),
   X=(cond (decide (p1<((cnt (L.take j) L[j].1+1:Nat):Int))) (some (.ret ((false,()),(),()))) (cond (decide (L[j].2.2.2.1<0)) (some (.ret ((false,()),(),()))) (cond (decide (L[j].2.2.2.2<L[j].2.2.2.1)) (some (.ret ((false,()),(),())))
    (cond (decide (now<L[j].2.2.2.2)) (some (.ret ((false,()),(),()))) (cond (decide (L[j].2.2.2.2≤now-p2)) (some (.ret ((false,()),(),())))
     (if (∀ (h0:0<j),ltL (L[j-1]'(by omega)) L[j]) then some (.next (st43 D (p1,p2,p3,pr) now P L H (j+1) (mPut mp L[j].1 ((cnt (L.take j) L[j].1+1:Nat):Int)))) else some (.ret ((false,()),(),())))))))) →
   (X=some (.ret ((false,()),(),()))∧¬ (LeaseOK D (p1,p2,p3,pr) now P L[j]∧((cnt (L.take j) L[j].1+1:Nat):Int)≤p1∧∀ (h0:0<j),ltL (L[j-1]'(by omega)) L[j])) ∨
   ((∃ mp',X=some (.next (st43 D (p1,p2,p3,pr) now P L H (j+1) mp'))∧∀ s,mVal mp' s=((cnt (L.take (j+1)) s:Nat):Int)) ∧
    LeaseOK D (p1,p2,p3,pr) now P L[j]∧((cnt (L.take j) L[j].1+1:Nat):Int)≤p1∧∀ (h0:0<j),ltL (L[j-1]'(by omega)) L[j]):=by
  intro hpr X hX
  subst hX
  by_cases c1:p1<((cnt (L.take j) L[j].1+1:Nat):Int)
  ·rw[decide_eq_true c1];exact .inl ⟨rfl,fun h=>by have:=h.2.1;omega⟩
  rw[decide_eq_false c1]
  by_cases c2:L[j].2.2.2.1<0
  ·rw[decide_eq_true c2];exact .inl ⟨rfl,fun h=>by have:=h.1.from0;omega⟩
  rw[decide_eq_false c2]
  by_cases c3:L[j].2.2.2.2<L[j].2.2.2.1
  ·rw[decide_eq_true c3];exact .inl ⟨rfl,fun h=>by have:=h.1.last1;omega⟩
  rw[decide_eq_false c3]
  by_cases c4:now<L[j].2.2.2.2
  ·rw[decide_eq_true c4];exact .inl ⟨rfl,fun h=>by have:=h.1.last2;omega⟩
  rw[decide_eq_false c4]
  by_cases c5:L[j].2.2.2.2≤now-p2
  ·rw[decide_eq_true c5];exact .inl ⟨rfl,fun h=>by have:now-p2<L[j].2.2.2.2:=h.1.idle;omega⟩
  rw[decide_eq_false c5]
  simp only[cond_false]
  by_cases c6:∀ (h0:0<j),ltL (L[j-1]'(by omega)) L[j]
  ·rw[if_pos c6]
   refine .inr ⟨⟨_,rfl,fun s=>?_⟩,⟨hS,hB,hpool,hpr,by omega,by omega,by omega,show now-p2<L[j].2.2.2.2 by omega⟩,by show _≤p1;omega,c6⟩
   rw[mVal_put,take_snoc hj,cnt_snoc,hmp]
   by_cases e:s=L[j].1
   ·subst e;rw[if_pos rfl,if_pos rfl]
   ·rw[if_neg e,if_neg (fun h=>e h.symm)];rfl
  ·rw[if_neg c6];exact .inl ⟨rfl,fun h=>c6 h.2.2⟩
 have tail:∀ (N:R3 X86_3 Y86_3 Z86_3),(cond (decide ((0:Int)<((j:Nat):Int)))
   (cond (decide (0≤IntKind.wrap .i64 (((j:Nat):Int)-1))&&decide (IntKind.wrap .i64 (((j:Nat):Int)-1)<((L.length:Nat):Int)))
    (cond (decide (0≤IntKind.wrap .i64 (((j:Nat):Int)-1))&&decide (IntKind.wrap .i64 (((j:Nat):Int)-1)<((L.length:Nat):Int)))
     ((f133 L[j].2.1 L[j].2.2.1 (rd (.pair (.int .i64) (.pair (.int .i64) (.pair (.int .i64) (.pair (.int .i64) (.int .i64))))) L (Int.toNat (IntKind.wrap .i64 (((j:Nat):Int)-1)))).2.1 (rd (.pair (.int .i64) (.pair (.int .i64) (.pair (.int .i64) (.pair (.int .i64) (.int .i64))))) L (Int.toNat (IntKind.wrap .i64 (((j:Nat):Int)-1)))).2.2.1).bind fun y24=>
      cond (!y24.1) (some (R3.ret ((false,()),(),()))) (some N))
     none) none) (some N))=if (∀ (h0:0<j),ltL (L[j-1]'(by omega)) L[j]) then some N else some (.ret ((false,()),(),())):=by
  intro N
  by_cases h0:0<j
  ·have hw:IntKind.wrap .i64 (((j:Nat):Int)-1)=((j-1:Nat):Int):=by rw[w64 (by omega) (by unfold Sz at hL;omega)];omega
   rw[decide_eq_true (show (0:Int)<((j:Nat):Int) by omega),hw,ge0,ltn (hlt1 h0),Int.toNat_natCast,rdL (hlt1 h0),f133_eq]
   simp only[cond_true,Bool.and_self,Option.bind_some]
   by_cases hl:ltL (L[j-1]'(by omega)) L[j]
   ·rw[if_pos (fun _=>hl)]
    unfold ltL at hl
    rw[decide_eq_true hl];rfl
   ·rw[if_neg (fun h=>hl (h h0))]
    unfold ltL at hl
    rw[decide_eq_false hl];rfl
  ·rw[decide_eq_false (show ¬ (0:Int)<((j:Nat):Int) by omega),if_pos (fun h=>absurd h h0)];rfl
 have hbase:(baseI D L[j].1).1=L[j].1 / rat D:=rfl
 cases pr with
 | true=>
  simp only[cond_true,if_true,hbase]
  by_cases hq:L[j].1 / rat D=L[j].2.1
  ·rw[decide_eq_true hq]
   simp only[Bool.not_true,cond_false]
   refine fin (fun _=>hq) _ ?_
   rw[tail]
  ·rw[decide_eq_false hq]
   exact .inl ⟨rfl,fun h=>hq (h.1.pair rfl)⟩
 | false=>
  simp only[cond_false]
  refine fin (fun h=>by simp at h) _ ?_
  rw[tail]
theorem f86_eq (hp:PolP p)(h0:0≤now)(h1:now≤1073741824)(hP:Sz P)(hL:Sz L) :
  f86 D.1.1 D.1.2 D.2.1.1 D.2.1.2 D.2.2.1 D.2.2.2.1 D.2.2.2.2.1 D.2.2.2.2.2 p.1 p.2.1 p.2.2.1 p.2.2.2 now P L H=some (decide (LeasesP D p now P L∧L.length≤32),()):=by
 unfold f86
 obtain⟨r,e1,e2⟩:=it_inv (f:=u86_3) (fun x=>∃ j mp,x=st43 D p now P L H j mp∧j≤L.length∧LeasesP D p now P (L.take j)∧∀ s,mVal mp s=((cnt (L.take j) s:Nat):Int)) (fun x=>L.length-x.1.2.2.2.2.1.toNat)
  (fun r=>match r with
   | .inl y=>LeasesP D p now P L∧y.2.1.1.2.2.2.2.2.2.2.2.2.2.2.2.2.2.1=L
   | .inr z=>z.1.1=false∧¬ LeasesP D p now P L) (by
  rintro x ⟨j,mp,rfl,hj1,hj2,hmp⟩
  rcases Nat.lt_or_ge j L.length with hlt|hge
  ·rcases step43 (D:=D) (H:=H) hp h0 h1 hP hL j mp hlt hmp with⟨hs,hn⟩|⟨⟨mp',hs,hm'⟩,k⟩
   ·exact .inr (.inr ⟨_,hs,rfl,fun h=>hn ((LeasesP.snoc hlt (h.take j)).1 (h.take (j+1)))⟩)
   ·refine .inl ⟨_,hs,⟨j+1,mp',rfl,by omega,(LeasesP.snoc hlt hj2).2 k,hm'⟩,?_⟩
    show L.length-Int.toNat (((j+1:Nat):Int))<L.length-Int.toNat ((j:Nat):Int)
    omega
  ·have:j=L.length:=by omega
   subst this
   refine .inr (.inl ⟨_,by simp only[st43,u86_3,t86_3,nlt,cond_false];rfl,?_,rfl⟩)
   rw[List.take_length] at hj2;exact hj2)
  big (st43 D p now P L H 0 []) ⟨0,[],rfl,by omega,by rw[List.take_zero];exact LeasesP.nil,fun s=>by rw[List.take_zero];rfl⟩ (by
   show L.length-Int.toNat ((0:Nat):Int)<big
   unfold big;unfold Sz at hL;omega)
 have e1':iter big u86_3 (((),(),L,((L.length:Nat):Int),0,()),((D.1.1,D.1.2,D.2.1.1,D.2.1.2,D.2.2.1,D.2.2.2.1,D.2.2.2.2.1,D.2.2.2.2.2,p.1,p.2.1,p.2.2.1,p.2.2.2,now,P,L,H,()),[],()),())=some r:=e1
 rw[e1']
 cases r with
 | inl y=>
  obtain⟨k1,k2⟩:=e2
  simp only[Option.bind_some,k2]
  have:(((L.length:Nat):Int)≤32)↔(LeasesP D p now P L∧L.length≤32):=⟨fun h=>⟨k1,by omega⟩,fun h=>by have:=h.2;omega⟩
  rw[decide_eq_decide.2 this]
 | inr z=>
  obtain⟨k1,k2⟩:=e2
  simp only[Option.bind_some,k1]
  rw[decide_eq_false (fun h=>k2 h.1)]
abbrev st44 (D:DT)(p:PT)(now:Int)(P:List HT)(L:List LT)(H:List HT)(j:Nat):X87_2:=
 (((),H,((H.length:Nat):Int),((j:Nat):Int),()),((D.1.1,D.1.2,D.2.1.1,D.2.1.2,D.2.2.1,D.2.2.2.1,D.2.2.2.2.1,D.2.2.2.2.2,p.1,p.2.1,p.2.2.1,p.2.2.2,now,P,L,H,()),()),())
theorem step44 (h0:0≤now)(h1:now≤1073741824)(hL:Sz L)(hH:Sz H)(j:Nat)(hj:j<H.length) :
  (u87_2 (st44 D p now P L H j)=some (.ret ((false,()),(),()))∧¬ (HeldOK D now L H[j]∧∀ (h0:0<j),ltH (H[j-1]'(by omega)) H[j])) ∨
  (u87_2 (st44 D p now P L H j)=some (.next (st44 D p now P L H (j+1)))∧HeldOK D now L H[j]∧∀ (h0:0<j),ltH (H[j-1]'(by omega)) H[j]):=by
 simp only[st44,u87_2,t87_2,ltn hj,ge0,cond_true,Bool.and_self,Int.toNat_natCast,rdH hj,f131_eq,f83_eq,Option.bind_some,f134_eq L hL,nx hj hH,
  w64 (show -9223372036854775808≤now+1 by omega) (by omega),w64 (show -9223372036854775808≤now+1048576 by omega) (by omega)]
 by_cases hB:BlkP D H[j].1 H[j].2.1
 case neg=>rw[decide_eq_false hB];exact .inl ⟨rfl,fun h=>hB h.1.blk⟩
 rw[decide_eq_true hB]
 simp only[Bool.not_true,cond_false]
 by_cases hT:now+1≤H[j].2.2∧H[j].2.2≤now+1048576
 case neg=>rw[and_dec,decide_eq_false hT];exact .inl ⟨rfl,fun h=>hT ⟨h.1.till1,h.1.till2⟩⟩
 rw[and_dec,decide_eq_true hT]
 simp only[Bool.not_true,cond_false]
 by_cases hI:findL L H[j].1 H[j].2.1 = -1
 case neg=>
  rw[decide_eq_false hI]
  exact .inl ⟨rfl,fun h=>hI ((findL_none _ _ _).2 h.1.free)⟩
 rw[decide_eq_true hI]
 simp only[Bool.not_true,cond_false]
 have hOK:HeldOK D now L H[j]:=⟨hB,hT.1,hT.2,(findL_none _ _ _).1 hI⟩
 by_cases hj0:0<j
 ·have hw:IntKind.wrap .i64 (((j:Nat):Int)-1)=((j-1:Nat):Int):=by rw[w64 (by omega) (by unfold Sz at hH;omega)];omega
  have hl1:j-1<H.length:=by omega
  rw[decide_eq_true (show (0:Int)<((j:Nat):Int) by omega),hw,ge0,ltn hl1,Int.toNat_natCast,rdH hl1,f133_eq]
  simp only[cond_true,Bool.and_self,Option.bind_some]
  by_cases hl:ltH (H[j-1]'(by omega)) H[j]
  ·unfold ltH at hl
   rw[decide_eq_true hl]
   exact .inr ⟨rfl,hOK,fun _=>hl⟩
  ·have hl':=hl
   unfold ltH at hl'
   rw[decide_eq_false hl']
   exact .inl ⟨rfl,fun h=>hl (h.2 hj0)⟩
 ·rw[decide_eq_false (show ¬ (0:Int)<((j:Nat):Int) by omega)]
  exact .inr ⟨rfl,hOK,fun h=>absurd h hj0⟩
theorem f87_eq (h0:0≤now)(h1:now≤1073741824)(hL:Sz L)(hH:Sz H) :
  f87 D.1.1 D.1.2 D.2.1.1 D.2.1.2 D.2.2.1 D.2.2.2.1 D.2.2.2.2.1 D.2.2.2.2.2 p.1 p.2.1 p.2.2.1 p.2.2.2 now P L H=some (decide (HeldsP D now L H),()):=by
 unfold f87
 obtain⟨r,e1,e2⟩:=it_inv (f:=u87_2) (fun x=>∃ j,x=st44 D p now P L H j∧j≤H.length∧HeldsP D now L (H.take j)) (fun x=>H.length-x.1.2.2.2.1.toNat)
  (fun r=>match r with
   | .inl y=>HeldsP D now L H
   | .inr z=>z.1.1=false∧¬ HeldsP D now L H) (by
  rintro x ⟨j,rfl,hj1,hj2⟩
  rcases Nat.lt_or_ge j H.length with hlt|hge
  ·rcases step44 (D:=D) (p:=p) (P:=P) h0 h1 hL hH j hlt with⟨hs,hn⟩|⟨hs,k⟩
   ·exact .inr (.inr ⟨_,hs,rfl,fun h=>hn ((HeldsP.snoc hlt (h.take j)).1 (h.take (j+1)))⟩)
   ·refine .inl ⟨_,hs,⟨j+1,rfl,by omega,(HeldsP.snoc hlt hj2).2 k⟩,?_⟩
    show H.length-Int.toNat (((j+1:Nat):Int))<H.length-Int.toNat ((j:Nat):Int)
    omega
  ·have:j=H.length:=by omega
   subst this
   refine .inr (.inl ⟨((),(),()),?_,?_⟩)
   ·simp only[st44,u87_2,t87_2,nlt,cond_false]
   ·rw[List.take_length] at hj2;exact hj2)
  big (st44 D p now P L H 0) ⟨0,rfl,by omega,by rw[List.take_zero];exact HeldsP.nil⟩ (by
   show H.length-Int.toNat ((0:Nat):Int)<big
   unfold big;unfold Sz at hH;omega)
 have e1':iter big u87_2 (((),H,((H.length:Nat):Int),0,()),((D.1.1,D.1.2,D.2.1.1,D.2.1.2,D.2.2.1,D.2.2.2.1,D.2.2.2.2.1,D.2.2.2.2.2,p.1,p.2.1,p.2.2.1,p.2.2.2,now,P,L,H,()),()),())=some r:=e1
 rw[e1']
 cases r with
 | inl y=>
  have e2:HeldsP D now L H:=e2
  rw[decide_eq_true e2];rfl
 | inr z=>
  obtain⟨k1,k2⟩:=e2
  simp only[Option.bind_some,k1]
  rw[decide_eq_false k2]
end
theorem f48_eq (s:ST)(hP:Sz s.2.2.2.1)(hL:Sz s.2.2.2.2.1)(hH:Sz s.2.2.2.2.2) :
  f48 s.1.1.1 s.1.1.2 s.1.2.1.1 s.1.2.1.2 s.1.2.2.1 s.1.2.2.2.1 s.1.2.2.2.2.1 s.1.2.2.2.2.2 s.2.1.1 s.2.1.2.1 s.2.1.2.2.1 s.2.1.2.2.2 s.2.2.1 s.2.2.2.1 s.2.2.2.2.1 s.2.2.2.2.2=some (decide (MayS s),()):=by
 unfold f48
 rw[f81_eq]
 simp only[Option.bind_some]
 by_cases c1:FitP s.1
 case neg=>rw[decide_eq_false c1,decide_eq_false (fun h=>c1 (MayS.fit h))];rfl
 rw[decide_eq_true c1,f82_eq]
 simp only[Option.bind_some,cond_true]
 by_cases c2:PolP s.2.1
 case neg=>rw[decide_eq_false c2,decide_eq_false (fun h=>c2 (MayS.pol h))];rfl
 rw[decide_eq_true c2,f83_eq,and_dec]
 simp only[Option.bind_some,cond_true]
 by_cases c3:0≤s.2.2.1∧s.2.2.1≤1073741824
 case neg=>rw[decide_eq_false c3,decide_eq_false (fun h=>c3 ⟨MayS.now0 h,MayS.now1 h⟩)];rfl
 rw[decide_eq_true c3]
 have h42:f85 s.1.1.1 s.1.1.2 s.1.2.1.1 s.1.2.1.2 s.1.2.2.1 s.1.2.2.2.1 s.1.2.2.2.2.1 s.1.2.2.2.2.2 s.2.1.1 s.2.1.2.1 s.2.1.2.2.1 s.2.1.2.2.2 s.2.2.1 s.2.2.2.1 s.2.2.2.2.1 s.2.2.2.2.2=some (szY s.1,()):=by
  unfold f85;rw[f116_eq];rfl
 rw[h42]
 simp only[Option.bind_some,cond_true,f84_eq]
 by_cases c4:PoolsP s.2.2.2.1 (szY s.1)
 case neg=>rw[decide_eq_false c4,decide_eq_false (fun h=>c4 (MayS.pools h))];rfl
 rw[decide_eq_true c4,f86_eq c2 c3.1 c3.2 hP hL]
 simp only[Option.bind_some,cond_true]
 by_cases c5:LeasesP s.1 s.2.1 s.2.2.1 s.2.2.2.1 s.2.2.2.2.1∧s.2.2.2.2.1.length≤32
 case neg=>rw[decide_eq_false c5,decide_eq_false (fun h=>c5 ⟨MayS.leases h,MayS.len h⟩)];rfl
 rw[decide_eq_true c5,f87_eq c3.1 c3.2 hL hH]
 simp only[Option.bind_some,cond_true]
 by_cases c6:HeldsP s.1 s.2.2.1 s.2.2.2.2.1 s.2.2.2.2.2
 case neg=>rw[decide_eq_false c6,decide_eq_false (fun h=>c6 (MayS.helds h))]
 rw[decide_eq_true c6,decide_eq_true (show MayS s from ⟨c1,c2,c3.1,c3.2,c4,c5.1,c5.2,c6⟩)]
structure Sm (s:ST):Prop where
 p:s.2.2.2.1.length≤1000
 l:s.2.2.2.2.1.length≤1000
 h:s.2.2.2.2.2.length≤1000
theorem Sm.szP {s:ST}(h:Sm s):Sz s.2.2.2.1:=by have:=h.p;unfold Sz;omega
theorem Sm.szL {s:ST}(h:Sm s):Sz s.2.2.2.2.1:=by have:=h.l;unfold Sz;omega
theorem Sm.szH {s:ST}(h:Sm s):Sz s.2.2.2.2.2:=by have:=h.h;unfold Sz;omega
theorem f73_eq (a b c:Int):f73 a b c=some (decide (rng a b c),()):=by
 unfold f73 rng
 by_cases h:b≤a
 ·simp[h]
 ·simp[h]
theorem and3 (p q r:Prop)[Decidable p][Decidable q][Decidable r]:(cond (decide p) (cond (decide q) (some (decide r,())) (some (false,()))) (some (false,())):Option (Bool×Unit))=some (decide (p∧q∧r),()):=by
 by_cases hp:p<;>by_cases hq:q<;>simp[hp,hq]
theorem f74_eq (e:ET):f74 e.1 e.2.1 e.2.2.1 e.2.2.2.1 e.2.2.2.2.1 e.2.2.2.2.2.1 e.2.2.2.2.2.2.1 e.2.2.2.2.2.2.2.1 e.2.2.2.2.2.2.2.2=some (decide (MayE e),()):=by
 obtain⟨k,at',a,b,c,q,i,o,p⟩:=e
 have h39:=f82_eq (q,i,o,p)
 simp only at h39 ⊢
 unfold f74
 simp only[f73_eq,h39,Option.bind_some,and3]
 by_cases hat:rng at' 0 1073741824
 case neg=>
  rw[decide_eq_false hat,decide_eq_false (fun h:MayE _=>hat h.1)];rfl
 rw[decide_eq_true hat]
 simp only[Bool.not_true,cond_false]
 by_cases h6:k=6
 ·subst h6
  have d0:decide ((6:Int)=0)=false:=rfl
  have d1:decide ((6:Int)=1)=false:=rfl
  have d2:decide ((6:Int)=2)=false:=rfl
  have d3:decide ((6:Int)=3)=false:=rfl
  have d4:decide ((6:Int)=4)=false:=rfl
  have d5:decide ((6:Int)=5)=false:=rfl
  simp only[d0,d1,d2,d3,d4,d5,decide_true,Bool.not_true,cond_true,cond_false]
  by_cases hp:PolP (q,i,o,p)
  ·rw[decide_eq_true hp]
   simp only[Bool.not_true,cond_false]
   have:(rng a 0 0∧rng b 0 0∧rng c 0 0)↔MayE (6,at',a,b,c,q,i,o,p):=by
    unfold MayE evBody
    simp[hat,hp]
   rw[decide_eq_decide.2 this]
  ·rw[decide_eq_false hp]
   have:¬ MayE (6,at',a,b,c,q,i,o,p):=by
    unfold MayE evBody
    simp[hp]
   rw[decide_eq_false this];rfl
 ·rw[decide_eq_false h6]
  simp only[Bool.not_false,cond_true]
  by_cases hz:(q,i,o,p)=((0,0,0,false):PT)
  case neg=>
   have:(decide (q=0)&&(decide (i=0)&&(decide (o=0)&&((p == false)&&true))))=false:=by
    rw[Bool.eq_false_iff]
    intro h
    simp only[Bool.and_eq_true,decide_eq_true_eq,beq_iff_eq] at h
    exact hz (by rw[h.1,h.2.1,h.2.2.1,h.2.2.2.1])
   rw[this,decide_eq_false (fun h:MayE _=>hz (h.2.1 h6))];rfl
  have hz':=hz
  simp only[Prod.mk.injEq] at hz'
  obtain⟨rfl,rfl,rfl,rfl⟩:=hz'
  have e1:(decide ((0:Int)=0)&&(decide ((0:Int)=0)&&(decide ((0:Int)=0)&&((false == false)&&true))))=true:=rfl
  rw[e1]
  simp only[Bool.not_true,cond_false]
  have fin:∀ (X:Prop) [Decidable X],(X↔evBody k a b c (0,0,0,false))→decide X=decide (MayE (k,at',a,b,c,0,0,0,false)):=fun X _ h=>by
   rw[decide_eq_decide,h]
   unfold MayE
   simp[hat]
  by_cases k0:k=0
  ·subst k0;rw[← fin (rng a 0 31∧rng b 0 3∧rng c 0 7) (by unfold evBody;simp)];rfl
  rw[decide_eq_false k0]
  simp only[cond_false]
  by_cases k1:k=1
  ·subst k1;rw[← fin (rng a 0 31∧rng b 0 3∧rng c 0 7) (by unfold evBody;simp)];rfl
  rw[decide_eq_false k1]
  simp only[cond_false]
  by_cases k2:k=2
  ·subst k2;rw[← fin (rng a 0 3∧rng b 1 4∧rng c 0 0) (by unfold evBody;simp)];rfl
  rw[decide_eq_false k2]
  simp only[cond_false]
  by_cases k4:k=4
  ·subst k4;rw[← fin (rng a 0 2∧rng b 1 4∧rng c 0 0) (by unfold evBody;simp)];rfl
  rw[decide_eq_false k4]
  simp only[cond_false]
  by_cases k3:k=3
  ·subst k3;rw[← fin (rng a 0 2∧rng b 0 0∧rng c 0 0) (by unfold evBody;simp)];rfl
  rw[decide_eq_false k3]
  simp only[cond_false]
  by_cases k5:k=5
  ·subst k5;rw[← fin (rng a 0 2∧rng b 0 0∧rng c 0 0) (by unfold evBody;simp)];rfl
  rw[decide_eq_false k5]
  simp only[cond_false]
  have:¬ MayE (k,at',a,b,c,0,0,0,false):=by
   unfold MayE evBody
   simp[k0,k1,k2,k3,k4,k5,h6]
  rw[decide_eq_false this]
end Go.Proofs.Zz
