/- P18a, P18b, P18c, P18d, P18e, P18f, P18g, P18h, P18i, P18j. -/
import Derived.Test.YtckgffnmfgjehaaGreatPU
import Derived.Test.YtckgffnmfgjehaaGreatFI
import Derived.KernelRfl
open Option renaming bind_some → ae
open Bool renaming not_true → al, and_self → aw, not_false → ba, and_eq_false_iff → dd, true_and → fg
open Int renaming toNat_natCast → ap, tdiv_eq_ediv_of_nonneg → cd, toNat → dj, ediv_le_self → ft, zero_add → gg, ediv_nonneg → gk, tdiv → im
open Go.IntKind renaming wrap → be
open List renaming length_take → bi, length_drop → bm, length_filter_le → cf, length_append → cn, take_length → db, findIdx_le_length → dk, append_assoc → dp, mem_singleton → dt, take_zero → du, findIdx_lt_length → dv, drop_zero → dC, eraseIdx_eq_take_drop_succ → dE, take_append_of_le_length → eh, take_left' → eI, length_map → eJ, getD_eq_getElem?_getD → fa, drop_eq_getElem_cons → fb, getElem?_eq_getElem → fj, mem_append → gl, length_replicate → gn, length_mergeSort → h9, eraseIdx_sublist → ib, replicate → ik, length → il
open Nat renaming ble_eq_true_of_le → bj, le_trans → da, shiftRight_eq_div_pow → dq, le_refl → ee, lt_or_ge → eK, sub_zero → eQ, zero_add → fx
namespace Go.Proofs.Zz
open Go Go.Sy
set_option linter.unusedSimpArgs false
set_option linter.unusedVariables false
theorem BV (b k:Int):f61 b k=some (decide (lQ b k),()):=by
 unfold f61
 by_cases h1:0≤k
 case neg=>simp[h1,lQ]
 by_cases h2:k≤32
 case neg=>simp[h1,h2,lQ]
 by_cases h3:0≤b
 case neg=>simp[h1,h2,h3,lQ]
 by_cases h4:b<4294967296
 case neg=>simp[h1,h2,h3,h4,lQ]
 have w:be .i64 (32-k)=32-k:=bY (by omega) (by omega)
 have hneg:decide (be .i64 (32-k)<0)=false:=by rw[w];simp;omega
 have hs:=H7 h1
 have hp:=u6 k
 rw[Qt h1 h2,hneg,bY (show -9223372036854775808≤sO k-1 by omega) (by omega)]
 obtain⟨n,rfl⟩:∃ n:Nat,b=n:=⟨b.toNat,by omega⟩
 have e:aG .and .i64 (n:Int) (sO k-1)=(n:Int) % sO k:=by
  unfold sO
  rw[jS (by omega) (by omega)];rfl
 simp only[h1,h2,h3,h4,e,decide_true,cond_true,ba,lQ,true_and]
theorem jj (b k:Int):f29 b k=some (b8 b k,()):=by
 unfold f29
 rw[BV]
 unfold b8
 by_cases h:lQ b k
 ·have w:be .i64 (32-k)=32-k:=bY (by have:=h.1;have:=h.2.1;omega) (by have:=h.1;have:=h.2.1;omega)
  have hneg:decide (be .i64 (32-k)<0)=false:=by rw[w];have:=h.2.1;simp;omega
  simp only[ae,h,decide_true,al,cond_false,hneg,ba,cond_true,if_true,Qt h.1 h.2.1]
 ·simp[h]
theorem MP (b k a:Int):f90 b k a=some (sM b k a,()):=by
 unfold f90
 rw[BV]
 unfold sM
 by_cases hm:lQ b k
 case neg=>simp[hm]
 by_cases h1:a<0
 ·have h:¬ (b≤a):=by have:=hm.2.2.1;omega
  simp[hm,h1,h]
 by_cases h2:4294967296≤a
 ·have h:¬ (a<b+sO k):=by have:=NF hm;omega
  simp[hm,h1,h2,h]
 have w:be .i64 (32-k)=32-k:=bY (by have:=hm.1;have:=hm.2.1;omega) (by have:=hm.1;have:=hm.2.1;omega)
 have hneg:decide (be .i64 (32-k)<0)=false:=by rw[w];have:=hm.2.1;simp;omega
 have hmin:min (dj (be .i64 (32-k))) 64=(32-k).toNat:=by rw[w,Nat.min_eq_left];have:=hm.1;omega
 obtain⟨n,rfl⟩:∃ n:Nat,b=n:=⟨b.toNat,by have:=hm.2.2.1;omega⟩
 obtain⟨j,rfl⟩:∃ j:Nat,a=j:=⟨a.toNat,by omega⟩
 have hb:=hm.2.2.2.1
 have hn:n % 2 ^ (32-k).toNat=0:=by
  have:=hm.2.2.2.2
  unfold sO at this
  have h:(n:Int) % ((2 ^ (32-k).toNat:Nat):Int)=((n % 2 ^ (32-k).toNat:Nat):Int):=rfl
  rw[h] at this
  omega
 have e:decide (Int.fdiv (aG .xor .i64 (j:Int) (n:Int)) ((2:Int) ^ ((min (dj (be .i64 (32-k))) 64):Nat))=0)=decide ((n:Int)≤j∧(j:Int)<n+sO k):=by
  rw[hmin,Vj (by omega) (by omega),fdiv_pow]
  have h1:(j ^^^ n) / 2 ^ (32-k).toNat=(j / 2 ^ (32-k).toNat) ^^^ (n / 2 ^ (32-k).toNat):=by
   rw[← dq,← dq,← dq,Nat.shiftRight_xor_distrib]
  have h2:(j ^^^ n) / 2 ^ (32-k).toNat=0↔j / 2 ^ (32-k).toNat=n / 2 ^ (32-k).toNat:=by
   rw[h1];exact xor_zero _ _
  have h3:=MY (a:=j) (Nat.two_pow_pos (32-k).toNat) hn
  unfold sO
  rw[decide_eq_decide]
  constructor
  ·intro h
   have:=h3.1 (h2.1 (by omega))
   omega
  ·intro h
   have:=h2.2 (h3.2 (by omega))
   omega
 rw[e]
 simp only[hm,h1,h2,hneg,decide_true,decide_false,ae,al,ba,cond_false,cond_true,true_and]
 by_cases hin:(n:Int)≤j∧(j:Int)<n+sO k
 ·rw[decide_eq_true hin,if_pos hin,bY (by omega) (by omega)];rfl
 ·rw[decide_eq_false hin,if_neg hin];rfl
theorem Wi (b k b' k':Int):f54 b k b' k'=some (decide (zH b k b' k'),()):=by
 unfold f54
 rw[BV,BV,MP,MP]
 unfold zH
 by_cases h1:lQ b k
 case neg=>simp[h1]
 by_cases h2:lQ b' k'
 case neg=>simp[h1,h2]
 have e1:=Fl b k b'
 have e2:=Fl b' k' b
 simp only[h1,h2,true_and] at e1 e2
 by_cases h3:sM b k b' = -1
 ·have:¬ (b≤b'∧b'<b+sO k):=fun h=>e1.2 h h3
  by_cases h4:sM b' k' b = -1
  ·have h5:¬ (b'≤b∧b<b'+sO k'):=fun h=>e2.2 h h4
   simp[h1,h2,h3,h4,this,h5]
  ·have h5:=e2.1 h4
   simp[h1,h2,h3,h4,this,h5]
 ·have:=e1.1 h3
  simp[h1,h2,h3,this]
theorem Wu (a b c:Int):f51 a b c=some (decide (b≤a)&&decide (a≤c),()):=by
 unfold f51
 cases decide (b≤a)<;>rfl
theorem AX (a b c:Int):f107 a b c=some (decide (b≤a)&&decide (a≤c),()):=by
 unfold f107
 cases decide (b≤a)<;>rfl
theorem An {a b c d e f g h:Int}(hx:1≤b8 a b)(hy:1≤b8 c d):f30 a b c d e f g h=some (Lg (b8 a b) (b8 c d),()):=by
 unfold f30 td
 rw[jj,jj]
 simp only[ae]
 have hx2:=(mo a b).2
 generalize b8 a b=x at hx hx2 ⊢
 generalize b8 c d=y at hy ⊢
 have:(cond (decide (y<x)) y x)≠0:=by
  by_cases h:y<x
  ·rw[decide_eq_true h];show y≠0;omega
  ·rw[decide_eq_false h];show x≠0;omega
 rw[decide_eq_false this,decide_eq_false (show ¬ y=0 by omega)]
 simp only[ba,cond_true,cond_false]
 have e1:be .i64 (x-1)=x-1:=bY (by omega) (by omega)
 have h1:0≤(x-1) / y:=gk (by omega) (by omega)
 have h2:(x-1) / y≤x-1:=ft _ (by omega)
 have e2:im (x-1) y=(x-1) / y:=cd (by omega)
 rw[e1,e2,bY (x:=(x-1) / y) (by omega) (by omega),bY (x:=(x-1) / y+1) (by omega) (by omega)]
 rfl
theorem MM (a b c d e f g h:Int):∃ r,f30 a b c d e f g h=some (r,()):=by
 unfold f30 td
 rw[jj,jj]
 simp only[ae]
 have h1:=(mo a b).1
 have h2:=(mo c d).1
 generalize b8 a b=x at h1 ⊢
 generalize b8 c d=y at h2 ⊢
 by_cases hy:y=0
 ·subst hy
  have:(cond (decide ((0:Int)<x)) 0 x)=0:=by
   by_cases hx:(0:Int)<x
   ·rw[decide_eq_true hx];rfl
   ·rw[decide_eq_false hx];show x=0;omega
  rw[decide_eq_true this]
  exact⟨_,rfl⟩
 ·rw[decide_eq_false hy]
  cases decide ((cond (decide (y<x)) y x)=0)<;>exact⟨_,rfl⟩
theorem PE {e f g:Int}(h1:1≤e)(h2:e≤f)(h3:f≤65535)(h4:0≤g)(h5:g≤f-e)(a b c d h:Int):f58 a b c d e f g h=some (f-e+1-g,()):=by
 unfold f58
 rw[bY (x:=f-e) (by omega) (by omega),bY (x:=f-e+1) (by omega) (by omega),bY (by omega) (by omega)]
theorem Zm (a b c d e f g h:Int):∃ r,f28 a b c d e f g h=some (r,())∧(r=true↔iL ((a,b),(c,d),e,f,g,h)):=by
 obtain⟨q,hq⟩:=MM a b c d e f g h
 unfold f28
 rw[jj,jj]
 simp only[ae,Wu,Wi,hq]
 by_cases c1:1≤b8 a b∧b8 a b≤32
 case neg=>
  have:(decide (1≤b8 a b)&&decide (b8 a b≤32))=false:=by rw[dd,decide_eq_false_iff_not,decide_eq_false_iff_not];omega
  rw[this]
  exact⟨_,rfl,by simp,fun F=>absurd ⟨F.x1,F.x2⟩ c1⟩
 rw[decide_eq_true c1.1,decide_eq_true c1.2]
 by_cases c2:1≤b8 c d∧b8 c d≤4
 case neg=>
  have:(decide (1≤b8 c d)&&decide (b8 c d≤4))=false:=by rw[dd,decide_eq_false_iff_not,decide_eq_false_iff_not];omega
  rw[this]
  exact⟨_,rfl,by simp,fun F=>absurd ⟨F.y1,F.y2⟩ c2⟩
 rw[decide_eq_true c2.1,decide_eq_true c2.2]
 simp only[aw,cond_true,al,cond_false,Bool.not_not]
 by_cases cm:zH a b c d
 ·rw[decide_eq_true cm]
  exact⟨_,rfl,by simp,fun F=>absurd cm F.meet⟩
 rw[decide_eq_false cm]
 simp only[cond_false]
 by_cases c3:1≤e∧e≤f
 case neg=>
  have:(decide (1≤e)&&decide (e≤f))=false:=by rw[dd,decide_eq_false_iff_not,decide_eq_false_iff_not];omega
  rw[this]
  exact⟨_,rfl,by simp,fun F=>absurd ⟨F.ZK,F.lo2⟩ c3⟩
 rw[decide_eq_true c3.1,decide_eq_true c3.2]
 simp only[aw,cond_true]
 by_cases c4:f≤65535
 case neg=>
  rw[decide_eq_false c4]
  exact⟨_,rfl,by simp,fun F=>absurd F.hi c4⟩
 rw[decide_eq_true c4,bY (x:=f-e) (by omega) (by omega)]
 simp only[al,cond_false]
 by_cases c6:0≤g∧g≤f-e
 case neg=>
  have:(decide (0≤g)&&decide (g≤f-e))=false:=by rw[dd,decide_eq_false_iff_not,decide_eq_false_iff_not];omega
  rw[this]
  exact⟨_,rfl,by simp,fun F=>absurd ⟨F.g1,F.g2⟩ c6⟩
 rw[decide_eq_true c6.1,decide_eq_true c6.2]
 simp only[aw,cond_true]
 by_cases c7:1≤h∧h≤65535
 case neg=>
  have:(decide (1≤h)&&decide (h≤65535))=false:=by rw[dd,decide_eq_false_iff_not,decide_eq_false_iff_not];omega
  rw[this]
  exact⟨_,rfl,by simp,fun F=>absurd ⟨F.h1,F.h2⟩ c7⟩
 rw[decide_eq_true c7.1,decide_eq_true c7.2,decide_eq_false (show ¬ h=0 by omega)]
 simp only[aw,cond_true,ba]
 have e2:im g h=g / h:=cd c6.1
 have p1:0≤g / h:=gk c6.1 (by omega)
 have p2:g / h≤g:=ft _ c6.1
 rw[e2,bY (by omega) (by omega)]
 by_cases c8:g / h≤8
 case neg=>
  rw[decide_eq_false c8]
  exact⟨_,rfl,by simp,fun F=>absurd F.blk c8⟩
 rw[decide_eq_true c8,PE c3.1 c3.2 c4 c6.1 c6.2]
 simp only[al,cond_false,ae]
 rw[An c1.1 c2.1,Option.some.injEq,Prod.mk.injEq] at hq
 obtain⟨hq,_⟩:=hq
 by_cases c9:q≤f-e+1-g
 ·rw[decide_eq_true c9]
  exact⟨_,rfl,fun _=>⟨c1.1,c1.2,c2.1,c2.2,cm,c3.1,c3.2,c4,c6.1,c6.2,c7.1,c7.2,c8,by rw[← hq] at c9;exact c9⟩,fun _=>rfl⟩
 ·rw[decide_eq_false c9]
  exact⟨_,rfl,by simp,fun F=>absurd (by have:=F.sh;rw[← hq];exact this) c9⟩
theorem BK (D:DT):f28 D.1.1 D.1.2 D.2.1.1 D.2.1.2 D.2.2.1 D.2.2.2.1 D.2.2.2.2.1 D.2.2.2.2.2=some (decide (iL D),()):=by
 obtain⟨r,h1,h2⟩:=Zm D.1.1 D.1.2 D.2.1.1 D.2.1.2 D.2.2.1 D.2.2.2.1 D.2.2.2.2.1 D.2.2.2.2.2
 rw[h1]
 have:r=decide (iL D):=by
  by_cases hf:iL D
  ·rw[decide_eq_true hf];exact h2.2 hf
  ·rw[decide_eq_false hf]
   cases r with
   | false=>rfl
   | true=>exact absurd (h2.1 rfl) hf
 rw[this]
section
variable {D:DT}
theorem NN (F:iL D):f31 D.1.1 D.1.2 D.2.1.1 D.2.1.2 D.2.2.1 D.2.2.2.1 D.2.2.2.2.1 D.2.2.2.2.2=some (each D,()):=by
 have hr:=F.Tj
 have he:=F.Q1
 unfold f31
 rw[BK,decide_eq_true F,PE F.ZK F.lo2 F.hi F.g1 F.g2,An F.x1 F.y1]
 simp only[ae,al,cond_false]
 have er:Lg (b8 D.1.1 D.1.2) (b8 D.2.1.1 D.2.1.2)=pG D:=rfl
 rw[er,decide_eq_false (show ¬ pG D=0 by omega)]
 simp only[ba,cond_true]
 have hs:0≤CV D-Hg D+1-jq D:=by have:=F.g2;omega
 have p2:(CV D-Hg D+1-jq D) / pG D≤CV D-Hg D+1-jq D:=ft _ hs
 have e2:im (CV D-Hg D+1-jq D) (pG D)=each D:=cd hs
 unfold each at he e2 ⊢
 rw[e2,bY (by omega) (by have:=F.hi;have:=F.ZK;have:=F.g1;omega)]
theorem Zg (sub:Int):f13 D.1.1 D.1.2 D.2.1.1 D.2.1.2 D.2.2.1 D.2.2.2.1 D.2.2.2.2.1 D.2.2.2.2.2 sub=some (if Cs D sub then Rk D sub else (0,0,0),decide (Cs D sub),()):=by
 unfold f13
 rw[BK]
 simp only[ae]
 by_cases F:iL D
 case neg=>
  have:¬ Cs D sub:=fun h=>F h.1
  rw[decide_eq_false F,decide_eq_false this,if_neg this];rfl
 rw[decide_eq_true F]
 simp only[al,cond_false]
 by_cases h0:sub<0
 ·have:¬ Cs D sub:=fun h=>by have:=h.2.1;omega
  rw[decide_eq_true h0,decide_eq_false this,if_neg this];rfl
 rw[decide_eq_false h0,jj]
 simp only[cond_false,ae]
 have ex:b8 D.1.1 D.1.2=Mx D:=rfl
 by_cases h1:Mx D≤sub
 ·have:¬ Cs D sub:=fun h=>by have:=h.2.2;omega
  rw[ex,decide_eq_true h1,decide_eq_false this,if_neg this];rfl
 have hS:Cs D sub:=⟨F,by omega,by omega⟩
 rw[ex,decide_eq_false h1,An F.x1 F.y1,NN F,decide_eq_true hS,if_pos hS]
 simp only[cond_false,ae]
 have er:Lg (b8 D.1.1 D.1.2) (b8 D.2.1.1 D.2.1.2)=pG D:=rfl
 rw[er]
 have hr:=F.Tj
 have he:=F.Q1
 obtain⟨q1,q2,q3,q4,q5⟩:=F.base (sub:=sub) (by omega) (by omega)
 rw[decide_eq_false (show ¬ pG D=0 by omega)]
 simp only[ba,cond_true]
 have t1:im sub (pG D)=sub / pG D:=cd (by omega)
 have t2:Int.tmod sub (pG D)=sub % pG D:=Int.tmod_eq_emod_of_nonneg (by omega)
 have hy2:=F.y2
 have hhi:=F.hi
 have hlo:=F.ZK
 have hg:=F.g1
 unfold Rk
 unfold jz at q3 q4 ⊢
 rw[t1,t2]
 generalize sub % pG D * each D=k at q3 q4 q5 ⊢
 generalize each D=w at he q4 ⊢
 rw[bY (x:=sub / pG D) (by omega) (by omega),bY (x:=k) (by omega) (by omega),bY (x:=Hg D+k) (by omega) (by omega),bY (x:=Hg D+k+w) (by omega) (by omega),bY (x:=Hg D+k+w-1) (by omega) (by omega)]
theorem Xi:f33 D.1.1 D.1.2 D.2.1.1 D.2.1.2 D.2.2.1 D.2.2.2.1 D.2.2.2.2.1 D.2.2.2.2.2=some (if iL D then zT D else 0,()):=by
 unfold f33
 rw[BK]
 simp only[ae]
 by_cases F:iL D
 case neg=>rw[decide_eq_false F,if_neg F];rfl
 rw[decide_eq_true F,if_pos F]
 have h1:=F.h1
 have g1:=F.g1
 simp only[al,cond_false]
 rw[decide_eq_false (show ¬ FA D=0 by omega)]
 have e2:im D.2.2.2.2.1 D.2.2.2.2.2=zT D:=cd g1
 have p1:0≤zT D:=gk g1 (by omega)
 have:=F.blk
 rw[e2,bY (by omega) (by omega)]
 rfl
theorem I2 (at' blk:Int):f148 D.1.1 D.1.2 D.2.1.1 D.2.1.2 D.2.2.1 D.2.2.2.1 D.2.2.2.2.1 D.2.2.2.2.2 at' blk=some (if sn D at' blk then ZW D at' blk else (0,0,0),decide (sn D at' blk),()):=by
 unfold f148
 rw[jj,Xi]
 simp only[ae]
 have ey:b8 D.2.1.1 D.2.1.2=o6 D:=rfl
 rw[ey]
 by_cases h0:at'<0
 ·have:¬ sn D at' blk:=fun h=>by have:=h.2.1.1;omega
  rw[decide_eq_true h0,decide_eq_false this,if_neg this];rfl
 rw[decide_eq_false h0]
 simp only[cond_false]
 by_cases h1:o6 D≤at'
 ·have:¬ sn D at' blk:=fun h=>by have:=h.2.1.2;omega
  rw[decide_eq_true h1,decide_eq_false this,if_neg this];rfl
 rw[decide_eq_false h1]
 simp only[cond_false]
 by_cases h2:blk<0
 ·have:¬ sn D at' blk:=fun h=>by have:=h.2.2.1;omega
  rw[decide_eq_true h2,decide_eq_false this,if_neg this];rfl
 rw[decide_eq_false h2]
 simp only[cond_false]
 by_cases F:iL D
 case neg=>
  have:¬ sn D at' blk:=fun h=>F h.1
  rw[if_neg F,decide_eq_true (show (0:Int)≤blk by omega),decide_eq_false this,if_neg this];rfl
 rw[if_pos F]
 by_cases h3:zT D≤blk
 ·have:¬ sn D at' blk:=fun h=>by have:=h.2.2.2;omega
  rw[decide_eq_true h3,decide_eq_false this,if_neg this];rfl
 have hB:sn D at' blk:=⟨F,by omega,by omega,by omega⟩
 rw[decide_eq_false h3,decide_eq_true hB,if_pos hB]
 obtain⟨q1,q2⟩:=F.block (blk:=blk) (by omega) (by omega)
 have:=F.g2
 have:=F.hi
 have:=F.ZK
 have:=F.h1
 have:=F.g1
 simp only[cond_false]
 unfold ZW
 generalize blk * FA D=k at q1 q2 ⊢
 rw[bY (x:=k) (by omega) (by omega),bY (x:=CV D-jq D) (by omega) (by omega),bY (x:=CV D-jq D+1) (by omega) (by omega),bY (x:=CV D-jq D+1+k) (by omega) (by omega),bY (x:=CV D-jq D+1+k+FA D) (by omega) (by omega),bY (x:=CV D-jq D+1+k+FA D-1) (by omega) (by omega)]
end
theorem Br (a b c at':Int):f177 a b c at'=some (hasB (a,b,c) at',()):=by
 unfold f177 hasB
 by_cases h1:0≤a
 ·rw[decide_eq_true h1]
  by_cases h2:a≤4
  ·rw[decide_eq_true h2]
   by_cases h3:1≤b
   ·rw[decide_eq_true h3]
    by_cases h4:b≤4
    ·rw[decide_eq_true h4,bY (x:=a+b) (by omega) (by omega)]
     cases decide (a≤at')<;>rfl
    ·rw[decide_eq_false h4];rfl
   ·rw[decide_eq_false h3];rfl
  ·rw[decide_eq_false h2];rfl
 ·rw[decide_eq_false h1];rfl
theorem Um (l:List HT)(hl:Sz l)(at':Int):f149 l at'=some (Au l at',()):=by
 unfold f149
 have e:iter az e9 ((l,(),((l.length:Nat):Int),0,()),((at',()),()),())=_:=
  iz l (fun p=>hasB p at') (fun j=>((l,(),((l.length:Nat):Int),((j:Nat):Int),()),((at',()),()),())) (fun j=>((((j:Nat):Int),()),((at',()),()),()))
   (y:=((),((at',()),()),())) (fun j h=>by
    simp only[e9,kO,gp h,eL,cond_true,aw,ap,JZ h,Br,ae,nx h hl])
   (by simp only[e9,kO,ow,cond_false]) (fuel:=az) (by unfold az;omega)
 rw[e]
 unfold Au
 split<;>rfl
theorem JO (a b c d:Int):f150 a b c d=some (decide (vm c d a b),()):=by
 unfold f150
 by_cases h1:c<a
 ·rw[decide_eq_true h1,decide_eq_true (show vm c d a b from .inl h1)];rfl
 ·rw[decide_eq_false h1]
  by_cases h2:a=c
  ·rw[decide_eq_true h2]
   have:(d<b)↔vm c d a b:=by unfold vm;omega
   simp only[cond_false,cond_true,decide_eq_decide.2 this]
  ·rw[decide_eq_false h2,decide_eq_false (show ¬ vm c d a b by unfold vm;omega)];rfl
theorem zX (a b c d e:Int):f179 a b c d e=some ((b,c),()):=by unfold f179 f189;rfl
theorem uy (l:List LT)(hl:Sz l)(a b:Int):f151 l a b=some (gT l a b,()):=by
 unfold f151
 have e:iter az fk ((l,(),((l.length:Nat):Int),0,()),((a,b,()),((),()),()),())=_:=
  iz l (tL a b) (fun j=>((l,(),((l.length:Nat):Int),((j:Nat):Int),()),((a,b,()),((),()),()),())) (fun j=>((((j:Nat):Int),()),((a,b,()),((),()),()),()))
   (y:=((),((a,b,()),((),()),()),())) (fun j h=>by
    simp only[fk,kf,gp h,eL,cond_true,aw,ap,N8 h,zX,ae,tL,Bool.and_true,nx h hl])
   (by simp only[fk,kf,ow,cond_false]) (fuel:=az) (by unfold az;omega)
 rw[e]
 unfold gT
 split<;>rfl
theorem KE {p q:HT}{out:Int}(hp:iR p out)(hq:iR q out)(ho:out≤4):f145 p.1 p.2.1 p.2.2 q.1 q.2.1 q.2.2=some (iS p q,()):=by
 obtain⟨p1,p2,p3,p4,_⟩:=hp
 obtain⟨q1,q2,q3,q4,_⟩:=hq
 unfold f145 iS
 rw[bY (x:=q.1+q.2.1) (by omega) (by omega),bY (x:=p.1+p.2.1) (by omega) (by omega)]
 cases decide (p.1<q.1+q.2.1)<;>rfl
theorem I5 (p:HT)(out:Int)(h0:0≤out)(h1:out≤4):f146 p.1 p.2.1 p.2.2 out=some (decide (iR p out),()):=by
 unfold f146 iR
 by_cases c1:0≤p.1
 ·by_cases c2:1≤p.2.1
  ·by_cases c3:p.1<out
   ·rw[bY (x:=out-p.1) (by omega) (by omega)]
    by_cases c4:p.2.1≤out-p.1
    ·by_cases c5:0≤p.2.2
     ·simp[c1,c2,c3,c4,c5]
     ·simp[c1,c2,c3,c4,c5]
    ·simp[c1,c2,c3,c4]
   ·simp[c1,c2,c3]
  ·simp[c1,c2]
 ·simp[c1]
def Mt (M:List HT)(out:Int):Prop:=(∀ p∈M,iR p out)∧M.Pairwise fun p q=>iS q p=false
theorem Mt.take {l:List HT}{out:Int}(h:Mt l out)(j:Nat):Mt (l.take j) out:=
 ⟨fun p hp=>h.1 p (List.mem_of_mem_take hp),h.2.sublist (List.take_sublist j l)⟩
theorem Mt.snoc {l:List HT}{out:Int}{j:Nat}(hj:j<l.length):Mt (l.take (j+1)) out↔Mt (l.take j) out∧iR l[j] out∧(l.take j).any (fun q=>iS l[j] q)=false:=by
 rw[bC hj]
 unfold Mt
 rw[List.pairwise_append]
 constructor
 ·intro ⟨h1,h2,h3,h4⟩
  refine⟨⟨fun p hp=>h1 p (gl.2 (.inl hp)),h2⟩,h1 _ (gl.2 (.inr (dt.2 rfl))),?_⟩
  rw[List.any_eq_false]
  intro q hq
  rw[h4 q hq _ (dt.2 rfl)];simp
 ·intro ⟨⟨h1,h2⟩,h3,h4⟩
  refine⟨fun p hp=>?_,h2,List.pairwise_singleton _ _,fun a ha b hb=>?_⟩
  ·rcases gl.1 hp with hp|hp
   ·exact h1 p hp
   ·rw[dt] at hp;rw[hp];exact h3
  ·rw[dt] at hb;subst hb
   rw[List.any_eq_false] at h4
   simpa using h4 a ha
theorem TN (l:List HT)(hl:Sz l)(p:HT)(out:Int)(hp:iR p out)(ho:out≤4)(hf:∀ q∈l,iR q out) :
  iter az fA ((l,(),((l.length:Nat):Int),0,()),((p.1,p.2.1,p.2.2,()),()),()) =
   some (if l.findIdx (fun q=>iS p q)<l.length then .inr ((((l.findIdx (fun q=>iS p q):Nat):Int),()),((p.1,p.2.1,p.2.2,()),()),()) else .inl ((),((p.1,p.2.1,p.2.2,()),()),())):=
 iz l (fun q=>iS p q) (fun j=>((l,(),((l.length:Nat):Int),((j:Nat):Int),()),((p.1,p.2.1,p.2.2,()),()),())) (fun j=>((((j:Nat):Int),()),((p.1,p.2.1,p.2.2,()),()),()))
  (y:=((),((p.1,p.2.1,p.2.2,()),()),())) (fun j h=>by
   simp only[fA,kP,gp h,eL,cond_true,aw,ap,JZ h,KE hp (hf _ (List.getElem_mem h)) ho,ae,nx h hl])
  (by simp only[fA,kP,ow,cond_false]) (fuel:=az) (by unfold az;omega)
theorem qP (l:List HT)(out:Int):f108 l out=some (decide (cF l out),()):=by
 unfold f108
 by_cases h0:out<0
 ·rw[decide_eq_true h0,decide_eq_false (show ¬ cF l out from fun h=>by have:=h.ZS;omega)];rfl
 rw[decide_eq_false h0]
 by_cases h4:4<out
 ·rw[decide_eq_true h4,decide_eq_false (show ¬ cF l out from fun h=>by have:=h.X7;omega)];rfl
 rw[decide_eq_false h4]
 by_cases h3:3<l.length
 ·rw[decide_eq_true (show (3:Int)<((l.length:Nat):Int) by omega),decide_eq_false (show ¬ cF l out from fun h=>by have:=h.len;omega)];rfl
 rw[decide_eq_false (show ¬ (3:Int)<((l.length:Nat):Int) by omega)]
 simp only[cond_false]
 let st:Nat→AH:=fun j=>((l,out,l,((l.length:Nat):Int),((j:Nat):Int),()),(),())
 obtain⟨r,e1,e2⟩:=jZ (f:=nq) (fun x=>∃ j,x=st j∧j≤l.length∧Mt (l.take j) out) (fun x=>l.length-x.1.2.2.2.2.1.toNat)
  (fun r=>match r with
   | .inl _=>Mt l out
   | .inr z=>z.1.1=false∧¬ Mt l out) (by
  rintro x ⟨j,rfl,hj1,hj2⟩
  rcases eK j l.length with hlt|hge
  ·have hb1:=I5 l[j] out (by omega) (by omega)
   have hsn:=Mt.snoc (out:=out) hlt
   by_cases hfit:iR l[j] out
   case neg=>
    rw[decide_eq_false hfit] at hb1
    refine .inr (.inr ⟨((false,()),(),()),?_,rfl,fun h=>hfit (hsn.1 (h.take _)).2.1⟩)
    simp only[st,nq,vM,gp hlt,eL,cond_true,aw,ap,JZ hlt,hb1,ae,ba]
   rw[decide_eq_true hfit] at hb1
   have htake:List.drop 0 (List.take j l)=l.take j:=by simp
   have hin:=TN (l.take j) (by unfold Sz;simp;omega) l[j] out hfit (by omega) hj2.1
   have hle:decide (((j:Nat):Int)≤((l.length:Nat):Int))=true:=decide_eq_true (by omega)
   by_cases hm:(l.take j).findIdx (fun q=>iS l[j] q)<(l.take j).length
   ·rw[if_pos hm] at hin
    refine .inr (.inr ⟨((false,()),(),()),?_,rfl,fun h=>?_⟩)
    ·simp only[st,nq,vM,gp hlt,eL,cond_true,aw,ap,JZ hlt,hb1,ae,al,cond_false,hle,htake,hin]
    ·have h1:=(hsn.1 (h.take _)).2.2
     rw[← ri,if_pos hm] at h1
     omega
   ·rw[if_neg hm] at hin
    have hno:(l.take j).any (fun q=>iS l[j] q)=false:=by rw[← ri,if_neg hm]
    refine .inl ⟨st (j+1),?_,⟨j+1,rfl,by omega,hsn.2 ⟨hj2,hfit,hno⟩⟩,?_⟩
    ·simp only[st,nq,vM,gp hlt,eL,cond_true,aw,ap,JZ hlt,hb1,ae,al,cond_false,hle,htake,hin,nx hlt (show l.length≤9223372036854775807 by omega)]
    ·show l.length-dj (((j+1:Nat):Int))<l.length-dj ((j:Nat):Int)
     omega
  ·have:j=l.length:=by omega
   subst this
   refine .inr (.inl ⟨((),(),()),?_,?_⟩)
   ·simp only[st,nq,vM,ow,cond_false]
   ·rw[db] at hj2;exact hj2)
  az (st 0) ⟨0,rfl,by omega,by rw[du];exact⟨by simp,by simp⟩⟩ (by simp only[st];unfold az;omega)
 have e1':iter az nq ((l,out,l,((l.length:Nat):Int),0,()),(),())=some r:=e1
 rw[e1']
 cases r with
 | inl y=>
  have e2:Mt l out:=e2
  rw[decide_eq_true (show cF l out from ⟨by omega,by omega,by omega,e2.1,e2.2⟩)];rfl
 | inr z=>
  obtain⟨k1,k2⟩:=e2
  rw[decide_eq_false (show ¬ cF l out from fun h=>k2 ⟨h.fits,h.apart⟩)]
  show some (z.1.1,())=_
  rw[k1]
theorem JW (p:PT):f106 p.1 p.2.1 p.2.2.1 p.2.2.2=some (decide (x6 p),()):=by
 unfold f106 x6
 simp only[AX,ae,uH]
 by_cases h1:1≤p.1∧p.1≤8
 ·by_cases h2:1≤p.2.1∧p.2.1≤1048576
  ·simp[h1,h2]
  ·rw[decide_eq_true h1,decide_eq_false h2]
   simp[h2]
 ·rw[decide_eq_false h1];simp[h1]
theorem KM (p:Int×Int)(l:List (Int×Int))(x v:Int):lR (p::l) x v=if x=p.1 then (p.1,v)::l else p::lR l x v:=by
 unfold lR
 by_cases h:x=p.1
 ·simp[lS,gB,r5,h]
 ·rw[if_neg h]
  simp only[lS,gB,decide_eq_false h,cond_false]
  cases lS l x<;>rfl
theorem wH (x v y:Int):∀ (l:List (Int×Int)),dx (lR l x v) y=if y=x then v else dx l y
 | []=>by
  show dx [(x,v)] y=_
  by_cases h:y=x<;>simp[dx,h]
 | p::l=>by
  rw[KM]
  by_cases h:x=p.1
  ·rw[if_pos h]
   simp only[dx]
   by_cases h2:y=p.1
   ·simp[h2,h]
   ·rw[decide_eq_false h2,if_neg (by rw[h];exact h2)];rfl
  ·rw[if_neg h]
   simp only[dx]
   by_cases h2:y=p.1
   ·rw[decide_eq_true h2,if_neg (by rw[h2];exact fun e=>h e.symm)];rfl
   ·rw[decide_eq_false h2]
    simp only[cond_false]
    exact wH x v y l
section
variable {D:DT}{p:PT}{now:Int}{P H:List HT}{L:List LT}
abbrev BI (D:DT)(p:PT)(now:Int)(P:List HT)(L:List LT)(H:List HT)(j:Nat)(mp:List (Int×Int)):r9:=
 (((),(),L,((L.length:Nat):Int),((j:Nat):Int),()),((D.1.1,D.1.2,D.2.1.1,D.2.1.2,D.2.2.1,D.2.2.2.1,D.2.2.2.2.1,D.2.2.2.2.2,p.1,p.2.1,p.2.2.1,p.2.2.2,now,P,L,H,()),mp,()),())
theorem YG (L:List LT)(s:Int):cnt L s≤L.length:=List.countP_le_length
theorem Wz (hp:x6 p)(h0:0≤now)(h1:now≤1073741824)(hP:Sz P)(hL:Sz L)(j:Nat)(mp:List (Int×Int))(hj:j<L.length)(hmp:∀ s,dx mp s=((cnt (L.take j) s:Nat):Int)) :
  (nB (BI D p now P L H j mp)=some (.ret ((false,()),(),()))∧¬ (nJ D p now P L[j]∧((cnt (L.take j) L[j].1+1:Nat):Int)≤p.1∧∀ (h0:0<j),ov (L[j-1]'(by omega)) L[j])) ∨
  ((∃ mp',nB (BI D p now P L H j mp)=some (.next (BI D p now P L H (j+1) mp'))∧∀ s,dx mp' s=((cnt (L.take (j+1)) s:Nat):Int)) ∧
   nJ D p now P L[j]∧((cnt (L.take j) L[j].1+1:Nat):Int)≤p.1∧∀ (h0:0<j),ov (L[j-1]'(by omega)) L[j]):=by
 obtain⟨p1,p2,p3,pr⟩:=p
 have hc:cnt (L.take j) L[j].1≤j:=da (YG _ _) (by rw[bi];omega)
 have hv:dx mp L[j].1+1=((cnt (L.take j) L[j].1+1:Nat):Int):=by rw[hmp];omega
 have hw:be .i64 (dx mp L[j].1+1)=((cnt (L.take j) L[j].1+1:Nat):Int):=by rw[bY (by omega) (by unfold Sz at hL;omega),hv]
 have hi:be .i64 (now-p2)=now-p2:=by have h2:1≤p2∧p2≤1048576:=hp.2.1;exact bY (by omega) (by omega)
 simp only[BI,nB,F4,gp hj,eL,cond_true,aw,ap,N8 hj,Zg,I2,ae,Um P hP,nx hj hL,wH,if_true,hw,hi]
 by_cases hS:Cs D L[j].1
 case neg=>rw[decide_eq_false hS];exact .inl ⟨rfl,fun h=>hS h.1.sub⟩
 rw[decide_eq_true hS,if_pos hS]
 by_cases hB:sn D L[j].2.1 L[j].2.2.1
 case neg=>rw[decide_eq_false hB];exact .inl ⟨rfl,fun h=>hB h.1.blk⟩
 rw[decide_eq_true hB]
 simp only[al,cond_false]
 by_cases hI:Au P L[j].2.1 = -1
 ·rw[decide_eq_true hI]
  refine .inl ⟨rfl,fun h=>?_⟩
  have:=h.1.ZR
  rw[(tg _ _).1 hI] at this
  simp at this
 rw[decide_eq_false hI]
 have hpool:inB P L[j].2.1=true:=by
  cases hb:inB P L[j].2.1 with
  | true=>rfl
  | false=>exact absurd ((tg _ _).2 hb) hI
 simp only[cond_false]
 have hlt1:0<j→j-1<L.length:=fun _=>by omega
 have fin:∀ (hpr:pr=true→L[j].1 / pG D=L[j].2.1) (X:Option (R3 r9 B8 AL)),
   X=(cond (decide (p1<((cnt (L.take j) L[j].1+1:Nat):Int))) (some (.ret ((false,()),(),()))) (cond (decide (L[j].2.2.2.1<0)) (some (.ret ((false,()),(),()))) (cond (decide (L[j].2.2.2.2<L[j].2.2.2.1)) (some (.ret ((false,()),(),())))
    (cond (decide (now<L[j].2.2.2.2)) (some (.ret ((false,()),(),()))) (cond (decide (L[j].2.2.2.2≤now-p2)) (some (.ret ((false,()),(),())))
     (if (∀ (h0:0<j),ov (L[j-1]'(by omega)) L[j]) then some (.next (BI D (p1,p2,p3,pr) now P L H (j+1) (lR mp L[j].1 ((cnt (L.take j) L[j].1+1:Nat):Int)))) else some (.ret ((false,()),(),())))))))) →
   (X=some (.ret ((false,()),(),()))∧¬ (nJ D (p1,p2,p3,pr) now P L[j]∧((cnt (L.take j) L[j].1+1:Nat):Int)≤p1∧∀ (h0:0<j),ov (L[j-1]'(by omega)) L[j])) ∨
   ((∃ mp',X=some (.next (BI D (p1,p2,p3,pr) now P L H (j+1) mp'))∧∀ s,dx mp' s=((cnt (L.take (j+1)) s:Nat):Int)) ∧
    nJ D (p1,p2,p3,pr) now P L[j]∧((cnt (L.take j) L[j].1+1:Nat):Int)≤p1∧∀ (h0:0<j),ov (L[j-1]'(by omega)) L[j]):=by
  intro hpr X hX
  subst hX
  by_cases c1:p1<((cnt (L.take j) L[j].1+1:Nat):Int)
  ·rw[decide_eq_true c1];exact .inl ⟨rfl,fun h=>by have:=h.2.1;omega⟩
  rw[decide_eq_false c1]
  by_cases c2:L[j].2.2.2.1<0
  ·rw[decide_eq_true c2];exact .inl ⟨rfl,fun h=>by have:=h.1.UX;omega⟩
  rw[decide_eq_false c2]
  by_cases c3:L[j].2.2.2.2<L[j].2.2.2.1
  ·rw[decide_eq_true c3];exact .inl ⟨rfl,fun h=>by have:=h.1.Vt;omega⟩
  rw[decide_eq_false c3]
  by_cases c4:now<L[j].2.2.2.2
  ·rw[decide_eq_true c4];exact .inl ⟨rfl,fun h=>by have:=h.1.UI;omega⟩
  rw[decide_eq_false c4]
  by_cases c5:L[j].2.2.2.2≤now-p2
  ·rw[decide_eq_true c5];exact .inl ⟨rfl,fun h=>by have:now-p2<L[j].2.2.2.2:=h.1.idle;omega⟩
  rw[decide_eq_false c5]
  simp only[cond_false]
  by_cases c6:∀ (h0:0<j),ov (L[j-1]'(by omega)) L[j]
  ·rw[if_pos c6]
   refine .inr ⟨⟨_,rfl,fun s=>?_⟩,⟨hS,hB,hpool,hpr,by omega,by omega,by omega,show now-p2<L[j].2.2.2.2 by omega⟩,by show _≤p1;omega,c6⟩
   rw[wH,bC hj,xC,hmp]
   by_cases e:s=L[j].1
   ·subst e;rw[if_pos rfl,if_pos rfl]
   ·rw[if_neg e,if_neg (fun h=>e h.symm)];rfl
  ·rw[if_neg c6];exact .inl ⟨rfl,fun h=>c6 h.2.2⟩
 have tail:∀ (N:R3 r9 B8 AL),(cond (decide ((0:Int)<((j:Nat):Int)))
   (cond (decide (0≤be .i64 (((j:Nat):Int)-1))&&decide (be .i64 (((j:Nat):Int)-1)<((L.length:Nat):Int)))
    (cond (decide (0≤be .i64 (((j:Nat):Int)-1))&&decide (be .i64 (((j:Nat):Int)-1)<((L.length:Nat):Int)))
     ((f150 L[j].2.1 L[j].2.2.1 (rd (.pair (.int .i64) (.pair (.int .i64) (.pair (.int .i64) (.pair (.int .i64) (.int .i64))))) L (dj (be .i64 (((j:Nat):Int)-1)))).2.1 (rd (.pair (.int .i64) (.pair (.int .i64) (.pair (.int .i64) (.pair (.int .i64) (.int .i64))))) L (dj (be .i64 (((j:Nat):Int)-1)))).2.2.1).bind fun y24=>
      cond (!y24.1) (some (R3.ret ((false,()),(),()))) (some N))
     none) none) (some N))=if (∀ (h0:0<j),ov (L[j-1]'(by omega)) L[j]) then some N else some (.ret ((false,()),(),())):=by
  intro N
  by_cases h0:0<j
  ·have hw:be .i64 (((j:Nat):Int)-1)=((j-1:Nat):Int):=by rw[bY (by omega) (by unfold Sz at hL;omega)];omega
   rw[decide_eq_true (show (0:Int)<((j:Nat):Int) by omega),hw,eL,gp (hlt1 h0),ap,N8 (hlt1 h0),JO]
   simp only[cond_true,aw,ae]
   by_cases hl:ov (L[j-1]'(by omega)) L[j]
   ·rw[if_pos (fun _=>hl)]
    unfold ov at hl
    rw[decide_eq_true hl];rfl
   ·rw[if_neg (fun h=>hl (h h0))]
    unfold ov at hl
    rw[decide_eq_false hl];rfl
  ·rw[decide_eq_false (show ¬ (0:Int)<((j:Nat):Int) by omega),if_pos (fun h=>absurd h h0)];rfl
 have hbase:(Rk D L[j].1).1=L[j].1 / pG D:=rfl
 cases pr with
 | true=>
  simp only[cond_true,if_true,hbase]
  by_cases hq:L[j].1 / pG D=L[j].2.1
  ·rw[decide_eq_true hq]
   simp only[al,cond_false]
   refine fin (fun _=>hq) _ ?_
   rw[tail]
  ·rw[decide_eq_false hq]
   exact .inl ⟨rfl,fun h=>hq (h.1.pair rfl)⟩
 | false=>
  simp only[cond_false]
  refine fin (fun h=>by simp at h) _ ?_
  rw[tail]
theorem TD (hp:x6 p)(h0:0≤now)(h1:now≤1073741824)(hP:Sz P)(hL:Sz L) :
  f110 D.1.1 D.1.2 D.2.1.1 D.2.1.2 D.2.2.1 D.2.2.2.1 D.2.2.2.2.1 D.2.2.2.2.2 p.1 p.2.1 p.2.2.1 p.2.2.2 now P L H=some (decide (bT D p now P L∧L.length≤32),()):=by
 unfold f110
 obtain⟨r,e1,e2⟩:=jZ (f:=nB) (fun x=>∃ j mp,x=BI D p now P L H j mp∧j≤L.length∧bT D p now P (L.take j)∧∀ s,dx mp s=((cnt (L.take j) s:Nat):Int)) (fun x=>L.length-x.1.2.2.2.2.1.toNat)
  (fun r=>match r with
   | .inl y=>bT D p now P L∧y.2.1.1.2.2.2.2.2.2.2.2.2.2.2.2.2.2.1=L
   | .inr z=>z.1.1=false∧¬ bT D p now P L) (by
  rintro x ⟨j,mp,rfl,hj1,hj2,hmp⟩
  rcases eK j L.length with hlt|hge
  ·rcases Wz (D:=D) (H:=H) hp h0 h1 hP hL j mp hlt hmp with⟨hs,hn⟩|⟨⟨mp',hs,hm'⟩,k⟩
   ·exact .inr (.inr ⟨_,hs,rfl,fun h=>hn ((bT.snoc hlt (h.take j)).1 (h.take (j+1)))⟩)
   ·refine .inl ⟨_,hs,⟨j+1,mp',rfl,by omega,(bT.snoc hlt hj2).2 k,hm'⟩,?_⟩
    show L.length-dj (((j+1:Nat):Int))<L.length-dj ((j:Nat):Int)
    omega
  ·have:j=L.length:=by omega
   subst this
   refine .inr (.inl ⟨_,by simp only[BI,nB,F4,ow,cond_false];rfl,?_,rfl⟩)
   rw[db] at hj2;exact hj2)
  az (BI D p now P L H 0 []) ⟨0,[],rfl,by omega,by rw[du];exact bT.nil,fun s=>by rw[du];rfl⟩ (by
   show L.length-dj ((0:Nat):Int)<az
   unfold az;unfold Sz at hL;omega)
 have e1':iter az nB (((),(),L,((L.length:Nat):Int),0,()),((D.1.1,D.1.2,D.2.1.1,D.2.1.2,D.2.2.1,D.2.2.2.1,D.2.2.2.2.1,D.2.2.2.2.2,p.1,p.2.1,p.2.2.1,p.2.2.2,now,P,L,H,()),[],()),())=some r:=e1
 rw[e1']
 cases r with
 | inl y=>
  obtain⟨k1,k2⟩:=e2
  simp only[ae,k2]
  have:(((L.length:Nat):Int)≤32)↔(bT D p now P L∧L.length≤32):=⟨fun h=>⟨k1,by omega⟩,fun h=>by have:=h.2;omega⟩
  rw[decide_eq_decide.2 this]
 | inr z=>
  obtain⟨k1,k2⟩:=e2
  simp only[ae,k1]
  rw[decide_eq_false (fun h=>k2 h.1)]
abbrev Gn (D:DT)(p:PT)(now:Int)(P:List HT)(L:List LT)(H:List HT)(j:Nat):CA:=
 (((),H,((H.length:Nat):Int),((j:Nat):Int),()),((D.1.1,D.1.2,D.2.1.1,D.2.1.2,D.2.2.1,D.2.2.2.1,D.2.2.2.2.1,D.2.2.2.2.2,p.1,p.2.1,p.2.2.1,p.2.2.2,now,P,L,H,()),()),())
theorem YA (h0:0≤now)(h1:now≤1073741824)(hL:Sz L)(hH:Sz H)(j:Nat)(hj:j<H.length) :
  (mz (Gn D p now P L H j)=some (.ret ((false,()),(),()))∧¬ (vp D now L H[j]∧∀ (h0:0<j),p8 (H[j-1]'(by omega)) H[j])) ∨
  (mz (Gn D p now P L H j)=some (.next (Gn D p now P L H (j+1)))∧vp D now L H[j]∧∀ (h0:0<j),p8 (H[j-1]'(by omega)) H[j]):=by
 simp only[Gn,mz,F8,gp hj,eL,cond_true,aw,ap,JZ hj,I2,AX,ae,uy L hL,nx hj hH,
  bY (show -9223372036854775808≤now+1 by omega) (by omega),bY (show -9223372036854775808≤now+1048576 by omega) (by omega)]
 by_cases hB:sn D H[j].1 H[j].2.1
 case neg=>rw[decide_eq_false hB];exact .inl ⟨rfl,fun h=>hB h.1.blk⟩
 rw[decide_eq_true hB]
 simp only[al,cond_false]
 by_cases hT:now+1≤H[j].2.2∧H[j].2.2≤now+1048576
 case neg=>rw[uH,decide_eq_false hT];exact .inl ⟨rfl,fun h=>hT ⟨h.1.abh,h.1.VO⟩⟩
 rw[uH,decide_eq_true hT]
 simp only[al,cond_false]
 by_cases hI:gT L H[j].1 H[j].2.1 = -1
 case neg=>
  rw[decide_eq_false hI]
  exact .inl ⟨rfl,fun h=>hI ((dY _ _ _).2 h.1.free)⟩
 rw[decide_eq_true hI]
 simp only[al,cond_false]
 have hOK:vp D now L H[j]:=⟨hB,hT.1,hT.2,(dY _ _ _).1 hI⟩
 by_cases hj0:0<j
 ·have hw:be .i64 (((j:Nat):Int)-1)=((j-1:Nat):Int):=by rw[bY (by omega) (by unfold Sz at hH;omega)];omega
  have hl1:j-1<H.length:=by omega
  rw[decide_eq_true (show (0:Int)<((j:Nat):Int) by omega),hw,eL,gp hl1,ap,JZ hl1,JO]
  simp only[cond_true,aw,ae]
  by_cases hl:p8 (H[j-1]'(by omega)) H[j]
  ·unfold p8 at hl
   rw[decide_eq_true hl]
   exact .inr ⟨rfl,hOK,fun _=>hl⟩
  ·have hl':=hl
   unfold p8 at hl'
   rw[decide_eq_false hl']
   exact .inl ⟨rfl,fun h=>hl (h.2 hj0)⟩
 ·rw[decide_eq_false (show ¬ (0:Int)<((j:Nat):Int) by omega)]
  exact .inr ⟨rfl,hOK,fun h=>absurd h hj0⟩
theorem Sr (h0:0≤now)(h1:now≤1073741824)(hL:Sz L)(hH:Sz H) :
  f111 D.1.1 D.1.2 D.2.1.1 D.2.1.2 D.2.2.1 D.2.2.2.1 D.2.2.2.2.1 D.2.2.2.2.2 p.1 p.2.1 p.2.2.1 p.2.2.2 now P L H=some (decide (cK D now L H),()):=by
 unfold f111
 obtain⟨r,e1,e2⟩:=jZ (f:=mz) (fun x=>∃ j,x=Gn D p now P L H j∧j≤H.length∧cK D now L (H.take j)) (fun x=>H.length-x.1.2.2.2.1.toNat)
  (fun r=>match r with
   | .inl y=>cK D now L H
   | .inr z=>z.1.1=false∧¬ cK D now L H) (by
  rintro x ⟨j,rfl,hj1,hj2⟩
  rcases eK j H.length with hlt|hge
  ·rcases YA (D:=D) (p:=p) (P:=P) h0 h1 hL hH j hlt with⟨hs,hn⟩|⟨hs,k⟩
   ·exact .inr (.inr ⟨_,hs,rfl,fun h=>hn ((cK.snoc hlt (h.take j)).1 (h.take (j+1)))⟩)
   ·refine .inl ⟨_,hs,⟨j+1,rfl,by omega,(cK.snoc hlt hj2).2 k⟩,?_⟩
    show H.length-dj (((j+1:Nat):Int))<H.length-dj ((j:Nat):Int)
    omega
  ·have:j=H.length:=by omega
   subst this
   refine .inr (.inl ⟨((),(),()),?_,?_⟩)
   ·simp only[Gn,mz,F8,ow,cond_false]
   ·rw[db] at hj2;exact hj2)
  az (Gn D p now P L H 0) ⟨0,rfl,by omega,by rw[du];exact cK.nil⟩ (by
   show H.length-dj ((0:Nat):Int)<az
   unfold az;unfold Sz at hH;omega)
 have e1':iter az mz (((),H,((H.length:Nat):Int),0,()),((D.1.1,D.1.2,D.2.1.1,D.2.1.2,D.2.2.1,D.2.2.2.1,D.2.2.2.2.1,D.2.2.2.2.2,p.1,p.2.1,p.2.2.1,p.2.2.2,now,P,L,H,()),()),())=some r:=e1
 rw[e1']
 cases r with
 | inl y=>
  have e2:cK D now L H:=e2
  rw[decide_eq_true e2];rfl
 | inr z=>
  obtain⟨k1,k2⟩:=e2
  simp only[ae,k1]
  rw[decide_eq_false k2]
end
theorem Bs (s:ST)(hP:Sz s.2.2.2.1)(hL:Sz s.2.2.2.2.1)(hH:Sz s.2.2.2.2.2) :
  f78 s.1.1.1 s.1.1.2 s.1.2.1.1 s.1.2.1.2 s.1.2.2.1 s.1.2.2.2.1 s.1.2.2.2.2.1 s.1.2.2.2.2.2 s.2.1.1 s.2.1.2.1 s.2.1.2.2.1 s.2.1.2.2.2 s.2.2.1 s.2.2.2.1 s.2.2.2.2.1 s.2.2.2.2.2=some (decide (bS s),()):=by
 unfold f78
 rw[BK]
 simp only[ae]
 by_cases c1:iL s.1
 case neg=>rw[decide_eq_false c1,decide_eq_false (fun h=>c1 (bS.fit h))];rfl
 rw[decide_eq_true c1,JW]
 simp only[ae,cond_true]
 by_cases c2:x6 s.2.1
 case neg=>rw[decide_eq_false c2,decide_eq_false (fun h=>c2 (bS.pol h))];rfl
 rw[decide_eq_true c2,AX,uH]
 simp only[ae,cond_true]
 by_cases c3:0≤s.2.2.1∧s.2.2.1≤1073741824
 case neg=>rw[decide_eq_false c3,decide_eq_false (fun h=>c3 ⟨bS.Uv h,bS.acv h⟩)];rfl
 rw[decide_eq_true c3]
 have h42:f109 s.1.1.1 s.1.1.2 s.1.2.1.1 s.1.2.1.2 s.1.2.2.1 s.1.2.2.2.1 s.1.2.2.2.2.1 s.1.2.2.2.2.2 s.2.1.1 s.2.1.2.1 s.2.1.2.2.1 s.2.1.2.2.2 s.2.2.1 s.2.2.2.1 s.2.2.2.2.1 s.2.2.2.2.2=some (o6 s.1,()):=by
  unfold f109;rw[jj];rfl
 rw[h42]
 simp only[ae,cond_true,qP]
 by_cases c4:cF s.2.2.2.1 (o6 s.1)
 case neg=>rw[decide_eq_false c4,decide_eq_false (fun h=>c4 (bS.Jv h))];rfl
 rw[decide_eq_true c4,TD c2 c3.1 c3.2 hP hL]
 simp only[ae,cond_true]
 by_cases c5:bT s.1 s.2.1 s.2.2.1 s.2.2.2.1 s.2.2.2.2.1∧s.2.2.2.2.1.length≤32
 case neg=>rw[decide_eq_false c5,decide_eq_false (fun h=>c5 ⟨bS.o8 h,bS.len h⟩)];rfl
 rw[decide_eq_true c5,Sr c3.1 c3.2 hL hH]
 simp only[ae,cond_true]
 by_cases c6:cK s.1 s.2.2.1 s.2.2.2.2.1 s.2.2.2.2.2
 case neg=>rw[decide_eq_false c6,decide_eq_false (fun h=>c6 (bS.DG h))]
 rw[decide_eq_true c6,decide_eq_true (show bS s from ⟨c1,c2,c3.1,c3.2,c4,c5.1,c5.2,c6⟩)]
theorem Zy (l:List HT)(hl:l.length≤1000):fR l=some (l,()):=by
 unfold fR jo
 rw[bj (show l.length * 24≤140737488355328 by omega)];rfl
theorem fCL (l:List LT)(hl:l.length≤1000):dh l=some (l,()):=by
 unfold dh jo
 rw[bj (show l.length * 40≤140737488355328 by omega)];rfl
theorem fCH (l:List HT)(hl:l.length≤1000):en l=some (l,()):=by
 unfold en jo
 rw[bj (show l.length * 24≤140737488355328 by omega)];rfl
structure Sm (s:ST):Prop where
 p:s.2.2.2.1.length≤1000
 l:s.2.2.2.2.1.length≤1000
 h:s.2.2.2.2.2.length≤1000
theorem Sm.szP {s:ST}(h:Sm s):Sz s.2.2.2.1:=by have:=h.p;unfold Sz;omega
theorem Sm.szL {s:ST}(h:Sm s):Sz s.2.2.2.2.1:=by have:=h.l;unfold Sz;omega
theorem Sm.szH {s:ST}(h:Sm s):Sz s.2.2.2.2.2:=by have:=h.h;unfold Sz;omega
theorem uX (s:ST)(h:Sm s) :
  f128 s.1.1.1 s.1.1.2 s.1.2.1.1 s.1.2.1.2 s.1.2.2.1 s.1.2.2.2.1 s.1.2.2.2.2.1 s.1.2.2.2.2.2 s.2.1.1 s.2.1.2.1 s.2.1.2.2.1 s.2.1.2.2.2 s.2.2.1 s.2.2.2.1 s.2.2.2.2.1 s.2.2.2.2.2=some (s,()):=by
 unfold f128
 rw[Zy _ h.p,fCL _ h.l,fCH _ h.h];rfl
theorem Sk (H:List HT)(hH:H.length≤1000)(now:Int):f182 H now=some (vV H now,()):=by
 have hS:Sz H:=by unfold Sz;omega
 unfold f182
 rw[fCH H hH]
 simp only[ae]
 have e:iter az fu (((),(),((H.length:Nat):Int),0,()),((now,()),H,()),())=_:=
  iz H (fun x=>decide (x.2.2≤now)) (fun j=>(((),(),((H.length:Nat):Int),((j:Nat):Int),()),((now,()),H,()),())) (fun j=>((((j:Nat):Int),()),((now,()),H,()),()))
   (y:=((),((now,()),H,()),())) (fun j h=>by
    simp only[fu,kg,gp h,eL,cond_true,aw,ap,JZ h,decide_eq_true h,nx h hS])
   (by simp only[fu,kg,ow,cond_false]) (fuel:=az) (by unfold az;omega)
 rw[e]
 by_cases hlt:H.findIdx (fun x=>decide (x.2.2≤now))<H.length
 ·rw[if_pos hlt]
  simp only[ae]
  rw[decide_eq_false (show ¬ ((H.findIdx (fun x=>decide (x.2.2≤now)):Nat):Int) = -1 by omega),nx hlt hS]
  simp only[cond_false]
  obtain⟨k,l',k1,k2,k3,k4⟩:=JC (u:=ff) (fun x:HT=>decide (x.2.2≤now)) (fun i j l=>(((),(),((i:Nat):Int),((j:Nat):Int),()),((now,()),l,()),()))
   (fun i l=>(((),((i:Nat):Int),()),((now,()),l,()),())) H (fun i j l h hi hN=>by
    have hsz:l.length≤9223372036854775807:=by omega
    simp only[ff,kI,gp h,eL,cond_true,aw,ap,JZ h,decide_eq_true h,nx h hsz]
    by_cases hd:l[j].2.2≤now
    ·rw[decide_eq_true hd];simp only[al,cond_false,if_true]
    ·rw[decide_eq_false hd,gp (show i<l.length by omega),decide_eq_true (show i<l.length by omega),nx (show i<l.length by omega) hsz];rfl)
   (fun i l h=>by simp only[ff,kI,ow,cond_false]) (by unfold az;omega) hlt
  rw[k1]
  simp only[ae,eQ,fx,gg,ap,eL,fg]
  have hk:k≤l'.length:=by rw[k2,k4];exact cf _ _
  have hlen:(l'.take k++ik (l'.length-k) ((0,0,0):HT)++l'.drop (k+(l'.length-k))).length=l'.length:=by
   simp only[cn,bi,gn,bm];omega
  rw[bu hk,bu (ee l'.length)]
  simp only[aw,cond_true,hlen]
  rw[bu hk]
  simp only[cond_true]
  rw[dp,eh (by rw[bi];omega),List.take_take,Nat.min_self,k3]
  rfl
 ·rw[if_neg hlt]
  simp only[ae]
  have:vV H now=H:=by
   unfold vV
   rw[List.filter_eq_self]
   intro x hx
   rw[dv] at hlt
   cases hd:decide (x.2.2≤now) with
   | false=>rfl
   | true=>exact absurd ⟨x,hx,hd⟩ hlt
  rw[this]
set_option maxRecDepth 100000
def ZF (s:ST):Prop:=s.2.2.2.2.1.length≤40∧s.2.2.2.2.2.length≤40∧s.2.2.2.1.length≤6
instance (s:ST):Decidable (ZF s):=by unfold ZF;infer_instance
theorem ZF.sm {s:ST}(h:ZF s):Sm s:=⟨by have:=h.2.2;omega,by have:=h.1;omega,by have:=h.2.1;omega⟩
theorem Xv (s:ST)(now:Int)(h:Sm s) :
  iter az sj ((now,(),(),((s.2.2.2.2.1.length:Nat):Int),0,()),((0,0,0,0,0,0,0,0,0,0,0,false,0,(),(),(),()),(s.1.1.1,s.1.1.2,s.1.2.1.1,s.1.2.1.2,s.1.2.2.1,s.1.2.2.2.1,s.1.2.2.2.2.1,s.1.2.2.2.2.2,s.2.1.1,s.2.1.2.1,s.2.1.2.2.1,s.2.1.2.2.2,now,(),(),(),()),()),[],[],[],s.2.2.2.1,s.2.2.2.2.1,s.2.2.2.2.2,())
  = some (.inl ((now,(),(),()),((0,0,0,0,0,0,0,0,0,0,0,false,0,(),(),(),()),(s.1.1.1,s.1.1.2,s.1.2.1.1,s.1.2.1.2,s.1.2.2.1,s.1.2.2.2.1,s.1.2.2.2.2.1,s.1.2.2.2.2.2,s.2.1.1,s.2.1.2.1,s.2.1.2.2.1,s.2.1.2.2.2,now,(),(),(),()),()),[],[],[],s.2.2.2.1,fS s.2.2.2.2.1 now,s.2.2.2.2.2,())):=by
 have hl:=h.l
 generalize s.2.2.2.2.1=L at hl ⊢
 have hS:L.length≤9223372036854775807:=by omega
 have hm:∀ j,(fS (L.take j) now++L.drop j).length=L.length:=fun j=>by rw[cn,mh,bi,bm];omega
 have:=lE (u:=sj) (fun j=>((now,(),(),((L.length:Nat):Int),((j:Nat):Int),()),((0,0,0,0,0,0,0,0,0,0,0,false,0,(),(),(),()),(s.1.1.1,s.1.1.2,s.1.2.1.1,s.1.2.1.2,s.1.2.2.1,s.1.2.2.2.1,s.1.2.2.2.2.1,s.1.2.2.2.2.2,s.2.1.1,s.2.1.2.1,s.2.1.2.2.1,s.2.1.2.2.2,now,(),(),(),()),()),[],[],[],s.2.2.2.1,fS (L.take j) now++L.drop j,s.2.2.2.2.2,()))
  (n:=L.length) (y:=((now,(),(),()),((0,0,0,0,0,0,0,0,0,0,0,false,0,(),(),(),()),(s.1.1.1,s.1.1.2,s.1.2.1.1,s.1.2.1.2,s.1.2.2.1,s.1.2.2.2.1,s.1.2.2.2.2.1,s.1.2.2.2.2.2,s.2.1.1,s.2.1.2.1,s.2.1.2.2.1,s.2.1.2.2.2,now,(),(),(),()),()),[],[],[],s.2.2.2.1,fS L now,s.2.2.2.2.2,())) (fun j hj=>by
   have hj2:j<(fS (L.take j) now++L.drop j).length:=by rw[hm];exact hj
   have hlen:(fS (L.take j) now).length=j:=by rw[mh,bi];omega
   have hat:(fS (L.take j) now++L.drop j)[j]=L[j]:=by
    rw[List.getElem_append_right (by omega)]
    simp only[hlen,Nat.sub_self,List.getElem_drop,Nat.add_zero]
   simp only[sj,GY,gp hj,eL,hm j,decide_eq_true hj,cond_true,aw,ap,N8 hj2,hat,nx hj hS]
   have e2:fS (L.take (j+1)) now++L.drop (j+1)=(fS (L.take j) now++L.drop j).set j (L[j].1,L[j].2.1,L[j].2.2.1,L[j].2.2.2.1,now):=by
    rw[List.set_append_right _ _ (by omega),hlen,Nat.sub_self,fb hj,List.set_cons_zero,bC hj]
    unfold fS
    rw[List.map_append,dp];rfl
   rw[e2])
  (by
   have e:fS (L.take L.length) now++L.drop L.length=fS L now:=by rw[db,List.drop_length,List.append_nil]
   simp only[sj,GY,ow,cond_false,e])
  0 az (Nat.zero_le _) (by unfold az;omega)
 have e0:fS (L.take 0) now++L.drop 0=L:=by rw[du,dC];rfl
 rw[e0] at this
 exact this
theorem T0 (s:ST)(now:Int)(h:Sm s) :
  f169 s.1.1.1 s.1.1.2 s.1.2.1.1 s.1.2.1.2 s.1.2.2.1 s.1.2.2.2.1 s.1.2.2.2.2.1 s.1.2.2.2.2.2 s.2.1.1 s.2.1.2.1 s.2.1.2.2.1 s.2.1.2.2.2 s.2.2.1 s.2.2.2.1 s.2.2.2.2.1 s.2.2.2.2.2 now=some ((settle s now).1,(settle s now).2,()):=by
 unfold f169
 rw[Zy _ h.p,fCL _ h.l,fCH _ h.h]
 simp only[ae]
 rw[Bs s h.szP h.szL h.szH]
 simp only[ae]
 unfold settle
 by_cases hM:bS s
 case neg=>rw[decide_eq_false hM,if_neg (fun k=>hM k.1)];rfl
 rw[decide_eq_true hM]
 by_cases h1:now<s.2.2.1
 ·rw[decide_eq_true h1,if_neg (fun k=>by have:=k.2.1;omega)];rfl
 rw[decide_eq_false h1]
 by_cases h2:1073741824<now
 ·rw[decide_eq_true h2,if_neg (fun k=>by have:=k.2.2;omega)];rfl
 rw[decide_eq_false h2,if_pos ⟨hM,by omega,by omega⟩]
 simp only[al,cond_false]
 rw[Xv s now h]
 simp only[ae]
 rw[Sk _ h.h]
 rfl
theorem Jz (x y:Int):f226 x y=some (if x<y then -1 else if y<x then 1 else 0,()):=by
 unfold f226 f243
 simp only[decide_true,al,ae,cond_false]
 by_cases h1:x<y
 ·simp[h1]
 ·by_cases h2:y<x
  ·simp[h1,h2]
  ·simp[h1,h2]
theorem SZ (x y:Int):f225 [x,y]=some (if x=0 then y else x,()):=by
 unfold f225
 by_cases hx:x=0
 ·by_cases hy:y=0
  ·subst hx hy
   have e:iter az mZ ((0,[0,0],(([0,0]:List Int).length:Int),0,()),(),())=some (.inl ((0,()),(),())):=fZ (k:=3) (by unfold az;omega) (by kernel_rfl)
   rw[e];rfl
  ·subst hx
   have e:iter az mZ ((0,[0,y],(([0,y]:List Int).length:Int),0,()),(),())=some (.inr ((y,()),(),())):=
    qz (fun j=>((0,[0,y],(([0,y]:List Int).length:Int),((j:Nat):Int),()),(),())) (n:=1) (fun j hj=>by
     have:j=0:=by omega
     subst this
     simp[mZ,CK,rd,bY]) (by
     simp[mZ,CK,rd,hy]) 0 az (by omega) (by unfold az;omega)
   rw[e];rfl
 ·have e:iter az mZ ((0,[x,y],(([x,y]:List Int).length:Int),0,()),(),())=some (.inr ((x,()),(),())):=
    qz (fun j=>((0,[x,y],(([x,y]:List Int).length:Int),((j:Nat):Int),()),(),())) (n:=0) (fun j hj=>by omega) (by
     simp[mZ,CK,rd,hx]) 0 az (by omega) (by unfold az;omega)
  rw[e];simp[hx]
theorem Km (b c:Int×Int):∃ r,f215 b.1 b.2 c.1 c.2=some (r,())∧decide (0<r)=decide (ltP c b):=by
 obtain⟨b1,b2⟩:=b
 obtain⟨c1,c2⟩:=c
 unfold f215
 rw[Jz,Jz]
 simp only[ae]
 rw[SZ]
 refine⟨_,rfl,?_⟩
 unfold ltP vm
 simp only
 rcases Int.lt_trichotomy b1 c1 with h|h|h
 ·rw[if_pos h]
  have h1:¬ c1<b1:=by omega
  have h2:¬ c1=b1:=by omega
  simp[h1,h2]
 ·subst h
  simp only[Int.lt_irrefl,if_false,if_true]
  rcases Int.lt_trichotomy b2 c2 with h|h|h
  ·have:¬ c2<b2:=by omega
   simp[h,this]
  ·subst h;simp
  ·have:¬ b2<c2:=by omega
   simp[h,this]
 ·have h1:¬ b1<c1:=by omega
  have h2:¬ b1=c1:=by omega
  simp[h,h1,h2]
theorem SU (l:List LT)(hl:Sz l)(a b:Int):f203 l a b=some (((l.findIdx (lC kL (a,b)):Nat):Int),()):=by
 unfold f203
 have e:iter az fz ((l,(),((l.length:Nat):Int),0,()),((a,b,()),((),()),()),())=_:=
  iz l (lC kL (a,b)) (fun j=>((l,(),((l.length:Nat):Int),((j:Nat):Int),()),((a,b,()),((),()),()),())) (fun j=>((((j:Nat):Int),()),((a,b,()),((),()),()),()))
   (y:=((),((a,b,()),((),()),()),())) (fun j h=>by
    obtain⟨r,h1,h2⟩:=Km (kL l[j]) (a,b)
    have h1':f215 l[j].2.1 l[j].2.2.1 a b=some (r,()):=h1
    simp only[fz,kM,gp h,eL,cond_true,aw,ap,N8 h,zX,ae,h1',h2,lC,nx h hl])
   (by simp only[fz,kM,ow,cond_false]) (fuel:=az) (by unfold az;omega)
 rw[e]
 by_cases hlt:l.findIdx (lC kL (a,b))<l.length
 ·rw[if_pos hlt]
  simp only[ae]
  rw[decide_eq_false (by omega)];rfl
 ·rw[if_neg hlt]
  have:l.findIdx (lC kL (a,b))=l.length:=Nat.le_antisymm dk (by omega)
  rw[this];rfl
theorem pP (a b c:Int):f206 a b c=some ((a,b),()):=by unfold f206 f216;rfl
theorem Jo (l:List HT)(hl:Sz l)(a b:Int):f208 l a b=some (((l.findIdx (lC kH (a,b)):Nat):Int),()):=by
 unfold f208
 have e:iter az eR ((l,(),((l.length:Nat):Int),0,()),((a,b,()),((),()),()),())=_:=
  iz l (lC kH (a,b)) (fun j=>((l,(),((l.length:Nat):Int),((j:Nat):Int),()),((a,b,()),((),()),()),())) (fun j=>((((j:Nat):Int),()),((a,b,()),((),()),()),()))
   (y:=((),((a,b,()),((),()),()),())) (fun j h=>by
    obtain⟨r,h1,h2⟩:=Km (kH l[j]) (a,b)
    have h1':f215 l[j].1 l[j].2.1 a b=some (r,()):=h1
    simp only[eR,kU,gp h,eL,cond_true,aw,ap,JZ h,pP,ae,h1',h2,lC,nx h hl])
   (by simp only[eR,kU,ow,cond_false]) (fuel:=az) (by unfold az;omega)
 rw[e]
 by_cases hlt:l.findIdx (lC kH (a,b))<l.length
 ·rw[if_pos hlt]
  simp only[ae]
  rw[decide_eq_false (by omega)];rfl
 ·rw[if_neg hlt]
  have:l.findIdx (lC kH (a,b))=l.length:=Nat.le_antisymm dk (by omega)
  rw[this];rfl
theorem Fe (l:List LT)(hl:l.length≤1000)(x:LT):jJ l ((l.findIdx (lC kL (kL x)):Nat):Int) [x]=some (uh kL l x):=by
 have hle:l.findIdx (lC kL (kL x))≤l.length:=dk
 unfold jJ HI
 rw[eL,bu hle,bj (show (il l+1) * 40≤140737488355328 by omega)]
 rfl
theorem HX (l:List HT)(hl:l.length≤1000)(x:HT):gV l ((l.findIdx (lC kH (kH x)):Nat):Int) [x]=some (uh kH l x):=by
 have hle:l.findIdx (lC kH (kH x))≤l.length:=dk
 unfold gV HI
 rw[eL,bu hle,bj (show (il l+1) * 24≤140737488355328 by omega)]
 rfl
theorem TR (l:List LT)(hl:l.length≤1000)(x:LT):f193 l x.1 x.2.1 x.2.2.1 x.2.2.2.1 x.2.2.2.2=some ((yg l x).1,(yg l x).2,()):=by
 have hs:Sz l:=by unfold Sz;omega
 unfold f193 yg
 rw[fCL l hl,uy l hs]
 simp only[ae]
 by_cases hh:mA l x.2.1 x.2.2.1=true
 ·rw[if_pos (.inl hh),decide_eq_false (fun h=>by rw[dY] at h;rw[h] at hh;cases hh)];rfl
 ·have hn:mA l x.2.1 x.2.2.1=false:=by simpa using hh
  rw[decide_eq_true ((dY _ _ _).2 hn)]
  simp only[al,cond_false]
  by_cases h32:32≤l.length
  ·rw[decide_eq_true (show (32:Int)≤((l.length:Nat):Int) by omega),if_pos (.inr h32)];rfl
  ·rw[decide_eq_false (show ¬ (32:Int)≤((l.length:Nat):Int) by omega),if_neg (by rintro (h|h);exact hh h;exact h32 h)]
   simp only[cond_false,zX,ae,SU l hs]
   have:jJ l ((l.findIdx (lC kL (x.2.1,x.2.2.1)):Nat):Int) [(x.1,x.2.1,x.2.2.1,x.2.2.2.1,x.2.2.2.2)]=some (uh kL l x):=Fe l hl x
   rw[this];rfl
theorem SR (l:List LT)(hl:l.length≤1000)(a b:Int):f194 l a b=some (if mA l a b=true then (xz l a b,true,()) else (l,false,())):=by
 have hs:Sz l:=by unfold Sz;omega
 unfold f194
 rw[fCL l hl,uy l hs]
 simp only[ae]
 by_cases hh:mA l a b=true
 ·have hne:gT l a b ≠ -1:=fun h=>by rw[dY] at h;rw[h] at hh;cases hh
  have hlt:l.findIdx (tL a b)<l.length:=by
   rcases eK (l.findIdx (tL a b)) l.length with h|h
   ·exact h
   ·exact absurd (by unfold gT;rw[if_neg (by omega)]) hne
  have hf:gT l a b=((l.findIdx (tL a b):Nat):Int):=by unfold gT;rw[if_pos hlt]
  rw[if_pos hh,hf]
  unfold xz
  generalize l.findIdx (tL a b)=i at hlt
  rw[decide_eq_false (show ¬ ((i:Int) = -1) by omega),nx hlt hs]
  simp only[cond_false,fx,eQ,ap,db,eL,gg,fg,bm,dC]
  rw[decide_eq_true (show ((i:Nat):Int)≤((i+1:Nat):Int) by omega),bu (show i+1≤l.length by omega),bu (ee l.length),decide_eq_false (show ¬ ((i:Nat):Int)=((i+1:Nat):Int) by omega),bu (show i≤l.length by omega)]
  simp only[aw,cond_true,cond_false]
  rw[decide_eq_true (show i+(l.length-(i+1))≤l.length by omega)]
  have hlen:(l.take i++l.drop (i+1)++l.drop (i+(l.length-(i+1)))).length=l.length:=by
   simp only[cn,bi,bm];omega
  simp only[cond_true,hlen]
  rw[bu (show i+(l.length-(i+1))≤l.length by omega),bu (ee l.length)]
  simp only[aw,cond_true]
  congr 2
  rw[dE]
  have hn:(l.take i++l.drop (i+1)).length=i+(l.length-(i+1)):=by
   simp only[cn,bi,bm];omega
  have e1:(l.take i++l.drop (i+1)++l.drop (i+(l.length-(i+1)))).take (i+(l.length-(i+1)))=l.take i++l.drop (i+1):=eI hn
  rw[e1,dp,eI hn]
 ·have hn:mA l a b=false:=by simpa using hh
  rw[if_neg hh,decide_eq_true ((dY _ _ _).2 hn)]
  rfl
theorem EH (a b c d:Int):(decide (a=c)&&(decide (b=d)&&true))=decide (((a,b):Int×Int)=(c,d)):=by
 simp[Prod.ext_iff]
theorem R5 (H:List HT)(hH:H.length≤900)(x:HT):f195 H x.1 x.2.1 x.2.2=some (zk H x,()):=by
 have hS:Sz H:=by unfold Sz;omega
 unfold f195
 rw[fCH H (by omega)]
 simp only[ae]
 have e:iter az fm (((),(),((H.length:Nat):Int),0,()),((x.1,x.2.1,x.2.2,()),H,()),())=_:=
  iz H (fun y=>decide (kH y=kH x)) (fun j=>(((),(),((H.length:Nat):Int),((j:Nat):Int),()),((x.1,x.2.1,x.2.2,()),H,()),())) (fun j=>((((j:Nat):Int),()),((x.1,x.2.1,x.2.2,()),H,()),()))
   (y:=((),((x.1,x.2.1,x.2.2,()),H,()),())) (fun j h=>by
    simp only[fm,lB,gp h,eL,cond_true,aw,ap,JZ h,decide_eq_true h,nx h hS,pP,ae,EH];rfl)
   (by simp only[fm,lB,ow,cond_false]) (fuel:=az) (by unfold az;omega)
 rw[e]
 have hins:∀ (l:List HT),l.length≤1000→gV l ((l.findIdx (lC kH (x.1,x.2.1)):Nat):Int) [(x.1,x.2.1,x.2.2)]=some (uh kH l x):=fun l hl=>HX l hl x
 by_cases hlt:H.findIdx (fun y=>decide (kH y=kH x))<H.length
 ·rw[if_pos hlt]
  simp only[ae]
  rw[decide_eq_false (show ¬ ((H.findIdx (fun y=>decide (kH y=kH x)):Nat):Int) = -1 by omega),nx hlt hS]
  simp only[cond_false]
  obtain⟨k,l',k1,k2,k3,k4⟩:=JC (u:=fp) (fun y:HT=>decide (kH y=kH x)) (fun i j l=>(((),(),((i:Nat):Int),((j:Nat):Int),()),((x.1,x.2.1,x.2.2,()),l,()),()))
   (fun i l=>(((),((i:Nat):Int),()),((x.1,x.2.1,x.2.2,()),l,()),())) H (fun i j l h hi hN=>by
    have hsz:l.length≤9223372036854775807:=by omega
    simp only[fp,lH,gp h,eL,cond_true,aw,ap,JZ h,decide_eq_true h,nx h hsz,pP,ae,EH]
    show cond (!decide (kH l[j]=kH x)) _ _=_
    by_cases hd:kH l[j]=kH x
    ·rw[decide_eq_true hd];simp only[al,cond_false,if_true]
    ·rw[decide_eq_false hd,gp (show i<l.length by omega),decide_eq_true (show i<l.length by omega),nx (show i<l.length by omega) hsz];rfl)
   (fun i l h=>by simp only[fp,lH,ow,cond_false]) (by unfold az;omega) hlt
  rw[k1]
  simp only[ae,eQ,fx,gg,ap,eL,fg,pP]
  have hk:k≤l'.length:=by rw[k2,k4];exact cf _ _
  have hlen:(l'.take k++ik (l'.length-k) ((0,0,0):HT)++l'.drop (k+(l'.length-k))).length=l'.length:=by
   simp only[cn,bi,gn,bm];omega
  rw[bu hk,bu (ee l'.length)]
  simp only[aw,cond_true,hlen]
  rw[bu hk]
  simp only[cond_true]
  have hfin:(l'.take k++ik (l'.length-k) ((0,0,0):HT)++l'.drop (k+(l'.length-k))).take k=H.filter fun y=>!decide (kH y=kH x):=by
   rw[dp,eh (by rw[bi];omega),List.take_take,Nat.min_self,k3]
  have hlf:(H.filter fun y=>!decide (kH y=kH x)).length≤H.length:=cf _ _
  rw[hfin,dC,Jo _ (by unfold Sz;omega)]
  simp only[ae]
  rw[hins (H.filter fun y=>!decide (kH y=kH x)) (by omega)];rfl
 ·rw[if_neg hlt]
  simp only[ae,pP]
  have hfil:(H.filter fun y=>!decide (kH y=kH x))=H:=by
   rw[List.filter_eq_self]
   intro y hy
   rw[dv] at hlt
   cases hd:decide (kH y=kH x) with
   | false=>rfl
   | true=>exact absurd ⟨y,hy,hd⟩ hlt
  rw[Jo _ hS]
  simp only[ae]
  rw[hins H (by omega)]
  unfold zk
  rw[hfil];rfl
theorem SN (a b c d e:Int):f189 a b c d e=some (((b,c),a,b,c,d,e),()):=by unfold f189;rfl
theorem JF (l:List LT)(hl:l.length≤1000):f196 l=some (jr l,()):=by
 unfold f196
 let acc:Nat→List Int:=fun j=>(l.take j).map (·.2.1)
 have ha:∀ j,j≤l.length→(acc j).length=j:=fun j h=>by simp only[acc,eJ,bi];omega
 have e:iter az wV ((l,((l.length:Nat):Int),0,()),(),[],())=_:=lE (fun j=>((l,((l.length:Nat):Int),((j:Nat):Int),()),(),acc j,())) (n:=l.length) (y:=((),(),acc l.length,())) (fun j hj=>by
   have h1:=ha j (by omega)
   have hacc:acc (j+1)=acc j++[l[j].2.1]:=by
    simp only[acc]
    rw[bC hj,List.map_append];rfl
   simp only[wV,HC,gp hj,eL,aw,cond_true,ap,nx hj (show l.length≤9223372036854775807 by omega),hacc,SN,ae,N8 hj]
   rw[decide_eq_true (show ((acc j).length+1) * 8≤140737488355328 by omega),decide_eq_true (show (acc j).length+1≤9223372036854775807 by omega)]
   rfl) (by simp only[wV,HC,ow,cond_false]) 0 az (by omega) (by unfold az;omega)
 have hfin:acc l.length=l.map (·.2.1):=by simp only[acc,db]
 rw[e]
 simp only[ae,hfin]
 have hS:Dn (l.map (·.2.1))=some ((l.map (·.2.1)).mergeSort fun x y=>decide (x≤y)):=by
  unfold Dn
  rw[show ol (il (l.map (·.2.1))) 4611686018427387904=true from by rw[eJ];exact bj (by omega)];rfl
 have hlen:((l.map (·.2.1)).mergeSort fun x y=>decide (x≤y)).length=(l.map (·.2.1)).length:=h9 _
 have hC:mV ((l.map (·.2.1)).mergeSort fun x y=>decide (x≤y))=some (jr l):=by
  unfold mV jr
  rw[show ol (il ((l.map (·.2.1)).mergeSort fun x y=>decide (x≤y))) 4611686018427387904=true from by rw[hlen,eJ];exact bj (by omega)];rfl
 rw[hS]
 simp only[ae,hlen,Nat.beq_refl,aw,cond_true,hC]
theorem Up {α β γ:Type}{u:α→Option (R3 α β γ)}(st:Nat→α)(p:Nat→Bool){n:Nat}{y:β}{z:γ}(hs:∀ j,j<n→u (st j)=cond (p j) (some (.ret z)) (some (.next (st (j+1)))))(he:u (st n)=some (.out y))(hn:n<az) :
  iter az u (st 0)=some (cond ((List.range n).any p) (.inr z) (.inl y)):=by
 have:=Qw st p hs he 0 az (Nat.zero_le _) (by omega)
 rw[this,eQ,List.range_eq_range']
theorem getD_lt {l:List HT}{j:Nat}(h:j<l.length):l.getD j (0,0,0)=l[j]:=by
 rw[fa,fj h];rfl
theorem JI {out:Int}(P:List HT)(hP:cF P out)(v1 v3 v4 v5 v6:Int)(busy:List Int)(but:Int)(p:HT) :
  f241 v1 out v3 v4 v5 v6 busy P but p.1 p.2.1 p.2.2=some (tf P out but p,()):=by
 unfold f241 tf
 rw[I5 p out hP.ZS hP.X7]
 simp only[ae]
 by_cases hf:iR p out
 case neg=>rw[decide_eq_false hf,if_pos hf];rfl
 rw[decide_eq_true hf,if_neg (fun h=>h hf)]
 simp only[al,cond_false]
 have hl:=hP.len
 have hsz:P.length≤9223372036854775807:=by omega
 have e:=Up (u:=sC) (fun j=>((P,but,(),P,((P.length:Nat):Int),((j:Nat):Int),()),((p.1,p.2.1,p.2.2,()),()),()))
  (fun j=>!decide ((j:Int)=but)&&iS p (P.getD j (0,0,0))) (n:=P.length) (y:=((P,but,()),(),())) (z:=((11,()),(),()))
  (fun j hj=>by
   simp only[sC,IA,gp hj,eL,cond_true,aw,ap,JZ hj,nx hj hsz,KE hf (hP.fits _ (List.getElem_mem hj)) hP.X7,ae,getD_lt hj]
   by_cases hb:(j:Int)=but
   ·rw[decide_eq_true hb];rfl
   ·rw[decide_eq_false hb]
    cases iS p P[j]<;>rfl)
  (by simp only[sC,IA,ow,cond_false]) (by unfold az;omega)
 have e':iter az sC ((P,but,(),P,((P.length:Nat):Int),0,()),((p.1,p.2.1,p.2.2,()),()),())=_:=e
 rw[e']
 cases ha:(List.range P.length).any (fun j=>!decide ((j:Int)=but)&&iS p (P.getD j (0,0,0))) with
 | true=>rfl
 | false=>
  simp only[cond_false,ae,Bool.false_eq_true,if_false]
  by_cases hb:but = -1
  ·by_cases h3:P.length=3
   ·rw[decide_eq_true hb,decide_eq_true (show ((P.length:Nat):Int)=3 by omega),if_pos ⟨hb,h3⟩];rfl
   ·rw[decide_eq_true hb,decide_eq_false (show ¬ ((P.length:Nat):Int)=3 by omega),if_neg (fun h=>h3 h.2)];rfl
  ·rw[decide_eq_false hb,if_neg (fun h=>hb h.1)];rfl
section
variable {out:Int}{P:List HT}
theorem TJ (hS:P.length≤1000)(a n:Int):f197 P out a n=some ((EQ P out a n).1,(EQ P out a n).2,()):=by
 unfold f197 f211 f222 EQ
 rw[Zy P hS]
 simp only[ae,qP,decide_true,al,cond_false,cond_true]
 by_cases hP:cF P out
 case neg=>
  rw[decide_eq_false hP,if_pos hP];rfl
 rw[decide_eq_true hP,if_neg (fun h=>h hP)]
 have h158:=JI P hP 0 0 a n 0 [] (-1) (a,n,0)
 simp only[al,cond_false]
 simp only at h158
 simp only[h158,ae]
 by_cases he:tf P out (-1) (a,n,0)=0
 ·rw[if_neg (fun h=>h he),decide_eq_true he,decide_eq_true (show (P.length+1) * 24≤140737488355328 by omega),decide_eq_true (show P.length+1≤9223372036854775807 by omega)]
  rfl
 ·rw[if_pos he,decide_eq_false he];rfl
theorem qo {k:Int}(h0:0≤k)(h1:k<(P.length:Int)):rd (.pair (.int .i64) (.pair (.int .i64) (.int .i64))) P (dj k)=cq P k:=by
 have hk:k.toNat<P.length:=by omega
 rw[JZ hk]
 exact (getD_lt hk).symm
theorem TY (hS:P.length≤1000)(k:Int):f198 P out k=some ((nw P out k).1,(nw P out k).2,()):=by
 unfold f198 f211 f222 nw
 rw[Zy P hS]
 simp only[ae,qP]
 by_cases hP:cF P out
 case neg=>rw[decide_eq_false hP,if_pos hP];rfl
 rw[decide_eq_true hP,if_neg (fun h=>h hP)]
 by_cases h0:k<0
 ·rw[decide_eq_true h0,if_pos (.inl h0)];rfl
 by_cases h1:(P.length:Int)≤k
 ·rw[decide_eq_false h0,decide_eq_true h1,if_pos (.inr h1)];rfl
 rw[decide_eq_false h0,decide_eq_false h1,if_neg (by rintro (h|h);exact h0 h;exact h1 h)]
 rw[qo (P:=P) (k:=k) (by omega) (by omega),decide_eq_true (show (0:Int)≤k by omega),decide_eq_true (show k<((P.length:Nat):Int) by omega)]
 by_cases h2:(cq P k).2.2=1
 ·rw[decide_eq_true h2,if_pos h2];rfl
 ·rw[decide_eq_false h2,if_neg h2]
  have hk:k.toNat<P.length:=by omega
  simp only[decide_eq_true hk]
  rfl
theorem ZO (hP:cF P out){k:Int}(h0:0≤k)(h1:k<(P.length:Int))(busy:List Int)(hb:Sz busy)(v1 n:Int)(q:HT) :
  iter az dJ ((busy,(),((busy.length:Nat):Int),0,()),((v1,out,k,0,n,0,busy,()),(P,()),(q.1,q.2.1,q.2.2,()),(q.1,q.2.1,q.2.2,()),()),()) =
  some (if busy.findIdx (fun at'=>hasB (cq P k) at' && !hasB q at')<busy.length then .inr ((((busy.findIdx (fun at'=>hasB (cq P k) at' && !hasB q at'):Nat):Int),()),((v1,out,k,0,n,0,busy,()),(P,()),(q.1,q.2.1,q.2.2,()),(q.1,q.2.1,q.2.2,()),()),())
   else .inl ((),((v1,out,k,0,n,0,busy,()),(P,()),(q.1,q.2.1,q.2.2,()),(q.1,q.2.1,q.2.2,()),()),())):=
 iz busy (fun at'=>hasB (cq P k) at' && !hasB q at') (fun j=>((busy,(),((busy.length:Nat):Int),((j:Nat):Int),()),((v1,out,k,0,n,0,busy,()),(P,()),(q.1,q.2.1,q.2.2,()),(q.1,q.2.1,q.2.2,()),()),()))
  (fun j=>((((j:Nat):Int),()),((v1,out,k,0,n,0,busy,()),(P,()),(q.1,q.2.1,q.2.2,()),(q.1,q.2.1,q.2.2,()),()),()))
  (y:=((),((v1,out,k,0,n,0,busy,()),(P,()),(q.1,q.2.1,q.2.2,()),(q.1,q.2.1,q.2.2,()),()),()))
  (fun j h=>by
   have e1:hasB ((cq P k).1,(cq P k).2.1,(cq P k).2.2) busy[j]=hasB (cq P k) busy[j]:=rfl
   have e2:hasB (q.1,q.2.1,q.2.2) busy[j]=hasB q busy[j]:=rfl
   simp only[dJ,kY,gp h,eL,cond_true,aw,ap,rdI h,nx h hb,decide_eq_true h0,decide_eq_true h1,qo h0 h1,Br,ae,e1,e2]
   cases hasB (cq P k) busy[j]<;>cases hasB q busy[j]<;>rfl)
  (by simp only[dJ,kY,ow,cond_false]) (fuel:=az) (by unfold az;unfold Sz at hb;omega)
theorem abB (hP:cF P out){k:Int}(h0:0≤k)(h1:k<(P.length:Int))(busy:List Int)(hb:Sz busy)(v1:Int) :
  iter az dF ((busy,(),((busy.length:Nat):Int),0,()),((v1,out,k,0,0,0,busy,()),(P,()),(0,0,0,()),()),()) =
  some (if busy.findIdx (fun at'=>hasB (cq P k) at' && !hasB (0,0,0) at')<busy.length then .inr ((((busy.findIdx (fun at'=>hasB (cq P k) at' && !hasB (0,0,0) at'):Nat):Int),()),((v1,out,k,0,0,0,busy,()),(P,()),(0,0,0,()),()),())
   else .inl ((),((v1,out,k,0,0,0,busy,()),(P,()),(0,0,0,()),()),())):=
 iz busy (fun at'=>hasB (cq P k) at' && !hasB (0,0,0) at') (fun j=>((busy,(),((busy.length:Nat):Int),((j:Nat):Int),()),((v1,out,k,0,0,0,busy,()),(P,()),(0,0,0,()),()),()))
  (fun j=>((((j:Nat):Int),()),((v1,out,k,0,0,0,busy,()),(P,()),(0,0,0,()),()),()))
  (y:=((),((v1,out,k,0,0,0,busy,()),(P,()),(0,0,0,()),()),()))
  (fun j h=>by
   have e1:hasB ((cq P k).1,(cq P k).2.1,(cq P k).2.2) busy[j]=hasB (cq P k) busy[j]:=rfl
   simp only[dF,kR,gp h,eL,cond_true,aw,ap,rdI h,nx h hb,decide_eq_true h0,decide_eq_true h1,qo h0 h1,Br,ae,e1]
   cases hasB (cq P k) busy[j]<;>cases hasB (0,0,0) busy[j]<;>rfl)
  (by simp only[dF,kR,ow,cond_false]) (fuel:=az) (by unfold az;unfold Sz at hb;omega)
theorem uK {α:Type}(l:List α)(q:α→Bool):l.findIdx q<l.length↔l.any q=true:=by
 rw[dv,List.any_eq_true]
theorem Tl (hS:P.length≤1000)(k n:Int)(busy:List Int)(hb:Sz busy):f199 P out k n busy=some ((tv P out k n busy).1,(tv P out k n busy).2,()):=by
 unfold f199 f211 f222 tv
 rw[Zy P hS]
 simp only[ae,qP]
 by_cases hP:cF P out
 case neg=>rw[decide_eq_false hP,if_pos hP];rfl
 rw[decide_eq_true hP,if_neg (fun h=>h hP)]
 by_cases h0:k<0
 ·rw[decide_eq_true h0,if_pos (.inl h0)];rfl
 by_cases h1:(P.length:Int)≤k
 ·rw[decide_eq_false h0,decide_eq_true h1,if_pos (.inr h1)];rfl
 rw[decide_eq_false h0,decide_eq_false h1,if_neg (by rintro (h|h);exact h0 h;exact h1 h)]
 have g0:(0:Int)≤k:=by omega
 have g1:k<((P.length:Nat):Int):=by omega
 rw[qo (P:=P) (k:=k) g0 g1,decide_eq_true g0,decide_eq_true g1]
 have h158:=JI P hP 2 k 0 n 0 busy k ((cq P k).1,n,(cq P k).2.2)
 simp only at h158
 have d1:decide ((2:Int)=0)=false:=rfl
 have d2:decide ((2:Int)=1)=false:=rfl
 have d3:decide ((2:Int)=2)=true:=rfl
 simp only[d1,d2,decide_true,ba,al,cond_true,cond_false,aw,h158,ae]
 by_cases he:tf P out k ((cq P k).1,n,(cq P k).2.2)=0
 case neg=>rw[if_pos he,decide_eq_false he];simp only[ba,cond_true,ae,decide_eq_false he]
 rw[if_neg (fun h=>h he),decide_eq_true he,ZO hP g0 g1 busy hb 2 n ((cq P k).1,n,(cq P k).2.2)]
 unfold JM
 simp only[al,cond_false]
 by_cases hl:busy.any (fun at'=>hasB (cq P k) at' && !hasB ((cq P k).1,n,(cq P k).2.2) at')=true
 ·rw[if_pos ((uK busy _).2 hl),if_pos hl]
  simp only[ae,eL,cond_true]
  rfl
 ·rw[if_neg (fun h=>hl ((uK busy _).1 h)),if_neg hl]
  have hk:k.toNat<P.length:=by omega
  simp only[ae,decide_true,al,cond_false,decide_eq_true hk,cond_true]
theorem SA (hS:P.length≤1000)(k:Int)(busy:List Int)(hb:Sz busy):f200 P out k busy=some ((s9 P out k busy).1,(s9 P out k busy).2,()):=by
 unfold f200 f211 f222 s9
 rw[Zy P hS]
 simp only[ae,qP]
 by_cases hP:cF P out
 case neg=>rw[decide_eq_false hP,if_pos hP];rfl
 rw[decide_eq_true hP,if_neg (fun h=>h hP)]
 by_cases h0:k<0
 ·rw[decide_eq_true h0,if_pos (.inl h0)];rfl
 by_cases h1:(P.length:Int)≤k
 ·rw[decide_eq_false h0,decide_eq_true h1,if_pos (.inr h1)];rfl
 rw[decide_eq_false h0,decide_eq_false h1,if_neg (by rintro (h|h);exact h0 h;exact h1 h)]
 have g0:(0:Int)≤k:=by omega
 have g1:k<((P.length:Nat):Int):=by omega
 rw[qo (P:=P) (k:=k) g0 g1,decide_eq_true g0,decide_eq_true g1]
 have d1:decide ((3:Int)=0)=false:=rfl
 have d2:decide ((3:Int)=1)=false:=rfl
 have d3:decide ((3:Int)=2)=false:=rfl
 have d4:decide ((3:Int)=3)=true:=rfl
 simp only[d1,d2,d3,decide_true,ba,al,cond_true,cond_false,aw,ae]
 by_cases he:(cq P k).2.2=0
 ·rw[if_pos (.inl he),decide_eq_true he];rfl
 rw[decide_eq_false he,abB hP g0 g1 busy hb 3]
 unfold JM
 simp only[cond_false]
 by_cases hl:busy.any (fun at'=>hasB (cq P k) at' && !hasB (0,0,0) at')=true
 ·rw[if_pos ((uK busy _).2 hl),if_pos (.inr hl)]
  simp only[ae,eL,cond_true]
  rfl
 rw[if_neg (fun h=>hl ((uK busy _).1 h)),if_neg (by rintro (h|h);exact he h;exact hl h)]
 have hk:k.toNat<P.length:=by omega
 obtain⟨i,rfl⟩:∃ i:Nat,k=(i:Int):=⟨k.toNat,by omega⟩
 have hlt:i<P.length:=by omega
 simp only[ae,decide_true,al,cond_false]
 rw[nx hlt (by omega)]
 simp only[cond_false,fx,eQ,ap,db,eL,gg,fg,bm,dC]
 rw[decide_eq_true (show ((i:Nat):Int)≤((i+1:Nat):Int) by omega),bu (show i+1≤P.length by omega),bu (ee P.length),decide_eq_false (show ¬ ((i:Nat):Int)=((i+1:Nat):Int) by omega),bu (show i≤P.length by omega)]
 simp only[aw,cond_true,cond_false]
 rw[decide_eq_true (show i+(P.length-(i+1))≤P.length by omega)]
 have hlen:(P.take i++P.drop (i+1)++P.drop (i+(P.length-(i+1)))).length=P.length:=by
  simp only[cn,bi,bm];omega
 simp only[cond_true,hlen]
 rw[bu (show i+(P.length-(i+1))≤P.length by omega),bu (ee P.length)]
 simp only[aw,cond_true,ae]
 congr 2
 rw[dE]
 have hn:(P.take i++P.drop (i+1)).length=i+(P.length-(i+1)):=by
  simp only[cn,bi,bm];omega
 have e1:(P.take i++P.drop (i+1)++P.drop (i+(P.length-(i+1)))).take (i+(P.length-(i+1)))=P.take i++P.drop (i+1):=eI hn
 rw[e1,dp,eI hn]
end
theorem O0 (a b c:Int):f83 a b c=some (decide (fX a b c),()):=by
 unfold f83 fX
 by_cases h:b≤a
 ·simp[h]
 ·simp[h]
theorem XV (p q r:Prop)[Decidable p][Decidable q][Decidable r]:(cond (decide p) (cond (decide q) (some (decide r,())) (some (false,()))) (some (false,())):Option (Bool×Unit))=some (decide (p∧q∧r),()):=by
 by_cases hp:p<;>by_cases hq:q<;>simp[hp,hq]
theorem mY (e:ET):f84 e.1 e.2.1 e.2.2.1 e.2.2.2.1 e.2.2.2.2.1 e.2.2.2.2.2.1 e.2.2.2.2.2.2.1 e.2.2.2.2.2.2.2.1 e.2.2.2.2.2.2.2.2=some (decide (eE e),()):=by
 obtain⟨k,at',a,b,c,q,i,o,p⟩:=e
 have h39:=JW (q,i,o,p)
 simp only at h39 ⊢
 unfold f84
 simp only[O0,h39,ae,XV]
 by_cases hat:fX at' 0 1073741824
 case neg=>
  rw[decide_eq_false hat,decide_eq_false (fun h:eE _=>hat h.1)];rfl
 rw[decide_eq_true hat]
 simp only[al,cond_false]
 by_cases h6:k=6
 ·subst h6
  have d0:decide ((6:Int)=0)=false:=rfl
  have d1:decide ((6:Int)=1)=false:=rfl
  have d2:decide ((6:Int)=2)=false:=rfl
  have d3:decide ((6:Int)=3)=false:=rfl
  have d4:decide ((6:Int)=4)=false:=rfl
  have d5:decide ((6:Int)=5)=false:=rfl
  simp only[d0,d1,d2,d3,d4,d5,decide_true,al,cond_true,cond_false]
  by_cases hp:x6 (q,i,o,p)
  ·rw[decide_eq_true hp]
   simp only[al,cond_false]
   have:(fX a 0 0∧fX b 0 0∧fX c 0 0)↔eE (6,at',a,b,c,q,i,o,p):=by
    unfold eE fL
    simp[hat,hp]
   rw[decide_eq_decide.2 this]
  ·rw[decide_eq_false hp]
   have:¬ eE (6,at',a,b,c,q,i,o,p):=by
    unfold eE fL
    simp[hp]
   rw[decide_eq_false this];rfl
 ·rw[decide_eq_false h6]
  simp only[ba,cond_true]
  by_cases hz:(q,i,o,p)=((0,0,0,false):PT)
  case neg=>
   have:(decide (q=0)&&(decide (i=0)&&(decide (o=0)&&((p == false)&&true))))=false:=by
    rw[Bool.eq_false_iff]
    intro h
    simp only[Bool.and_eq_true,decide_eq_true_eq,beq_iff_eq] at h
    exact hz (by rw[h.1,h.2.1,h.2.2.1,h.2.2.2.1])
   rw[this,decide_eq_false (fun h:eE _=>hz (h.2.1 h6))];rfl
  have hz':=hz
  simp only[Prod.mk.injEq] at hz'
  obtain⟨rfl,rfl,rfl,rfl⟩:=hz'
  have e1:(decide ((0:Int)=0)&&(decide ((0:Int)=0)&&(decide ((0:Int)=0)&&((false == false)&&true))))=true:=rfl
  rw[e1]
  simp only[al,cond_false]
  have fin:∀ (X:Prop) [Decidable X],(X↔fL k a b c (0,0,0,false))→decide X=decide (eE (k,at',a,b,c,0,0,0,false)):=fun X _ h=>by
   rw[decide_eq_decide,h]
   unfold eE
   simp[hat]
  by_cases k0:k=0
  ·subst k0;rw[← fin (fX a 0 31∧fX b 0 3∧fX c 0 7) (by unfold fL;simp)];rfl
  rw[decide_eq_false k0]
  simp only[cond_false]
  by_cases k1:k=1
  ·subst k1;rw[← fin (fX a 0 31∧fX b 0 3∧fX c 0 7) (by unfold fL;simp)];rfl
  rw[decide_eq_false k1]
  simp only[cond_false]
  by_cases k2:k=2
  ·subst k2;rw[← fin (fX a 0 3∧fX b 1 4∧fX c 0 0) (by unfold fL;simp)];rfl
  rw[decide_eq_false k2]
  simp only[cond_false]
  by_cases k4:k=4
  ·subst k4;rw[← fin (fX a 0 2∧fX b 1 4∧fX c 0 0) (by unfold fL;simp)];rfl
  rw[decide_eq_false k4]
  simp only[cond_false]
  by_cases k3:k=3
  ·subst k3;rw[← fin (fX a 0 2∧fX b 0 0∧fX c 0 0) (by unfold fL;simp)];rfl
  rw[decide_eq_false k3]
  simp only[cond_false]
  by_cases k5:k=5
  ·subst k5;rw[← fin (fX a 0 2∧fX b 0 0∧fX c 0 0) (by unfold fL;simp)];rfl
  rw[decide_eq_false k5]
  simp only[cond_false]
  have:¬ eE (k,at',a,b,c,0,0,0,false):=by
   unfold eE fL
   simp[k0,k1,k2,k3,k4,k5,h6]
  rw[decide_eq_false this]
theorem KZ {s:ST}{now:Int}(h:Sm s):Sm (cW s now):=by
 refine⟨h.p,?_,?_⟩
 ·show (fS s.2.2.2.2.1 now).length≤1000
  rw[mh];exact h.l
 ·show (vV s.2.2.2.2.2 now).length≤1000
  exact da (cf _ _) h.h
theorem Om (L:List LT)(x:LT):(yg L x).1.length≤L.length+1:=by
 unfold yg
 split
 ·exact Nat.le_succ _
 ·exact Nat.le_of_eq (DO L x)
theorem MK (L:List LT)(a b:Int):(xz L a b).length≤L.length:=by
 unfold xz
 exact (ib _ _).length_le
theorem Lh (H:List HT)(x:HT):(zk H x).length≤H.length+1:=by
 unfold zk
 rw[DO]
 have:=cf (fun y=>!decide (kH y=kH x)) H
 omega
theorem Qz (P:List HT)(out a n:Int):(EQ P out a n).1.length≤P.length+1:=by
 unfold EQ;repeat' split
 all_goals simp
theorem FM (P:List HT)(out k:Int):(nw P out k).1.length≤P.length:=by
 unfold nw;repeat' split
 all_goals simp
theorem LA (P:List HT)(out k n:Int)(b:List Int):(tv P out k n b).1.length≤P.length:=by
 unfold tv;repeat' split
 all_goals simp
theorem Ld (P:List HT)(out k:Int)(b:List Int):(s9 P out k b).1.length≤P.length:=by
 unfold s9;repeat' split
 all_goals first|(exact (ib _ _).length_le)|simp
theorem Yp (s:ST)(t:ST)(h:Sm s)(ht:Sm t) :
  ((f78 t.1.1.1 t.1.1.2 t.1.2.1.1 t.1.2.1.2 t.1.2.2.1 t.1.2.2.2.1 t.1.2.2.2.2.1 t.1.2.2.2.2.2 t.2.1.1 t.2.1.2.1 t.2.1.2.2.1 t.2.1.2.2.2 t.2.2.1 t.2.2.2.1 t.2.2.2.2.1 t.2.2.2.2.2).bind fun y=>
   cond (!y.1) ((f128 s.1.1.1 s.1.1.2 s.1.2.1.1 s.1.2.1.2 s.1.2.2.1 s.1.2.2.2.1 s.1.2.2.2.2.1 s.1.2.2.2.2.2 s.2.1.1 s.2.1.2.1 s.2.1.2.2.1 s.2.1.2.2.2 s.2.2.1 s.2.2.2.1 s.2.2.2.2.1 s.2.2.2.2.2).bind fun y35=>
    some ((((y35.1.1.1.1,y35.1.1.1.2),(y35.1.1.2.1.1,y35.1.1.2.1.2),y35.1.1.2.2.1,y35.1.1.2.2.2.1,y35.1.1.2.2.2.2.1,y35.1.1.2.2.2.2.2),(y35.1.2.1.1,y35.1.2.1.2.1,y35.1.2.1.2.2.1,y35.1.2.1.2.2.2),y35.1.2.2.1,y35.1.2.2.2.1,y35.1.2.2.2.2.1,y35.1.2.2.2.2.2),(2:Int),()))
    (some (t,(0:Int),())))=some ((if bS t then (t,(0:Int)) else (s,2)).1,(if bS t then (t,(0:Int)) else (s,2)).2,()):=by
 rw[Bs t ht.szP ht.szL ht.szH,uX s h]
 simp only[ae]
 by_cases hm:bS t
 ·rw[decide_eq_true hm,if_pos hm];rfl
 ·rw[decide_eq_false hm,if_neg hm];rfl
theorem Sn (s:ST)(e:ET)(hp:s.2.2.2.1.length≤900)(hl:s.2.2.2.2.1.length≤900)(hh:s.2.2.2.2.2.length≤900) :
  f129 s.1.1.1 s.1.1.2 s.1.2.1.1 s.1.2.1.2 s.1.2.2.1 s.1.2.2.2.1 s.1.2.2.2.2.1 s.1.2.2.2.2.2 s.2.1.1 s.2.1.2.1 s.2.1.2.2.1 s.2.1.2.2.2 s.2.2.1 s.2.2.2.1 s.2.2.2.2.1 s.2.2.2.2.2
   e.1 e.2.1 e.2.2.1 e.2.2.2.1 e.2.2.2.2.1 e.2.2.2.2.2.1 e.2.2.2.2.2.2.1 e.2.2.2.2.2.2.2.1 e.2.2.2.2.2.2.2.2=some ((bp s e).1,(bp s e).2,()):=by
 have h:Sm s:=⟨by omega,by omega,by omega⟩
 have h20:=uX s h
 unfold f129 bp
 rw[Bs s h.szP h.szL h.szH]
 simp only[ae]
 by_cases hM:bS s
 case neg=>rw[decide_eq_false hM,if_pos (.inl hM),h20];rfl
 rw[decide_eq_true hM,mY]
 simp only[ae,al,cond_false]
 by_cases hE:eE e
 case neg=>rw[decide_eq_false hE,if_pos (.inr hE),h20];rfl
 rw[decide_eq_true hE,if_neg (by rintro (k|k);exact k hM;exact k hE),T0 s _ h]
 simp only[ae,al,cond_false]
 by_cases hC:fK s e.2.1
 case neg=>
  have:settle s e.2.1=(s,false):=by unfold settle;rw[if_neg hC]
  rw[this,if_pos hC]
  simp only[ba,cond_true,h20];rfl
 have hs:settle s e.2.1=(cW s e.2.1,true):=by unfold settle;rw[if_pos hC]
 rw[hs,if_neg (fun k=>k hC)]
 simp only[al,cond_false]
 have hK:=Yp s
 have hSm:Sm (cW s e.2.1):=KZ h
 have hL9:(cW s e.2.1).2.2.2.2.1.length≤900:=by
  show (fS s.2.2.2.2.1 e.2.1).length≤900
  rw[mh];exact hl
 have hP9:(cW s e.2.1).2.2.2.1.length≤900:=hp
 have hH9:(cW s e.2.1).2.2.2.2.2.length≤900:=da (cf _ _) hh
 have hpol:(cW s e.2.1).2.1=s.2.1:=rfl
 have hnow:(cW s e.2.1).2.2.1=e.2.1:=rfl
 generalize cW s e.2.1=t at hSm hL9 hP9 hH9 hpol hnow ⊢
 unfold zh
 by_cases k0:e.1=0
 ·rw[decide_eq_true k0,if_pos k0]
  simp only[cond_true]
  have h109:=TR t.2.2.2.2.1 hSm.l (e.2.2.1,e.2.2.2.1,e.2.2.2.2.1,e.2.1,e.2.1)
  simp only at h109
  rw[h109]
  simp only[ae]
  cases hb:(yg t.2.2.2.2.1 (e.2.2.1,e.2.2.2.1,e.2.2.2.2.1,e.2.1,e.2.1)).2 with
  | false=>simp only[ba,cond_true,h20,Bool.false_eq_true,if_false];rfl
  | true=>
   simp only[al,cond_false,if_true]
   have hlen:=Om t.2.2.2.2.1 (e.2.2.1,e.2.2.2.1,e.2.2.2.2.1,e.2.1,e.2.1)
   exact hK (abG t (yg t.2.2.2.2.1 (e.2.2.1,e.2.2.2.1,e.2.2.2.2.1,e.2.1,e.2.1)).1) h ⟨hSm.p,da hlen (by omega),hSm.h⟩
 rw[decide_eq_false k0,if_neg k0]
 simp only[cond_false]
 by_cases k1:e.1=1
 ·rw[decide_eq_true k1,if_pos k1]
  simp only[cond_true]
  unfold J0
  rw[uy _ hSm.szL]
  simp only[ae]
  by_cases hf:gT t.2.2.2.2.1 e.2.2.2.1 e.2.2.2.2.1 = -1
  ·rw[decide_eq_true hf,if_pos hf];simp only[cond_true,h20];rfl
  rw[decide_eq_false hf,if_neg hf]
  have hlt:t.2.2.2.2.1.findIdx (tL e.2.2.2.1 e.2.2.2.2.1)<t.2.2.2.2.1.length:=by
   rcases eK (t.2.2.2.2.1.findIdx (tL e.2.2.2.1 e.2.2.2.2.1)) t.2.2.2.2.1.length with k|k
   ·exact k
   ·exact absurd (by unfold gT;rw[if_neg (by omega)]) hf
  have hfi:gT t.2.2.2.2.1 e.2.2.2.1 e.2.2.2.2.1=((t.2.2.2.2.1.findIdx (tL e.2.2.2.1 e.2.2.2.2.1):Nat):Int):=by unfold gT;rw[if_pos hlt]
  rw[hfi,eL,gp hlt]
  simp only[ap,cond_false,aw,cond_true]
  simp only[N8 hlt]
  have hgd:t.2.2.2.2.1.getD (t.2.2.2.2.1.findIdx (tL e.2.2.2.1 e.2.2.2.2.1)) (0,0,0,0,0)=t.2.2.2.2.1[t.2.2.2.2.1.findIdx (tL e.2.2.2.1 e.2.2.2.2.1)]:=by
   rw[fa,fj hlt];rfl
  simp only[hgd]
  by_cases hsub:(t.2.2.2.2.1[t.2.2.2.2.1.findIdx (tL e.2.2.2.1 e.2.2.2.2.1)]).1=e.2.2.1
  case neg=>rw[decide_eq_false hsub,if_pos hsub];simp only[ba,cond_true,h20];rfl
  rw[decide_eq_true hsub,if_neg (fun k=>k hsub),SR _ hSm.l]
  have hhas:mA t.2.2.2.2.1 e.2.2.2.1 e.2.2.2.2.1=true:=by
   cases hb:mA t.2.2.2.2.1 e.2.2.2.1 e.2.2.2.2.1 with
   | true=>rfl
   | false=>exact absurd ((dY _ _ _).2 hb) hf
  rw[if_pos hhas]
  simp only[al,cond_false,ae]
  have hdl:=MK t.2.2.2.2.1 e.2.2.2.1 e.2.2.2.2.1
  have hP:=hM.pol
  have hA:=hC.2.2
  have hA0:=hE.1.1
  by_cases hh0:0<t.2.1.2.2.1
  ·rw[decide_eq_true hh0,if_pos hh0]
   have hw:be .i64 (e.2.1+t.2.1.2.2.1)=e.2.1+t.2.1.2.2.1:=by
    rw[hpol]
    have:=hP.2.2
    exact bY (by omega) (by omega)
   have h111:=R5 t.2.2.2.2.2 hH9 (e.2.2.2.1,e.2.2.2.2.1,e.2.1+t.2.1.2.2.1)
   simp only at h111
   rw[hw]
   simp only[cond_true,h111,ae]
   have hhl:=Lh t.2.2.2.2.2 (e.2.2.2.1,e.2.2.2.2.1,e.2.1+t.2.1.2.2.1)
   exact hK (Nl t (xz t.2.2.2.2.1 e.2.2.2.1 e.2.2.2.2.1) (zk t.2.2.2.2.2 (e.2.2.2.1,e.2.2.2.2.1,e.2.1+t.2.1.2.2.1))) h ⟨hSm.p,da hdl (by omega),da hhl (by omega)⟩
  ·rw[decide_eq_false hh0,if_neg hh0]
   simp only[cond_false]
   exact hK (Nl t (xz t.2.2.2.2.1 e.2.2.2.1 e.2.2.2.2.1) t.2.2.2.2.2) h ⟨hSm.p,da hdl (by omega),hSm.h⟩
 rw[decide_eq_false k1,if_neg k1]
 simp only[cond_false]
 by_cases k6:e.1=6
 ·rw[decide_eq_true k6,if_pos k6]
  simp only[cond_true]
  exact hK (Oa t e.2.2.2.2.2) h ⟨hSm.p,hSm.l,hSm.h⟩
 rw[decide_eq_false k6,if_neg k6]
 simp only[cond_false]
 have hY:f29 t.1.2.1.1 t.1.2.1.2=some (o6 t.1,()):=jj _ _
 rw[hY,JF _ hSm.l]
 simp only[ae]
 have hbz:Sz (jr t.2.2.2.2.1):=by
  have h1:=JF t.2.2.2.2.1 hSm.l
  unfold Sz jr
  have h2:=Lib.compact_length_le ((t.2.2.2.2.1.map (·.2.1)).mergeSort fun x y=>decide (x≤y))
  rw[h9,eJ] at h2
  have:=hSm.l
  omega
 unfold Gx
 by_cases k2:e.1=2
 ·rw[decide_eq_true k2,if_pos k2]
  simp only[cond_true]
  rw[TJ hSm.p]
  simp only[ae]
  by_cases he:(EQ t.2.2.2.1 (o6 t.1) e.2.2.1 e.2.2.2.1).2=0
  ·rw[decide_eq_true he,if_pos he]
   simp only[al,cond_false]
   have:=Qz t.2.2.2.1 (o6 t.1) e.2.2.1 e.2.2.2.1
   exact hK (mK t (EQ t.2.2.2.1 (o6 t.1) e.2.2.1 e.2.2.2.1).1) h ⟨da this (by omega),hSm.l,hSm.h⟩
  ·rw[decide_eq_false he,if_neg he];simp only[ba,cond_true,h20];rfl
 rw[decide_eq_false k2,if_neg k2]
 simp only[cond_false]
 by_cases k3:e.1=3
 ·rw[decide_eq_true k3,if_pos k3]
  simp only[cond_true]
  rw[TY hSm.p]
  simp only[ae]
  by_cases he:(nw t.2.2.2.1 (o6 t.1) e.2.2.1).2=0
  ·rw[decide_eq_true he,if_pos he]
   simp only[al,cond_false]
   have:=FM t.2.2.2.1 (o6 t.1) e.2.2.1
   exact hK (mK t (nw t.2.2.2.1 (o6 t.1) e.2.2.1).1) h ⟨da this (by omega),hSm.l,hSm.h⟩
  ·rw[decide_eq_false he,if_neg he];simp only[ba,cond_true,h20];rfl
 rw[decide_eq_false k3,if_neg k3]
 simp only[cond_false]
 by_cases k4:e.1=4
 ·rw[decide_eq_true k4,if_pos k4]
  simp only[cond_true]
  rw[Tl hSm.p _ _ _ hbz]
  simp only[ae]
  by_cases he:(tv t.2.2.2.1 (o6 t.1) e.2.2.1 e.2.2.2.1 (jr t.2.2.2.2.1)).2=0
  ·rw[decide_eq_true he,if_pos he]
   simp only[al,cond_false]
   have:=LA t.2.2.2.1 (o6 t.1) e.2.2.1 e.2.2.2.1 (jr t.2.2.2.2.1)
   exact hK (mK t (tv t.2.2.2.1 (o6 t.1) e.2.2.1 e.2.2.2.1 (jr t.2.2.2.2.1)).1) h ⟨da this (by omega),hSm.l,hSm.h⟩
  ·rw[decide_eq_false he,if_neg he];simp only[ba,cond_true,h20];rfl
 rw[decide_eq_false k4,if_neg k4]
 simp only[cond_false]
 rw[SA hSm.p _ _ hbz]
 simp only[ae]
 by_cases he:(s9 t.2.2.2.1 (o6 t.1) e.2.2.1 (jr t.2.2.2.2.1)).2=0
 ·rw[decide_eq_true he,if_pos he]
  simp only[al,cond_false]
  have:=Ld t.2.2.2.1 (o6 t.1) e.2.2.1 (jr t.2.2.2.2.1)
  exact hK (mK t (s9 t.2.2.2.1 (o6 t.1) e.2.2.1 (jr t.2.2.2.2.1)).1) h ⟨da this (by omega),hSm.l,hSm.h⟩
 ·rw[decide_eq_false he,if_neg he];simp only[ba,cond_true,h20];rfl
theorem bS.sm {s:ST}(M:bS s):Sm s:=⟨by have:=M.Jv.len;omega,by have:=M.len;omega,by have:=M.aaK;omega⟩
abbrev fl (s:ST):Int×Int×Int×Int×Int×Int×Int×Int×Int×Int×Int×Bool×Int×List HT×List LT×List HT×Unit:=
 (s.1.1.1,s.1.1.2,s.1.2.1.1,s.1.2.1.2,s.1.2.2.1,s.1.2.2.2.1,s.1.2.2.2.2.1,s.1.2.2.2.2.2,s.2.1.1,s.2.1.2.1,s.2.1.2.2.1,s.2.1.2.2.2,s.2.2.1,s.2.2.2.1,s.2.2.2.2.1,s.2.2.2.2.2,())
abbrev oc:Int×Int×Int×Int×Int×Int×Int×Int×Int×Int×Int×Bool×Int×Unit×Unit×Unit×Unit:=
 (0,0,0,0,0,0,0,0,0,0,0,false,0,(),(),(),())
def UC (s:ST):Prop:=s.2.2.2.1.length≤900∧s.2.2.2.2.1.length≤900∧s.2.2.2.2.2.length≤900
theorem bS.sm9 {s:ST}(M:bS s):UC s:=⟨by have:=M.Jv.len;omega,by have:=M.len;omega,by have:=M.aaK;omega⟩
theorem ZF.sm9 {s:ST}(h:ZF s):UC s:=⟨by have:=h.2.2;omega,by have:=h.1;omega,by have:=h.2.1;omega⟩
theorem UC.sm {s:ST}(h:UC s):Sm s:=⟨by have:=h.1;omega,by have:=h.2.1;omega,by have:=h.2.2;omega⟩
theorem LG {s:ST}{e:ET}(h:UC s):UC (bp s e).1:=by
 by_cases he:(bp s e).2=0
 ·exact (nL he).2.2.2.1.sm9
 ·rw[zD he];exact h
theorem rdE {l:List ET}{j:Nat}(h:j<l.length):rd (.pair (.int .i64) (.pair (.int .i64) (.pair (.int .i64) (.pair (.int .i64) (.pair (.int .i64) (.pair (.int .i64) (.pair (.int .i64) (.pair (.int .i64) .bool)))))))) l j=l[j]:=uc h
theorem NK (s:ST)(l:List ET)(hl:l.length≤9223372036854775807):∀ (d j:Nat) (t:ST) (fuel:Nat),j+d=l.length→d<fuel→UC t →
  iter fuel tF (((),(),(),0,l,((l.length:Nat):Int),((j:Nat):Int),()),(fl s,oc,fl t,()),[],[],[],()) =
   some (.inl (((),(),(),(mU t (l.drop j)).2,()),(fl s,oc,fl (mU t (l.drop j)).1,()),[],[],[],()))
 | _,j,t,0,_,h,_=>by omega
 | 0,j,t,fuel+1,hj,_,ht=>by
  have:j=l.length:=by omega
  subst this
  rw[List.drop_length]
  refine bW ?_
  simp only[tF,JD,ow,cond_false,fl,oc,mU]
 | d+1,j,t,fuel+1,hj,hf,ht=>by
  have hlt:j<l.length:=by omega
  have hd:l.drop j=l[j]::l.drop (j+1):=by rw[fb hlt]
  have h15:=Sn t l[j] ht.1 ht.2.1 ht.2.2
  rw[hd]
  by_cases he:(bp t l[j]).2=0
  ·have hu:tF (((),(),(),0,l,((l.length:Nat):Int),((j:Nat):Int),()),(fl s,oc,fl t,()),[],[],[],()) =
     some (.next (((),(),(),0,l,((l.length:Nat):Int),((j+1:Nat):Int),()),(fl s,oc,fl (bp t l[j]).1,()),[],[],[],())):=by
    simp only[tF,JD,fl,oc,gp hlt,eL,cond_true,aw,ap,rdE hlt,h15,ae,nx hlt hl,he,decide_true,al,cond_false]
   rw[bH hu,NK s l hl d (j+1) (bp t l[j]).1 fuel (by omega) (by omega) (LG ht)]
   have hg:mU t (l[j]::l.drop (j+1))=mU (bp t l[j]).1 (l.drop (j+1)):=by rw[mU,if_pos he]
   rw[hg]
  ·have hg:mU t (l[j]::l.drop (j+1))=(t,(bp t l[j]).2):=by rw[mU,if_neg he]
   rw[hg]
   have hu:tF (((),(),(),0,l,((l.length:Nat):Int),((j:Nat):Int),()),(fl s,oc,fl t,()),[],[],[],()) =
     some (.out (((),(),(),(bp t l[j]).2,()),(fl s,oc,fl t,()),[],[],[],())):=by
    simp only[tF,JD,fl,oc,gp hlt,eL,cond_true,aw,ap,rdE hlt,h15,ae,decide_eq_false he,ba,zD he]
   exact bW hu
theorem Yr (s:ST)(l:List ET)(h:UC s)(hl:l.length≤9223372036854775807) :
  f94 s.1.1.1 s.1.1.2 s.1.2.1.1 s.1.2.1.2 s.1.2.2.1 s.1.2.2.2.1 s.1.2.2.2.2.1 s.1.2.2.2.2.2 s.2.1.1 s.2.1.2.1 s.2.1.2.2.1 s.2.1.2.2.2 s.2.2.1 s.2.2.2.1 s.2.2.2.2.1 s.2.2.2.2.2 l=some ((dV s l).1,(dV s l).2,()):=by
 unfold f94 dV
 rw[uX s h.sm]
 simp only[ae]
 have:=NK s l hl l.length 0 s az (by omega) (by unfold az;omega) h
 rw[show (((0:Nat):Int))=0 from rfl] at this
 rw[this,dC]
 simp only[ae,fl]
 by_cases he:(mU s l).2=0
 ·rw[decide_eq_true he,if_pos he]
  simp only[al,cond_false,he]
 ·rw[decide_eq_false he,if_neg he]
  simp only[ba,cond_true]
  rw[uX s h.sm]
  rfl
theorem yj:∀ (l m:List ET) (s:ST),mU s (l++m)=if (mU s l).2=0 then mU (mU s l).1 m else mU s l
 | [],m,s=>by simp[mU]
 | e::l,m,s=>by
  rw[List.cons_append,mU,mU]
  by_cases he:(bp s e).2=0
  ·rw[if_pos he,if_pos he,yj l m]
  ·rw[if_neg he,if_neg he,if_neg he]
end Go.Proofs.Zz
