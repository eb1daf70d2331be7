/- Itl, It2, M1, Itd, M2, M3, M4, M5, M13, M14. -/
import Derived.Test.YtadlmipfbockgaaGreatFD
import Derived.IntWalk
import Derived.Sort.OwnSortedInts
import Derived.Shelf.Slices.CompactI
import Derived.Lib.RowBridge
namespace Go.Sy
open Go
set_option linter.unusedSimpArgs false
set_option linter.unusedVariables false
section
variable {α β γ:Type}{f:α→Option (R3 α β γ)}
theorem it_next {n:Nat}{x x':α}(h:f x=some (.next x')):iter (n+1) f x=iter n f x':=by rw[iter,h]
theorem it_out {n:Nat}{x:α}{y:β}(h:f x=some (.out y)):iter (n+1) f x=some (.inl y):=by rw[iter,h]
theorem it_ret {n:Nat}{x:α}{y:γ}(h:f x=some (.ret y)):iter (n+1) f x=some (.inr y):=by rw[iter,h]
theorem it_mono:∀ {k n:Nat},k≤n→∀ {x:α} {r:Sum β γ},iter k f x=some r→iter n f x=some r
 | 0,_,_,x,r,h=>by simp[iter] at h
 | k+1,0,hk,_,_,_=>by omega
 | k+1,n+1,hk,x,r,h=>by
  unfold iter at h ⊢
  split at h
  ·exact it_mono (by omega) h
  ·exact h
  ·exact h
  ·simp at h
theorem it_inv (I:α→Prop)(m:α→Nat)(Q:Sum β γ→Prop)
  (step:∀ x,I x→(∃ x',f x=some (.next x')∧I x'∧m x'<m x)∨(∃ y,f x=some (.out y)∧Q (.inl y))∨∃ y,f x=some (.ret y)∧Q (.inr y)) :
  ∀ (n:Nat) (x:α),I x→m x<n→∃ r,iter n f x=some r∧Q r
 | 0,_,_,h=>by omega
 | n+1,x,hI,hm=>by
  rcases step x hI with⟨x',h1,h2,h3⟩|⟨y,h1,h2⟩|⟨y,h1,h2⟩
  ·rw[it_next h1];exact it_inv I m Q step n x' h2 (by omega)
  ·exact⟨_,it_out h1,h2⟩
  ·exact⟨_,it_ret h1,h2⟩
end
theorem w64 {x:Int}(h1 : -9223372036854775808≤x)(h2:x≤9223372036854775807):IntKind.wrap .i64 x=x:=IntWalk.i64_in _ ⟨h1,h2⟩
theorem w8 {x:Int}(h1:0≤x)(h2:x≤255):IntKind.wrap .u8 x=x:=by rw[IntKind.wrap_u8];omega
theorem bv_ofInt {n:Nat}(h:n<2 ^ 64):(BitVec.ofInt 64 (n:Int)).toNat=n:=by
 simp[BitVec.toNat_ofInt];omega
theorem b_and {a b:Nat}(ha:a<2 ^ 63)(hb:b<2 ^ 63):bitop .and .i64 (a:Int) (b:Int)=((a &&& b:Nat):Int):=by
 have h:a &&& b≤a:=Nat.and_le_left
 show IntKind.wrap .i64 ((BitVec.ofInt 64 (a:Int) &&& BitVec.ofInt 64 (b:Int)).toNat:Int)=_
 rw[BitVec.toNat_and,bv_ofInt (by omega),bv_ofInt (by omega),w64 (by omega) (by omega)]
theorem b_or {a b:Nat}(ha:a<2 ^ 63)(hb:b<2 ^ 63):bitop .or .i64 (a:Int) (b:Int)=((a ||| b:Nat):Int):=by
 have h:a ||| b<2 ^ 63:=Nat.or_lt_two_pow ha hb
 show IntKind.wrap .i64 ((BitVec.ofInt 64 (a:Int) ||| BitVec.ofInt 64 (b:Int)).toNat:Int)=_
 rw[BitVec.toNat_or,bv_ofInt (by omega),bv_ofInt (by omega),w64 (by omega) (by omega)]
theorem b_xor {a b:Nat}(ha:a<2 ^ 63)(hb:b<2 ^ 63):bitop .xor .i64 (a:Int) (b:Int)=((a ^^^ b:Nat):Int):=by
 have h:a ^^^ b<2 ^ 63:=Nat.xor_lt_two_pow ha hb
 show IntKind.wrap .i64 ((BitVec.ofInt 64 (a:Int) ^^^ BitVec.ofInt 64 (b:Int)).toNat:Int)=_
 rw[BitVec.toNat_xor,bv_ofInt (by omega),bv_ofInt (by omega),w64 (by omega) (by omega)]
theorem b_and_mask {a m:Nat}(ha:a<2 ^ 63)(hm:m<63):bitop .and .i64 (a:Int) (((2 ^ m:Nat):Int)-1)=((a % 2 ^ m:Nat):Int):=by
 have h1:1≤2 ^ m:=Nat.one_le_two_pow
 have h2:2 ^ m≤2 ^ 62:=Nat.pow_le_pow_right (by omega) (by omega)
 have e:((2 ^ m:Nat):Int)-1=((2 ^ m-1:Nat):Int):=by omega
 rw[e,b_and ha (by omega),Nat.and_two_pow_sub_one_eq_mod]
theorem b_or_add {a b m:Nat}(ha:a<2 ^ 62)(hd:a % 2 ^ m=0)(hb:b<2 ^ m)(hm:m≤62):bitop .or .i64 (a:Int) (b:Int)=((a+b:Nat):Int):=by
 have h2:2 ^ m≤2 ^ 62:=Nat.pow_le_pow_right (by omega) hm
 rw[b_or (by omega) (by omega)]
 have:a=2 ^ m * (a / 2 ^ m):=by have:=Nat.div_add_mod a (2 ^ m);omega
 rw[this,Nat.two_pow_add_eq_or_of_lt hb]
theorem fdiv_pow (a m:Nat):Int.fdiv (a:Int) ((2:Int) ^ m)=((a / 2 ^ m:Nat):Int):=by
 rw[show ((2:Int) ^ m)=((2 ^ m:Nat):Int) by simp,Int.fdiv_eq_ediv_of_nonneg _ (Int.natCast_nonneg _)];rfl
variable {α β γ δ:Type}{u:α→Option (R3 α β γ)}
theorem rd_lt {e:Ty}{xs:List e.T}{i:Nat}(h:i<List.length xs):rd e xs i=xs[i]:=by
 unfold rd
 exact (List.getElem_eq_getD _).symm
theorem it_all (st:Nat→α){n:Nat}{y:β}(hs:∀ j,j<n→u (st j)=some (.next (st (j+1))))(he:u (st n)=some (.out y)) :
  ∀ (k fuel:Nat),k≤n→n-k<fuel→iter fuel u (st k)=some (.inl y)
 | k,0,_,h=>by omega
 | k,fuel+1,hk,h=>by
  rcases Nat.lt_or_ge k n with hlt|hge
  ·rw[it_next (hs k hlt)]
   exact it_all st hs he (k+1) fuel (by omega) (by omega)
  ·have:k=n:=by omega
   subst this
   exact it_out he
theorem it_first (st:Nat→α){n:Nat}{y:γ}(hs:∀ j,j<n→u (st j)=some (.next (st (j+1))))(he:u (st n)=some (.ret y)) :
  ∀ (k fuel:Nat),k≤n→n-k<fuel→iter fuel u (st k)=some (.inr y)
 | k,0,_,h=>by omega
 | k,fuel+1,hk,h=>by
  rcases Nat.lt_or_ge k n with hlt|hge
  ·rw[it_next (hs k hlt)]
   exact it_first st hs he (k+1) fuel (by omega) (by omega)
  ·have:k=n:=by omega
   subst this
   exact it_ret he
theorem it_idx (l:List δ)(q:δ→Bool)(st:Nat→α)(r:Nat→γ){y:β}(hs:∀ j (h:j<l.length),u (st j)=cond (q l[j]) (some (.ret (r j))) (some (.next (st (j+1)))))(he:u (st l.length)=some (.out y)){fuel:Nat}(hf:l.length<fuel) :
  iter fuel u (st 0)=some (if l.findIdx q<l.length then .inr (r (l.findIdx q)) else .inl y):=by
 by_cases hlt:l.findIdx q<l.length
 ·rw[if_pos hlt]
  refine it_first st (n:=l.findIdx q) (fun j hj=>?_) ?_ 0 fuel (Nat.zero_le _) (by omega)
  ·rw[hs j (by omega)]
   have:q (l[j]'(by omega))=false:=by simpa using List.not_of_lt_findIdx hj
   rw[this];rfl
  ·rw[hs _ hlt]
   have:q (l[l.findIdx q]'hlt)=true:=List.findIdx_getElem
   rw[this];rfl
 ·rw[if_neg hlt]
  refine it_all st (n:=l.length) (fun j hj=>?_) he 0 fuel (Nat.zero_le _) (by omega)
  rw[hs j hj]
  have:q (l[j]'(by omega))=false:=by simpa using List.not_of_lt_findIdx (p:=q) (xs:=l) (i:=j) (by omega)
  rw[this];rfl
end Go.Sy
namespace Go.Proofs.Zz
open Go Go.Sy
set_option linter.unusedSimpArgs false
set_option linter.unusedVariables false
abbrev LT:=Int×(Int×(Int×(Int×Int)))
abbrev HT:=Int×(Int×Int)
abbrev DT:=(Int×Int)×((Int×Int)×(Int×(Int×(Int×Int))))
abbrev PT:=Int×(Int×(Int×Bool))
abbrev ST:=DT×(PT×(Int×(List HT×(List LT×List HT))))
noncomputable instance:DecidableEq ST:=fun _ _=>Classical.propDecidable _
abbrev Sz {α:Type}(l:List α):Prop:=l.length≤9223372036854775807
theorem ge0 (j:Nat):decide (0≤(j:Int))=true:=decide_eq_true (Int.natCast_nonneg j)
theorem ltn {j n:Nat}(h:j<n):decide ((j:Int)<(n:Int))=true:=decide_eq_true (by omega)
theorem nlt (n:Nat):decide ((n:Int)<(n:Int))=false:=decide_eq_false (by omega)
theorem nx {j n:Nat}(h:j<n)(hn:n≤9223372036854775807):IntKind.wrap .i64 ((j:Int)+1)=((j+1:Nat):Int):=by rw[w64 (by omega) (by omega)];omega
theorem rdL {l:List LT}{j:Nat}(h:j<l.length):rd (.pair (.int .i64) (.pair (.int .i64) (.pair (.int .i64) (.pair (.int .i64) (.int .i64))))) l j=l[j]:=rd_lt h
theorem rdH {l:List HT}{j:Nat}(h:j<l.length):rd (.pair (.int .i64) (.pair (.int .i64) (.int .i64))) l j=l[j]:=rd_lt h
theorem rdI {l:List Int}{j:Nat}(h:j<l.length):rd (.int .i64) l j=l[j]:=rd_lt h
theorem rdB {l:List Int}{j:Nat}(h:j<l.length):rd (.int .u8) l j=l[j]:=rd_lt h
theorem and_dec (p q:Prop)[Decidable p][Decidable q]:(decide p&&decide q)=decide (p∧q):=by simp
def szI (k:Int):Int:=((2 ^ (32-k).toNat:Nat):Int)
def MayP (b k:Int):Prop:=0≤k∧k≤32∧0≤b∧b<4294967296∧b % szI k=0
instance (b k:Int):Decidable (MayP b k):=by unfold MayP;infer_instance
theorem szI_pos (k:Int):1≤szI k:=by unfold szI;have:1≤2 ^ (32-k).toNat:=Nat.one_le_two_pow;omega
theorem szI_le {k:Int}(h:0≤k):szI k≤4294967296:=by
 unfold szI
 have:2 ^ (32-k).toNat≤2 ^ 32:=Nat.pow_le_pow_right (by omega) (by omega)
 omega
theorem shl_sz {k:Int}(h0:0≤k)(h1:k≤32):IntKind.wrap .i64 (1 * ((2:Int) ^ ((min (Int.toNat (IntKind.wrap .i64 (32-k))) 64):Nat)))=szI k:=by
 rw[w64 (show -9223372036854775808≤32-k by omega) (by omega),Nat.min_eq_left (by omega)]
 have:=szI_le h0
 have:=szI_pos k
 have e:(1:Int) * ((2:Int) ^ (32-k).toNat)=szI k:=by simp[szI]
 rw[e,w64 (by omega) (by omega)]
def sizeI (b k:Int):Int:=if MayP b k then szI k else 0
theorem sizeI_bound (b k:Int):0≤sizeI b k∧sizeI b k≤4294967296:=by
 unfold sizeI
 split
 ·rename_i h
  have:=szI_pos k
  have:=szI_le h.1
  omega
 ·omega
theorem szI_dvd {k:Int}(h:0≤k):(4294967296:Int) % szI k=0:=by
 unfold szI
 have:(2 ^ (32-k).toNat:Nat) ∣ 2 ^ 32:=Nat.pow_dvd_pow 2 (by omega)
 have h2:=Nat.mod_eq_zero_of_dvd this
 have:((2 ^ 32 % 2 ^ (32-k).toNat:Nat):Int)=0:=by rw[h2];rfl
 simpa using this
theorem add_le_of_mod {b N m:Int}(hm:0<m)(hb:b % m=0)(hN:N % m=0)(h:b<N):b+m≤N:=by
 obtain⟨x,rfl⟩:=Int.dvd_of_emod_eq_zero hb
 obtain⟨y,rfl⟩:=Int.dvd_of_emod_eq_zero hN
 have:x<y:=by
  rcases Int.lt_or_le x y with h'|h'
  ·exact h'
  ·have:=Int.mul_le_mul_of_nonneg_left h' (Int.le_of_lt hm);omega
 have:=Int.mul_le_mul_of_nonneg_left (show x+1≤y by omega) (Int.le_of_lt hm)
 rw[Int.mul_add,Int.mul_one] at this
 exact this
theorem may_room {b k:Int}(h:MayP b k):b+szI k≤4294967296:=
 add_le_of_mod (by have:=szI_pos k;omega) h.2.2.2.2 (szI_dvd h.1) h.2.2.2.1
def indexI (b k a:Int):Int:=if MayP b k∧b≤a∧a<b+szI k then a-b else -1
theorem xor_zero (a b:Nat):a ^^^ b=0↔a=b:=by
 constructor
 ·intro h
  have:(a ^^^ b) ^^^ b=0 ^^^ b:=by rw[h]
  rwa [Nat.xor_assoc,Nat.xor_self,Nat.xor_zero,Nat.zero_xor] at this
 ·intro h;rw[h,Nat.xor_self]
theorem div_same {n a m:Nat}(hm:0<m)(hn:n % m=0):a / m=n / m↔n≤a∧a<n+m:=by
 obtain⟨x,rfl⟩:=Nat.dvd_of_mod_eq_zero hn
 rw[Nat.mul_div_cancel_left _ hm]
 constructor
 ·intro h
  have h1:=Nat.div_mul_le_self a m
  have h2:=Nat.lt_div_mul_add hm (a:=a)
  rw[h] at h1 h2
  rw[Nat.mul_comm m x]
  omega
 ·intro ⟨h1,h2⟩
  rw[Nat.mul_comm m x] at h1 h2
  rw[Nat.div_eq_iff hm]
  constructor
  ·omega
  ·omega
def MeetP (b k b' k':Int):Prop:=MayP b k∧MayP b' k'∧((b≤b'∧b'<b+szI k)∨(b'≤b∧b<b'+szI k'))
instance (b k b' k':Int):Decidable (MeetP b k b' k'):=by unfold MeetP;infer_instance
theorem index_ne (b k a:Int):indexI b k a ≠ -1↔MayP b k∧b≤a∧a<b+szI k:=by
 unfold indexI
 split
 ·rename_i h;constructor
  ·exact fun _=>h
  ·intro _;omega
 ·rename_i h;constructor
  ·exact fun h'=>absurd rfl h'
  ·exact fun h'=>absurd h' h
def ratI (x y:Int):Int:=(x-1) / y+1
def szX (D:DT):Int:=sizeI D.1.1 D.1.2
def szY (D:DT):Int:=sizeI D.2.1.1 D.2.1.2
abbrev loI (D:DT):Int:=D.2.2.1
abbrev hiI (D:DT):Int:=D.2.2.2.1
abbrev dynI (D:DT):Int:=D.2.2.2.2.1
abbrev wdI (D:DT):Int:=D.2.2.2.2.2
def rat (D:DT):Int:=ratI (szX D) (szY D)
def each (D:DT):Int:=(hiI D-loI D+1-dynI D) / rat D
def blks (D:DT):Int:=dynI D / wdI D
structure FitP (D:DT):Prop where
 x1:1≤szX D
 x2:szX D≤32
 y1:1≤szY D
 y2:szY D≤4
 meet:¬ MeetP D.1.1 D.1.2 D.2.1.1 D.2.1.2
 lo1:1≤loI D
 lo2:loI D≤hiI D
 hi:hiI D≤65535
 g1:0≤dynI D
 g2:dynI D≤hiI D-loI D
 h1:1≤wdI D
 h2:wdI D≤65535
 blk:blks D≤8
 sh:rat D≤hiI D-loI D+1-dynI D
noncomputable instance (D:DT):Decidable (FitP D):=Classical.propDecidable _
section
variable {D:DT}
theorem FitP.rat1 (F:FitP D):1≤rat D∧rat D≤32:=by
 unfold rat ratI
 have h1:0≤(szX D-1) / szY D:=Int.ediv_nonneg (by have:=F.x1;omega) (by have:=F.y1;omega)
 have h2:(szX D-1) / szY D≤szX D-1:=Int.ediv_le_self _ (by have:=F.x1;omega)
 have:=F.x2
 omega
theorem FitP.each1 (F:FitP D):1≤each D∧rat D * each D≤hiI D-loI D+1-dynI D:=by
 have hr:=F.rat1
 have hs:=F.sh
 unfold each
 generalize rat D=n at hr hs ⊢
 refine⟨?_,Int.mul_ediv_self_le (by omega)⟩
 exact (Int.le_ediv_iff_mul_le (by omega)).2 (by omega)
def baseFrom (D:DT)(sub:Int):Int:=loI D+sub % rat D * each D
def baseI (D:DT)(sub:Int):HT:=(sub / rat D,(baseFrom D sub,baseFrom D sub+each D-1))
def SubP (D:DT)(sub:Int):Prop:=FitP D∧0≤sub∧sub<szX D
noncomputable instance (sub:Int):Decidable (SubP D sub):=Classical.propDecidable _
theorem FitP.base (F:FitP D){sub:Int}(h0:0≤sub)(h1:sub<szX D) :
  0≤sub / rat D∧sub / rat D<szY D∧loI D≤baseFrom D sub∧baseFrom D sub+each D-1≤hiI D-dynI D∧0≤sub % rat D * each D:=by
 have hr:=F.rat1
 have he:=F.each1
 have hx:=F.x2
 have hy1:=F.y1
 have hy2:=F.y2
 have hxy:szX D≤szY D * rat D:=by
  unfold rat ratI
  generalize szX D=x at h1 hx ⊢
  generalize szY D=y at hy1 hy2 ⊢
  have:y=1∨y=2∨y=3∨y=4:=by omega
  rcases this with rfl|rfl|rfl|rfl<;>omega
 unfold baseFrom
 generalize rat D=n at hr he hxy ⊢
 generalize each D=w at he ⊢
 have m0:=Int.emod_nonneg sub (show n≠0 by omega)
 have m1:=Int.emod_lt_of_pos sub (show 0<n by omega)
 have k0:0≤sub % n * w:=Int.mul_nonneg m0 (by omega)
 have k1:(sub % n+1) * w≤n * w:=Int.mul_le_mul_of_nonneg_right (by omega) (by omega)
 rw[Int.add_mul,Int.one_mul] at k1
 refine⟨Int.ediv_nonneg h0 (by omega),Int.ediv_lt_of_lt_mul (by omega) (by omega),by omega,by omega,k0⟩
def BlkP (D:DT)(at' blk:Int):Prop:=FitP D∧(0≤at'∧at'<szY D)∧0≤blk∧blk<blks D
noncomputable instance (at' blk:Int):Decidable (BlkP D at' blk):=Classical.propDecidable _
def blkI (D:DT)(at' blk:Int):HT:=(at',(hiI D-dynI D+1+blk * wdI D,hiI D-dynI D+1+blk * wdI D+wdI D-1))
theorem FitP.block (F:FitP D){blk:Int}(h0:0≤blk)(h1:blk<blks D):0≤blk * wdI D∧blk * wdI D+wdI D≤dynI D:=by
 have hh:=F.h1
 have k1:(blk+1) * wdI D≤blks D * wdI D:=Int.mul_le_mul_of_nonneg_right (by omega) (by omega)
 have k2:blks D * wdI D≤dynI D:=Int.ediv_mul_le _ (by omega)
 rw[Int.add_mul,Int.one_mul] at k1
 exact⟨Int.mul_nonneg h0 (by omega),by omega⟩
end
def hasB (p:HT)(at':Int):Bool:=decide (0≤p.1)&&(decide (p.1≤4)&&(decide (1≤p.2.1)&&(decide (p.2.1≤4)&&(decide (p.1≤at')&&decide (at'<p.1+p.2.1)))))
def meetB (p q:HT):Bool:=decide (p.1<q.1+q.2.1)&&decide (q.1<p.1+p.2.1)
def FitsP (p:HT)(out:Int):Prop:=0≤p.1∧1≤p.2.1∧p.1<out∧p.2.1≤out-p.1∧0≤p.2.2∧p.2.2<2
instance (p:HT)(out:Int):Decidable (FitsP p out):=by unfold FitsP;infer_instance
structure PoolsP (l:List HT)(out:Int):Prop where
 out0:0≤out
 out4:out≤4
 len:l.length≤3
 fits:∀ p∈l,FitsP p out
 apart:l.Pairwise fun p q=>meetB q p=false
noncomputable instance (l:List HT)(out:Int):Decidable (PoolsP l out):=Classical.propDecidable _
def poolOf (P:List HT)(at':Int):Int:=if P.findIdx (fun p=>hasB p at')<P.length then ((P.findIdx (fun p=>hasB p at'):Nat):Int) else -1
def inB (P:List HT)(at':Int):Bool:=P.any fun p=>hasB p at'
theorem idx_none {α:Type}(l:List α)(q:α→Bool):((if l.findIdx q<l.length then ((l.findIdx q:Nat):Int) else -1) = -1)↔l.any q=false:=by
 have e:l.findIdx q<l.length↔∃ x,x∈l∧q x=true:=List.findIdx_lt_length
 split
 ·rename_i h
  have:l.any q=true:=by rw[List.any_eq_true];exact e.1 h
  rw[this];constructor
  ·intro h;omega
  ·intro h;cases h
 ·rename_i h
  have:l.any q=false:=by
   cases hb:l.any q with
   | false=>rfl
   | true=>rw[List.any_eq_true] at hb;exact absurd (e.2 hb) h
  rw[this];simp
theorem poolOf_none (P:List HT)(at':Int):(poolOf P at' = -1)↔inB P at'=false:=idx_none P _
def PolP (p:PT):Prop:=(1≤p.1∧p.1≤8)∧(1≤p.2.1∧p.2.1≤1048576)∧0≤p.2.2.1∧p.2.2.1≤1048576
instance (p:PT):Decidable (PolP p):=by unfold PolP;infer_instance
def ltB (x1 x2 y1 y2:Int):Prop:=x1<y1∨(x1=y1∧x2<y2)
instance (x1 x2 y1 y2:Int):Decidable (ltB x1 x2 y1 y2):=by unfold ltB;infer_instance
def ltL (x y:LT):Prop:=ltB x.2.1 x.2.2.1 y.2.1 y.2.2.1
def ltH (x y:HT):Prop:=ltB x.1 x.2.1 y.1 y.2.1
instance (x y:LT):Decidable (ltL x y):=by unfold ltL;infer_instance
instance (x y:HT):Decidable (ltH x y):=by unfold ltH;infer_instance
theorem ltB_trans {a b c d e f:Int}(h1:ltB a b c d)(h2:ltB c d e f):ltB a b e f:=by unfold ltB at *;omega
def cnt (L:List LT)(sub:Int):Nat:=L.countP fun x=>decide (x.1=sub)
abbrev isL (a b:Int):LT→Bool:=fun x=>decide (x.2.1=a)&&decide (x.2.2.1=b)
def findL (L:List LT)(a b:Int):Int:=if L.findIdx (isL a b)<L.length then ((L.findIdx (isL a b):Nat):Int) else -1
def hasL (L:List LT)(a b:Int):Bool:=L.any (isL a b)
theorem findL_none (L:List LT)(a b:Int):(findL L a b = -1)↔hasL L a b=false:=idx_none L _
structure LeaseOK (D:DT)(p:PT)(now:Int)(P:List HT)(x:LT):Prop where
 sub:SubP D x.1
 blk:BlkP D x.2.1 x.2.2.1
 pool:inB P x.2.1=true
 pair:p.2.2.2=true→x.1 / rat D=x.2.1
 from0:0≤x.2.2.2.1
 last1:x.2.2.2.1≤x.2.2.2.2
 last2:x.2.2.2.2≤now
 idle:now-p.2.1<x.2.2.2.2
structure LeasesP (D:DT)(p:PT)(now:Int)(P:List HT)(L:List LT):Prop where
 each:∀ x∈L,LeaseOK D p now P x
 quota:∀ x∈L,((cnt L x.1:Nat):Int)≤p.1
 srt:L.Pairwise ltL
structure HeldOK (D:DT)(now:Int)(L:List LT)(x:HT):Prop where
 blk:BlkP D x.1 x.2.1
 till1:now+1≤x.2.2
 till2:x.2.2≤now+1048576
 free:hasL L x.1 x.2.1=false
structure HeldsP (D:DT)(now:Int)(L:List LT)(H:List HT):Prop where
 each:∀ x∈H,HeldOK D now L x
 srt:H.Pairwise ltH
structure MayS (s:ST):Prop where
 fit:FitP s.1
 pol:PolP s.2.1
 now0:0≤s.2.2.1
 now1:s.2.2.1≤1073741824
 pools:PoolsP s.2.2.2.1 (szY s.1)
 leases:LeasesP s.1 s.2.1 s.2.2.1 s.2.2.2.1 s.2.2.2.2.1
 len:s.2.2.2.2.1.length≤32
 helds:HeldsP s.1 s.2.2.1 s.2.2.2.2.1 s.2.2.2.2.2
noncomputable instance (s:ST):Decidable (MayS s):=Classical.propDecidable _
noncomputable instance (D:DT)(p:PT)(now:Int)(P:List HT)(L:List LT):Decidable (LeasesP D p now P L):=Classical.propDecidable _
noncomputable instance (D:DT)(now:Int)(L:List LT)(H:List HT):Decidable (HeldsP D now L H):=Classical.propDecidable _
theorem take_snoc {α:Type}{l:List α}{j:Nat}(h:j<l.length):l.take (j+1)=l.take j++[l[j]]:=by rw[List.take_succ_eq_append_getElem h]
theorem pw_snoc {α:Type}{r:α→α→Prop}(tr:∀ a b c,r a b→r b c→r a c){l:List α}{j:Nat}(h:j<l.length)(hp:(l.take j).Pairwise r) :
  (l.take (j+1)).Pairwise r↔∀ (h0:0<j),r (l[j-1]'(by omega)) l[j]:=by
 rw[take_snoc h,List.pairwise_append]
 constructor
 ·intro ⟨_,_,h3⟩ h0
  refine h3 _ ?_ _ (by simp)
  rw[List.mem_iff_getElem]
  exact⟨j-1,by rw[List.length_take];omega,by rw[List.getElem_take]⟩
 ·intro h3
  refine⟨hp,by simp,fun a ha b hb=>?_⟩
  rw[List.mem_singleton] at hb
  subst hb
  obtain⟨i,hi,rfl⟩:=List.mem_iff_getElem.1 ha
  rw[List.length_take] at hi
  rw[List.getElem_take]
  have h0:0<j:=by omega
  by_cases e:i=j-1
  ·subst e;exact h3 h0
  ·refine tr _ _ _ ?_ (h3 h0)
   have:=(List.pairwise_iff_getElem.1 hp) i (j-1) (by rw[List.length_take];omega) (by rw[List.length_take];omega) (by omega)
   rwa [List.getElem_take,List.getElem_take] at this
theorem ltL_trans (x y z:LT)(h1:ltL x y)(h2:ltL y z):ltL x z:=ltB_trans h1 h2
theorem ltH_trans (x y z:HT)(h1:ltH x y)(h2:ltH y z):ltH x z:=ltB_trans h1 h2
theorem cnt_snoc (M:List LT)(x:LT)(s:Int):cnt (M++[x]) s=cnt M s+(if x.1=s then 1 else 0):=by
 unfold cnt
 rw[List.countP_append,List.countP_singleton]
 by_cases h:x.1=s<;>simp[h]
section
variable {D:DT}{p:PT}{now:Int}{P:List HT}{L:List LT}{H:List HT}
theorem LeasesP.nil:LeasesP D p now P []:=⟨by simp,by simp,by simp⟩
theorem LeasesP.take (h:LeasesP D p now P L)(j:Nat):LeasesP D p now P (L.take j):=
 ⟨fun x hx=>h.each x (List.mem_of_mem_take hx),fun x hx=>by
  have h1:=h.quota x (List.mem_of_mem_take hx)
  have h2:cnt (L.take j) x.1≤cnt L x.1:=(List.take_sublist j L).countP_le
  omega,h.srt.sublist (List.take_sublist j L)⟩
theorem LeasesP.snoc {j:Nat}(hj:j<L.length)(h:LeasesP D p now P (L.take j)) :
  LeasesP D p now P (L.take (j+1))↔LeaseOK D p now P L[j]∧((cnt (L.take j) L[j].1+1:Nat):Int)≤p.1∧∀ (h0:0<j),ltL (L[j-1]'(by omega)) L[j]:=by
 have hmem:L[j]∈L.take (j+1):=by rw[take_snoc hj];exact List.mem_append.2 (.inr (List.mem_singleton.2 rfl))
 constructor
 ·intro k
  refine⟨k.each _ hmem,?_,(pw_snoc (r:=ltL) @ltL_trans hj h.srt).1 k.srt⟩
  have:=k.quota _ hmem
  rw[take_snoc hj,cnt_snoc,if_pos rfl] at this
  exact this
 ·intro ⟨k1,k2,k3⟩
  refine⟨fun x hx=>?_,fun x hx=>?_,(pw_snoc (r:=ltL) @ltL_trans hj h.srt).2 k3⟩
  ·rw[take_snoc hj] at hx
   rcases List.mem_append.1 hx with hx|hx
   ·exact h.each x hx
   ·rw[List.mem_singleton] at hx;rw[hx];exact k1
  ·rw[take_snoc hj,cnt_snoc]
   rw[take_snoc hj] at hx
   split
   ·rename_i e;rw[← e];omega
   ·rename_i e
    rcases List.mem_append.1 hx with hx|hx
    ·exact h.quota x hx
    ·rw[List.mem_singleton] at hx;rw[hx] at e;exact absurd rfl e
theorem HeldsP.nil:HeldsP D now L []:=⟨by simp,by simp⟩
theorem HeldsP.take (h:HeldsP D now L H)(j:Nat):HeldsP D now L (H.take j):=
 ⟨fun x hx=>h.each x (List.mem_of_mem_take hx),h.srt.sublist (List.take_sublist j H)⟩
theorem HeldsP.snoc {j:Nat}(hj:j<H.length)(h:HeldsP D now L (H.take j)) :
  HeldsP D now L (H.take (j+1))↔HeldOK D now L H[j]∧∀ (h0:0<j),ltH (H[j-1]'(by omega)) H[j]:=by
 have hmem:H[j]∈H.take (j+1):=by rw[take_snoc hj];exact List.mem_append.2 (.inr (List.mem_singleton.2 rfl))
 constructor
 ·intro k
  exact⟨k.each _ hmem,(pw_snoc (r:=ltH) @ltH_trans hj h.srt).1 k.srt⟩
 ·intro ⟨k1,k3⟩
  refine⟨fun x hx=>?_,(pw_snoc (r:=ltH) @ltH_trans hj h.srt).2 k3⟩
  rw[take_snoc hj] at hx
  rcases List.mem_append.1 hx with hx|hx
  ·exact h.each x hx
  ·rw[List.mem_singleton] at hx;rw[hx];exact k1
end
theorem dec_le {a b:Nat}(h:a≤b):decide ((a:Int)≤(b:Int))=true:=decide_eq_true (by omega)
def ltP (b c:Int×Int):Prop:=ltB b.1 b.2 c.1 c.2
instance (b c:Int×Int):Decidable (ltP b c):=by unfold ltP;infer_instance
section
variable {α:Type}{k:α→Int×Int}
end
def CanSettle (s:ST)(now:Int):Prop:=MayS s∧s.2.2.1≤now∧now≤1073741824
noncomputable instance (s:ST)(now:Int):Decidable (CanSettle s now):=Classical.propDecidable _
theorem inc_len:∀ (l:List Int) (lo hi:Int),l.Pairwise (· < ·)→(∀ x∈l,lo≤x∧x<hi)→(l.length:Int)≤max 0 (hi-lo)
 | [],lo,hi,_,_=>by simp;omega
 | a::l,lo,hi,hp,hb=>by
  obtain⟨h1,h2⟩:=List.pairwise_cons.1 hp
  have ha:=hb a (by simp)
  have:=inc_len l (a+1) hi h2 (fun x hx=>⟨by have:=h1 x hx;omega,(hb x (by simp[hx])).2⟩)
  rw[List.length_cons]
  omega
theorem MayS.lenH {s:ST}(M:MayS s):s.2.2.2.2.2.length≤32:=by
 have hb:∀ x∈s.2.2.2.2.2,(0≤x.1∧x.1<4)∧0≤x.2.1∧x.2.1<8:=fun x hx=>by
  have h:=(M.helds.each x hx).blk
  have:=M.fit.y2
  have:=M.fit.blk
  have h1:=h.2.1
  have h2:=h.2.2
  omega
 have:=inc_len (s.2.2.2.2.2.map fun x=>8 * x.1+x.2.1) 0 32 (by
  rw[List.pairwise_map]
  have hp:=M.helds.srt
  refine (List.pairwise_iff_forall_sublist.2 fun {x y} hs=>?_)
  have hlt:=List.pairwise_iff_forall_sublist.1 hp hs
  have hx:=hb x (hs.subset (by simp))
  have hy:=hb y (hs.subset (by simp))
  unfold ltH ltB at hlt
  omega) (fun z hz=>by
  obtain⟨x,hx,rfl⟩:=List.mem_map.1 hz
  have:=hb x hx
  omega)
 rw[List.length_map] at this
 omega
abbrev ET:=Int×(Int×(Int×(Int×(Int×PT))))
def rng (n a b:Int):Prop:=a≤n∧n≤b
instance (n a b:Int):Decidable (rng n a b):=by unfold rng;infer_instance
def evBody (k a b c:Int)(p:PT):Prop:=
 if k=0∨k=1 then rng a 0 31∧rng b 0 3∧rng c 0 7
 else if k=2 then rng a 0 3∧rng b 1 4∧rng c 0 0
 else if k=4 then rng a 0 2∧rng b 1 4∧rng c 0 0
 else if k=3∨k=5 then rng a 0 2∧rng b 0 0∧rng c 0 0
 else if k=6 then PolP p∧rng a 0 0∧rng b 0 0∧rng c 0 0
 else False
instance (k a b c:Int)(p:PT):Decidable (evBody k a b c p):=by unfold evBody;infer_instance
def MayE (e:ET):Prop:=rng e.2.1 0 1073741824∧(e.1≠6→e.2.2.2.2.2=(0,(0,(0,false))))∧evBody e.1 e.2.2.1 e.2.2.2.1 e.2.2.2.2.1 e.2.2.2.2.2
instance (e:ET):Decidable (MayE e):=by unfold MayE;infer_instance
def vput (n:Nat):List Nat:=if h:n<128 then [n] else (n % 128+128)::vput (n / 128)
termination_by n
decreasing_by omega
theorem vput_low {n:Nat}(h:n<128):vput n=[n]:=by rw[vput,dif_pos h]
theorem vput_high {n:Nat}(h:¬ n<128):vput n=(n % 128+128)::vput (n / 128):=by rw[vput,dif_neg h]
theorem vput_pos (n:Nat):1≤(vput n).length:=by
 by_cases h:n<128
 ·rw[vput_low h];simp
 ·rw[vput_high h];simp
theorem vput_len:∀ (k n:Nat),n<128 ^ (k+1)→(vput n).length≤k+1
 | 0,n,h=>by rw[vput_low (by simpa using h)];simp
 | k+1,n,h=>by
  by_cases h1:n<128
  ·rw[vput_low h1];simp
  ·rw[vput_high h1,List.length_cons]
   have:=vput_len k (n / 128) (by rw[Nat.pow_succ] at h;omega)
   omega
theorem vput_len6 {n:Nat}(h:n≤1099511627776):(vput n).length≤6:=vput_len 5 n (by omega)
theorem vput_lt:∀ (n:Nat),∀ c∈vput n,c<256:=by
 intro n
 induction n using Nat.strongRecOn with
 | ind n ih=>
  intro c hc
  by_cases h:n<128
  ·rw[vput_low h] at hc;simp at hc;omega
  ·rw[vput_high h] at hc
   rcases List.mem_cons.1 hc with rfl|hc
   ·omega
   ·exact ih (n / 128) (by omega) c hc
def vgo:Nat→Nat→List Nat→Option (Nat×Nat)
 | _,_,[]=>none
 | i,acc,c::r=>
  if 128≤c then vgo (i+1) (acc+(c-128) * 2 ^ (7 * i)) r
  else if c=0∧0<i then none
  else if 1099511627776<acc+c * 2 ^ (7 * i) then none
  else some (acc+c * 2 ^ (7 * i),i+1)
def vget (l:List Nat):Option (Nat×Nat):=vgo 0 0 (l.take 6)
theorem pow7 (i:Nat):2 ^ (7 * (i+1))=128 * 2 ^ (7 * i):=by rw[Nat.mul_add,Nat.pow_add];omega
theorem vgo_put (r:List Nat):∀ (n i acc:Nat),(0<i→0<n)→acc+n * 2 ^ (7 * i)≤1099511627776→vgo i acc (vput n++r)=some (acc+n * 2 ^ (7 * i),i+(vput n).length):=by
 intro n
 induction n using Nat.strongRecOn with
 | ind n ih=>
  intro i acc hi hm
  by_cases h:n<128
  ·rw[vput_low h]
   simp only[List.cons_append,List.nil_append,vgo,List.length_singleton]
   rw[if_neg (by omega),if_neg (by intro k;have:=hi k.2;omega),if_neg (by omega)]
  ·rw[vput_high h]
   simp only[List.cons_append,vgo,List.length_cons]
   rw[if_pos (by omega)]
   have e:acc+(n % 128+128-128) * 2 ^ (7 * i)+n / 128 * 2 ^ (7 * (i+1))=acc+n * 2 ^ (7 * i):=by
    rw[pow7,Nat.add_sub_cancel,Nat.add_assoc,← Nat.mul_assoc,← Nat.add_mul]
    congr 2
    omega
   rw[ih (n / 128) (by omega) (i+1) _ (fun _=>by omega) (by rw[e];exact hm),e]
   congr 2
   omega
theorem vgo_of:∀ (l:List Nat) (i acc v k:Nat),(∀ c∈l,c<256)→vgo i acc l=some (v,k) →
  ∃ n r,l=vput n++r∧v=acc+n * 2 ^ (7 * i)∧k=i+(vput n).length∧(0<i→0<n)∧v≤1099511627776
 | [],_,_,_,_,_,h=>by simp[vgo] at h
 | c::r,i,acc,v,k,hb,h=>by
  simp only[vgo] at h
  split at h
  ·rename_i hc
   obtain⟨n,r',e1,e2,e3,e4,e5⟩:=vgo_of r (i+1) _ v k (fun c h=>hb c (by simp[h])) h
   have hn:=e4 (by omega)
   have hc2:=hb c (by simp)
   refine⟨(c-128)+128 * n,r',?_,?_,?_,fun _=>by omega,e5⟩
   ·rw[vput_high (by omega),List.cons_append,e1]
    congr 2
    ·omega
    ·rw[show (c-128+128 * n) / 128=n from by omega]
   ·rw[e2,pow7,Nat.add_mul,Nat.add_assoc]
    congr 2
    rw[Nat.mul_comm 128 n,Nat.mul_assoc]
   ·rw[e3,vput_high (n:=c-128+128 * n) (by omega),List.length_cons,show (c-128+128 * n) / 128=n from by omega]
    omega
  ·split at h
   ·cases h
   ·split at h
    ·cases h
    ·rename_i h1 h2 h3
     cases h
     refine⟨c,r,?_,rfl,?_,fun hi=>?_,by omega⟩
     ·rw[vput_low (by omega)];rfl
     ·rw[vput_low (by omega)];rfl
     ·rcases Nat.eq_zero_or_pos c with h0|h0
      ·exact absurd ⟨h0,hi⟩ h2
      ·exact h0
theorem vget_put (n:Nat)(h:n≤1099511627776)(r:List Nat):vget (vput n++r)=some (n,(vput n).length):=by
 unfold vget
 rw[List.take_append,List.take_of_length_le (vput_len6 h),vgo_put _ n 0 0 (fun h=>by omega) (by omega)]
 simp
theorem vget_of {l:List Nat}{n k:Nat}(hb:∀ c∈l,c<256)(h:vget l=some (n,k)):n≤1099511627776∧k=(vput n).length∧l=vput n++l.drop k:=by
 obtain⟨m,r,e1,e2,e3,_,e5⟩:=vgo_of _ 0 0 n k (fun c hc=>hb c (List.mem_of_mem_take hc)) h
 have hm:n=m:=by rw[e2];simp
 subst hm
 refine⟨e5,by omega,?_⟩
 conv=>lhs;rw[← List.take_append_drop 6 l,e1]
 rw[show k=(vput n).length by omega,List.append_assoc]
 congr 1
 conv=>rhs;rw[← List.take_append_drop 6 l,e1,List.append_assoc,List.drop_left' rfl]
def vrd:Nat→List Nat→Option (List Nat)
 | _,[]=>some []
 | 0,_::_=>none
 | k+1,c::l=>match vget (c::l) with
  | none=>none
  | some (n,m)=>(vrd k ((c::l).drop m)).map (n :: ·)
def flat (ns:List Nat):List Nat:=ns.flatMap vput
theorem flat_cons (n:Nat)(ns:List Nat):flat (n::ns)=vput n++flat ns:=rfl
theorem flat_append (l m:List Nat):flat (l++m)=flat l++flat m:=by unfold flat;rw[List.flatMap_append]
theorem flat_lt (ns:List Nat):∀ c∈flat ns,c<256:=by
 intro c hc
 obtain⟨n,_,h⟩:=List.mem_flatMap.1 hc
 exact vput_lt n c h
theorem flat_len:∀ (ns:List Nat) (m:Nat),(∀ n∈ns,(vput n).length≤m)→(flat ns).length≤ns.length * m
 | [],m,_=>by simp[flat]
 | n::ns,m,h=>by
  rw[flat_cons,List.length_append,List.length_cons,Nat.add_mul]
  have h1:=h n (by simp)
  have h2:=flat_len ns m (fun x hx=>h x (by simp[hx]))
  omega
theorem vput_ne (n:Nat)(r:List Nat):∃ c l,vput n++r=c::l:=by
 have:=vput_pos n
 match h:vput n,this with
 | c::l,_=>exact⟨c,l++r,rfl⟩
theorem vrd_flat:∀ (ns:List Nat) (k:Nat),ns.length≤k→(∀ n∈ns,n≤1099511627776)→vrd k (flat ns)=some ns
 | [],k,_,_=>by cases k<;>rfl
 | n::ns,0,h,_=>by simp at h
 | n::ns,k+1,h,hm=>by
  rw[flat_cons]
  obtain⟨c,l,e⟩:=vput_ne n (flat ns)
  rw[e,vrd,← e,vget_put n (hm n (by simp))]
  simp only
  rw[List.drop_left' rfl,vrd_flat ns k (by simpa using h) (fun x hx=>hm x (by simp[hx]))]
  rfl
theorem vrd_of:∀ (k:Nat) (l ns:List Nat),(∀ c∈l,c<256)→vrd k l=some ns→ns.length≤k∧(∀ n∈ns,n≤1099511627776)∧l=flat ns
 | k,[],ns,_,h=>by
  have:ns=[]:=by cases k<;>(simp[vrd] at h;exact h)
  subst this;simp[flat]
 | 0,c::l,ns,_,h=>by simp[vrd] at h
 | k+1,c::l,ns,hb,h=>by
  rw[vrd] at h
  split at h
  ·cases h
  ·rename_i n m hg
   obtain⟨h1,h2,h3⟩:=vget_of hb hg
   rw[Option.map_eq_some_iff] at h
   obtain⟨ms,h4,rfl⟩:=h
   obtain⟨g1,g2,g3⟩:=vrd_of k _ ms (fun x hx=>hb x (List.mem_of_mem_drop hx)) h4
   refine⟨by simp;exact g1,fun x hx=>?_,?_⟩
   ·rcases List.mem_cons.1 hx with rfl|hx
    ·exact h1
    ·exact g2 x hx
   ·rw[flat_cons,← g3];exact h3
def zz (d:Int):Nat:=if d<0 then (-2 * d-1).toNat else (2 * d).toNat
def zag (k:Nat):Int:=if k % 2=0 then ((k / 2:Nat):Int) else -((k / 2:Nat):Int)-1
theorem zag_zz (d:Int):zag (zz d)=d:=by
 unfold zag zz
 split
 ·rw[if_neg (by omega)];omega
 ·rw[if_pos (by omega)];omega
theorem zz_zag (k:Nat):zz (zag k)=k:=by
 unfold zag zz
 split
 ·rw[if_neg (by omega)];omega
 ·rw[if_pos (by omega)];omega
def stepsL:Int→List Nat→List Nat
 | _,[]=>[]
 | a,x::r=>zz ((x:Int)-a)::stepsL x r
def sumsL:Int→List Nat→Option (List Nat)
 | _,[]=>some []
 | a,k::r=>if k≤549755813888∧0≤a+zag k∧a+zag k<274877906944 then (sumsL (a+zag k) r).map ((a+zag k).toNat :: ·) else none
theorem stepsL_len:∀ (a:Int) (l:List Nat),(stepsL a l).length=l.length
 | _,[]=>rfl
 | a,x::r=>by rw[stepsL,List.length_cons,stepsL_len,List.length_cons]
theorem zz_le {d:Int}{m:Nat}(h1 : -(m:Int)≤d)(h2:d≤m):zz d≤2 * m:=by
 unfold zz;split<;>omega
theorem steps_le:∀ (a:Int) (l:List Nat) (m:Nat),0≤a→a≤m→(∀ x∈l,x≤m)→∀ k∈stepsL a l,k≤2 * m
 | _,[],_,_,_,_,k,hk=>by simp[stepsL] at hk
 | a,x::r,m,h0,h1,h2,k,hk=>by
  have hx:=h2 x (by simp)
  rw[stepsL] at hk
  rcases List.mem_cons.1 hk with rfl|hk
  ·exact zz_le (by omega) (by omega)
  ·exact steps_le x r m (by omega) (by omega) (fun y hy=>h2 y (by simp[hy])) k hk
theorem sums_steps:∀ (a:Int) (l:List Nat),0≤a→a<274877906944→(∀ x∈l,x<274877906944)→sumsL a (stepsL a l)=some l
 | _,[],_,_,_=>rfl
 | a,x::r,h0,h1,h2=>by
  have hx:=h2 x (by simp)
  have e:a+zag (zz ((x:Int)-a))=(x:Int):=by rw[zag_zz];omega
  rw[stepsL,sumsL,e,if_pos ⟨by have:=zz_le (d:=(x:Int)-a) (m:=274877906944) (by omega) (by omega);omega,by omega,by omega⟩,
   sums_steps x r (by omega) (by omega) (fun y hy=>h2 y (by simp[hy]))]
  simp
theorem sums_of:∀ (a:Int) (ks xs:List Nat),sumsL a ks=some xs→ks=stepsL a xs∧∀ x∈xs,x<274877906944
 | _,[],xs,h=>by
  have:xs=[]:=by simp[sumsL] at h;exact h
  subst this;exact⟨rfl,by simp⟩
 | a,k::r,xs,h=>by
  rw[sumsL] at h
  split at h
  ·rename_i hc
   rw[Option.map_eq_some_iff] at h
   obtain⟨ys,h1,rfl⟩:=h
   obtain⟨g1,g2⟩:=sums_of _ r ys h1
   have e:(((a+zag k).toNat:Nat):Int)=a+zag k:=by omega
   refine⟨?_,fun x hx=>?_⟩
   ·rw[stepsL,e,← g1,show a+zag k-a=zag k by omega,zz_zag]
   ·rcases List.mem_cons.1 hx with rfl|hx
    ·omega
    ·exact g2 x hx
  ·cases h
def sizeP8 (n w:Nat):Nat:=(n * w+7) / 8
def dig:Nat→Nat→List Nat
 | 0,_=>[]
 | k+1,v=>v % 256::dig k (v / 256)
def val8:List Nat→Nat
 | []=>0
 | c::r=>c+256 * val8 r
def vW (w:Nat):List Nat→Nat
 | []=>0
 | n::r=>n+2 ^ w * vW w r
def unp (w:Nat):Nat→Nat→List Nat
 | 0,_=>[]
 | n+1,t=>t % 2 ^ w::unp w n (t / 2 ^ w)
theorem dig_len:∀ (k v:Nat),(dig k v).length=k
 | 0,_=>rfl
 | k+1,v=>by rw[dig,List.length_cons,dig_len]
theorem dig_lt:∀ (k v:Nat),∀ c∈dig k v,c<256
 | 0,_,c,h=>by simp[dig] at h
 | k+1,v,c,h=>by
  rw[dig] at h
  rcases List.mem_cons.1 h with rfl|h
  ·exact Nat.mod_lt _ (by omega)
  ·exact dig_lt k _ c h
theorem dig_add:∀ (a b v:Nat),dig (a+b) v=dig a v++dig b (v / 256 ^ a)
 | 0,b,v=>by simp[dig]
 | a+1,b,v=>by
  rw[show a+1+b=(a+b)+1 by omega,dig,dig,dig_add a b,List.cons_append,Nat.div_div_eq_div_mul,Nat.pow_succ,Nat.mul_comm 256]
theorem dig_mod:∀ (q x y:Nat),dig q (x+256 ^ q * y)=dig q x
 | 0,x,y=>rfl
 | q+1,x,y=>by
  have e:x+256 ^ (q+1) * y=x+256 * (256 ^ q * y):=by rw[Nat.pow_succ,Nat.mul_comm (256 ^ q) 256,Nat.mul_assoc]
  rw[dig,dig,e]
  congr 1
  ·omega
  ·rw[show (x+256 * (256 ^ q * y)) / 256=x / 256+256 ^ q * y by omega,dig_mod q]
theorem val8_dig:∀ (k v:Nat),v<256 ^ k→val8 (dig k v)=v
 | 0,v,h=>by simp at h;subst h;rfl
 | k+1,v,h=>by
  rw[dig,val8,val8_dig k (v / 256) (by rw[Nat.pow_succ] at h;omega)]
  omega
theorem dig_val8:∀ (b:List Nat),(∀ c∈b,c<256)→dig b.length (val8 b)=b
 | [],_=>rfl
 | c::r,h=>by
  have hc:=h c (by simp)
  rw[List.length_cons,val8,dig]
  congr 1
  ·omega
  ·rw[show (c+256 * val8 r) / 256=val8 r by omega]
   exact dig_val8 r (fun x hx=>h x (by simp[hx]))
theorem unp_len (w:Nat):∀ (n t:Nat),(unp w n t).length=n
 | 0,_=>rfl
 | n+1,t=>by rw[unp,List.length_cons,unp_len]
theorem unp_lt (w:Nat):∀ (n t:Nat),∀ x∈unp w n t,x<2 ^ w
 | 0,_,x,h=>by simp[unp] at h
 | n+1,t,x,h=>by
  rw[unp] at h
  rcases List.mem_cons.1 h with rfl|h
  ·exact Nat.mod_lt _ (Nat.two_pow_pos w)
  ·exact unp_lt w n _ x h
theorem unp_vW (w:Nat):∀ (l:List Nat),(∀ x∈l,x<2 ^ w)→unp w l.length (vW w l)=l
 | [],_=>rfl
 | n::r,h=>by
  have hn:=h n (by simp)
  rw[List.length_cons,vW,unp,Nat.add_mul_mod_self_left,Nat.mod_eq_of_lt hn,Nat.add_mul_div_left _ _ (Nat.two_pow_pos w),Nat.div_eq_of_lt hn,Nat.zero_add,unp_vW w r (fun x hx=>h x (by simp[hx]))]
theorem vW_unp (w:Nat):∀ (n t:Nat),t<2 ^ (w * n)→vW w (unp w n t)=t
 | 0,t,h=>by simp at h;subst h;rfl
 | n+1,t,h=>by
  rw[unp,vW,vW_unp w n (t / 2 ^ w) (Nat.div_lt_of_lt_mul (by rw[← Nat.pow_add];rw[Nat.mul_add,Nat.mul_one,Nat.add_comm] at h;exact h)),Nat.mod_add_div]
theorem vW_lt (w:Nat):∀ (l:List Nat),(∀ x∈l,x<2 ^ w)→vW w l<2 ^ (w * l.length)
 | [],_=>by simp[vW]
 | n::r,h=>by
  have hn:=h n (by simp)
  have ih:=vW_lt w r (fun x hx=>h x (by simp[hx]))
  rw[vW,List.length_cons,Nat.mul_add,Nat.mul_one,Nat.add_comm (w * r.length),Nat.pow_add]
  have:2 ^ w * (vW w r+1)≤2 ^ w * 2 ^ (w * r.length):=Nat.mul_le_mul_left _ ih
  rw[Nat.mul_add,Nat.mul_one] at this
  omega
def packL (w:Nat)(l:List Nat):List Nat:=dig (sizeP8 l.length w) (vW w l)
def unpackL (w n:Nat)(b:List Nat):Option (List Nat):=if b.length=sizeP8 n w∧val8 b<2 ^ (w * n) then some (unp w n (val8 b)) else none
theorem pow256 (k:Nat):256 ^ k=2 ^ (8 * k):=by rw[Nat.pow_mul]
theorem unpack_pack (w:Nat)(l:List Nat)(h:∀ x∈l,x<2 ^ w):unpackL w l.length (packL w l)=some l:=by
 have hv:=vW_lt w l h
 have hs:vW w l<256 ^ sizeP8 l.length w:=by
  refine Nat.lt_of_lt_of_le hv ?_
  rw[pow256]
  refine Nat.pow_le_pow_right (by omega) ?_
  unfold sizeP8
  rw[Nat.mul_comm w]
  omega
 unfold unpackL packL
 rw[val8_dig _ _ hs,if_pos ⟨dig_len _ _,hv⟩,unp_vW w l h]
theorem pack_unpack {w n:Nat}{b l:List Nat}(hb:∀ c∈b,c<256)(h:unpackL w n b=some l):packL w l=b∧l.length=n∧∀ x∈l,x<2 ^ w:=by
 unfold unpackL at h
 split at h
 ·rename_i hc
  cases h
  refine⟨?_,unp_len w n _,unp_lt w n _⟩
  unfold packL
  rw[unp_len,vW_unp w n _ hc.2,← hc.1,dig_val8 b hb]
 ·cases h
def packGo (w:Nat):Nat→Nat→List Nat→List Nat
 | have',left,[]=>if 0<have' then [left % 256] else []
 | have',left,n::r=>dig ((have'+w) / 8) (left+n * 2 ^ have')++packGo w ((have'+w) % 8) ((left+n * 2 ^ have') / 256 ^ ((have'+w) / 8)) r
theorem packGo_eq (w:Nat):∀ (l:List Nat) (h left:Nat),h<8→left<2 ^ h→(∀ x∈l,x<2 ^ w)→packGo w h left l=dig ((h+l.length * w+7) / 8) (left+2 ^ h * vW w l)
 | [],h,left,h8,hl,_=>by
  unfold packGo
  simp only[List.length_nil,Nat.zero_mul,Nat.add_zero,vW,Nat.mul_zero]
  split
  ·rw[show (h+7) / 8=1 by omega];rfl
  ·have:h=0:=by omega
   subst this;rfl
 | n::r,h,left,h8,hl,hx=>by
  have hn:=hx n (by simp)
  have hq:2 ^ (h+w)=256 ^ ((h+w) / 8) * 2 ^ ((h+w) % 8):=by
   rw[pow256,← Nat.pow_add]
   congr 1
   omega
  have hlt:left+n * 2 ^ h<2 ^ (h+w):=by
   rw[Nat.pow_add]
   have:2 ^ h * (n+1)≤2 ^ h * 2 ^ w:=Nat.mul_le_mul_left _ hn
   rw[Nat.mul_add,Nat.mul_one,Nat.mul_comm (2 ^ h) n] at this
   omega
  have h2:(left+n * 2 ^ h) / 256 ^ ((h+w) / 8)<2 ^ ((h+w) % 8):=Nat.div_lt_of_lt_mul (by rw[← hq];exact hlt)
  rw[packGo,packGo_eq w r _ _ (Nat.mod_lt _ (by omega)) h2 (fun x hx'=>hx x (by simp[hx']))]
  have e1:left+2 ^ h * vW w (n::r)=(left+n * 2 ^ h)+256 ^ ((h+w) / 8) * (2 ^ ((h+w) % 8) * vW w r):=by
   rw[vW,Nat.mul_add,← Nat.mul_assoc,← Nat.mul_assoc,← hq,Nat.pow_add,Nat.mul_comm (2 ^ h) n,Nat.add_assoc]
  have e2:(h+(n::r).length * w+7) / 8=(h+w) / 8+((h+w) % 8+r.length * w+7) / 8:=by
   rw[List.length_cons,Nat.add_mul,Nat.one_mul]
   generalize r.length * w=m
   omega
  rw[e1,e2,dig_add,dig_mod,Nat.add_mul_div_left _ _ (by rw[pow256];exact Nat.two_pow_pos _)]
theorem packL_go (w:Nat)(l:List Nat)(h:∀ x∈l,x<2 ^ w):packL w l=packGo w 0 0 l:=by
 rw[packGo_eq w l 0 0 (by omega) (by simp) h]
 unfold packL sizeP8
 simp
def enc1 (p:List Nat):List Nat:=vput p.length++p
def partS (b:List Nat):Option (List Nat×List Nat):=match vget b with
 | none=>none
 | some (n,k)=>if n≤b.length-k then some ((b.drop k).take n,(b.drop k).drop n) else none
theorem partS_enc (p r:List Nat)(h:p.length≤1099511627776):partS (enc1 p++r)=some (p,r):=by
 unfold partS enc1
 rw[List.append_assoc,vget_put _ h]
 simp only
 rw[List.drop_left' rfl,if_pos (by simp only[List.length_append];omega),List.take_left' rfl,List.drop_left' rfl]
theorem partS_of {b p r:List Nat}(hb:∀ c∈b,c<256)(h:partS b=some (p,r)):b=enc1 p++r∧p.length≤1099511627776∧(∀ c∈p,c<256)∧∀ c∈r,c<256:=by
 unfold partS at h
 split at h
 ·cases h
 ·rename_i n k hg
  obtain⟨h1,h2,h3⟩:=vget_of hb hg
  split at h
  ·rename_i hn
   simp only[Option.some.injEq,Prod.mk.injEq] at h
   obtain⟨rfl,rfl⟩:=h
   have hl:((b.drop k).take n).length=n:=by rw[List.length_take,List.length_drop];omega
   refine⟨?_,by rw[hl];exact h1,fun c hc=>hb c (List.mem_of_mem_drop (List.mem_of_mem_take hc)),fun c hc=>hb c (List.mem_of_mem_drop (List.mem_of_mem_drop hc))⟩
   unfold enc1
   rw[hl,List.append_assoc,List.take_append_drop]
   exact h3
  ·cases h
abbrev P5:=List Nat×(List Nat×(List Nat×(List Nat×List Nat)))
def split5 (b:List Nat):Option (P5×List Nat):=
 (partS b).bind fun q0=>(partS q0.2).bind fun q1=>(partS q1.2).bind fun q2=>(partS q2.2).bind fun q3=>(partS q3.2).bind fun q4=>
  some ((q0.1,(q1.1,(q2.1,(q3.1,q4.1)))),q4.2)
def enc5 (p:P5):List Nat:=enc1 p.1++(enc1 p.2.1++(enc1 p.2.2.1++(enc1 p.2.2.2.1++enc1 p.2.2.2.2)))
def Fit5 (p:P5):Prop:=p.1.length≤1099511627776∧p.2.1.length≤1099511627776∧p.2.2.1.length≤1099511627776∧p.2.2.2.1.length≤1099511627776∧p.2.2.2.2.length≤1099511627776
theorem split5_enc (p:P5)(r:List Nat)(h:Fit5 p):split5 (enc5 p++r)=some (p,r):=by
 unfold split5 enc5
 simp only[List.append_assoc]
 rw[partS_enc _ _ h.1]
 simp only[Option.bind_some]
 rw[partS_enc _ _ h.2.1]
 simp only[Option.bind_some]
 rw[partS_enc _ _ h.2.2.1]
 simp only[Option.bind_some]
 rw[partS_enc _ _ h.2.2.2.1]
 simp only[Option.bind_some]
 rw[partS_enc _ _ h.2.2.2.2]
 rfl
theorem split5_of {b:List Nat}{p:P5}{r:List Nat}(hb:∀ c∈b,c<256)(h:split5 b=some (p,r)) :
  b=enc5 p++r∧Fit5 p∧(∀ c∈p.1,c<256)∧(∀ c∈p.2.1,c<256)∧(∀ c∈p.2.2.1,c<256)∧(∀ c∈p.2.2.2.1,c<256)∧∀ c∈p.2.2.2.2,c<256:=by
 unfold split5 at h
 simp only[Option.bind_eq_some_iff] at h
 obtain⟨⟨a0,r0⟩,h0,⟨a1,r1⟩,h1,⟨a2,r2⟩,h2,⟨a3,r3⟩,h3,⟨a4,r4⟩,h4,h5⟩:=h
 simp only[Option.some.injEq,Prod.mk.injEq] at h5
 obtain⟨rfl,rfl⟩:=h5
 obtain⟨e0,l0,b0,c0⟩:=partS_of hb h0
 obtain⟨e1,l1,b1,c1⟩:=partS_of c0 h1
 obtain⟨e2,l2,b2,c2⟩:=partS_of c1 h2
 obtain⟨e3,l3,b3,c3⟩:=partS_of c2 h3
 obtain⟨e4,l4,b4,c4⟩:=partS_of c3 h4
 refine⟨?_,⟨l0,l1,l2,l3,l4⟩,b0,b1,b2,b3,b4⟩
 rw[e0,e1,e2,e3,e4]
 unfold enc5
 simp only[List.append_assoc]
def numsI (s:ST):List Int:=
 [s.1.1.1,s.1.1.2,s.1.2.1.1,s.1.2.1.2,s.1.2.2.1,s.1.2.2.2.1,s.1.2.2.2.2.1,s.1.2.2.2.2.2,s.2.1.1,s.2.1.2.1,s.2.1.2.2.1,(if s.2.1.2.2.2=true then 1 else 0),s.2.2.1,((s.2.2.2.2.1.length:Nat):Int),((s.2.2.2.2.2.length:Nat):Int)]
  ++ s.2.2.2.1.flatMap fun x=>[x.1,x.2.1,x.2.2]
def nums (s:ST):List Nat:=(numsI s).map Int.toNat
def whoseN (x:LT):Nat:=x.1.toNat * 32+(x.2.1.toNat * 8+x.2.2.1.toNat)
def whichN (x:HT):Nat:=x.1.toNat * 8+x.2.1.toNat
def partsS (s:ST):P5:=(flat (nums s),(packL 10 (s.2.2.2.2.1.map whoseN),(flat (stepsL 0 (s.2.2.2.2.1.map fun x=>x.2.2.2.1.toNat)),(packL 5 (s.2.2.2.2.2.map whichN),flat (stepsL 0 (s.2.2.2.2.2.map fun x=>x.2.2.toNat))))))
def encS (s:ST):List Nat:=enc5 (partsS s)
def Settled (s:ST):Prop:=∀ x∈s.2.2.2.2.1,x.2.2.2.2=s.2.2.1
noncomputable def putS (s:ST):Option (List Nat):=by
 classical exact if MayS s∧Settled s then some (encS s) else none
theorem putS_some {s:ST}{b:List Nat}:putS s=some b↔(MayS s∧Settled s)∧encS s=b:=by
 unfold putS
 split
 ·rename_i h;simp[h]
 ·rename_i h;simp[h]
def chunk3:List Nat→List HT
 | a::b::c::r=>((a:Int),((b:Int),(c:Int)))::chunk3 r
 | _=>[]
def zipL (now:Int):List Nat→List Nat→List LT
 | x::xs,f::fs=>(((x / 32:Nat):Int),(((x % 32 / 8:Nat):Int),(((x % 8:Nat):Int),((f:Int),now))))::zipL now xs fs
 | _,_=>[]
def zipH:List Nat→List Nat→List HT
 | y::ys,t::ts=>(((y / 8:Nat):Int),(((y % 8:Nat):Int),(t:Int)))::zipH ys ts
 | _,_=>[]
abbrev gN (ns:List Nat)(i:Nat):Int:=((ns.getD i 0:Nat):Int)
def buildS (ns whose fr which till:List Nat):ST:=
 (((gN ns 0,gN ns 1),((gN ns 2,gN ns 3),(gN ns 4,(gN ns 5,(gN ns 6,gN ns 7))))),((gN ns 8,(gN ns 9,(gN ns 10,decide (ns.getD 11 0=1)))),(gN ns 12,(chunk3 (ns.drop 15),(zipL (gN ns 12) whose fr,zipH which till)))))
def unpack4 (w n:Nat)(b:List Nat):Option (List Nat):=if n≤400 then unpackL w n b else none
def goodN (ns:List Nat):Bool:=decide (15≤ns.length)&&(decide ((ns.length-15) % 3=0)&&decide (ns.getD 11 0≤1))
def sums4 (b:List Nat):Option (List Nat):=(vrd 400 b).bind (sumsL 0)
noncomputable def ofParts (p:P5):Option ST:=
 (vrd 400 p.1).bind fun ns=>if goodN ns=true then
  (unpack4 10 (ns.getD 13 0) p.2.1).bind fun whose=>(sums4 p.2.2.1).bind fun fr=>(unpack4 5 (ns.getD 14 0) p.2.2.2.1).bind fun which=>(sums4 p.2.2.2.2).bind fun till=>
   if fr.length=whose.length∧till.length=which.length∧MayS (buildS ns whose fr which till) then some (buildS ns whose fr which till) else none
 else none
noncomputable def readS (b:List Nat):Option ST:=(split5 b).bind fun q=>if q.2=[] then ofParts q.1 else none
theorem may_prefix {b k:Int}(h:1≤sizeI b k):MayP b k:=by
 unfold sizeI at h
 split at h
 ·assumption
 ·omega
theorem numsI_ge {s:ST}(M:MayS s):∀ x∈numsI s,0≤x∧x≤1099511627776:=by
 have F:=M.fit
 obtain⟨a1,a2,a3,a4,_⟩:=may_prefix (show 1≤sizeI s.1.1.1 s.1.1.2 from F.x1)
 obtain⟨b1,b2,b3,b4,_⟩:=may_prefix (show 1≤sizeI s.1.2.1.1 s.1.2.1.2 from F.y1)
 obtain⟨⟨p1,p2⟩,⟨p3,p4⟩,p5,p6⟩:=M.pol
 have:=M.now0;have:=M.now1;have:=M.len;have:=M.lenH
 have f1:1≤s.1.2.2.1:=F.lo1
 have f2:s.1.2.2.1≤s.1.2.2.2.1:=F.lo2
 have f3:s.1.2.2.2.1≤65535:=F.hi
 have f4:0≤s.1.2.2.2.2.1:=F.g1
 have f5:s.1.2.2.2.2.1≤s.1.2.2.2.1-s.1.2.2.1:=F.g2
 have f6:1≤s.1.2.2.2.2.2:=F.h1
 have f7:s.1.2.2.2.2.2≤65535:=F.h2
 intro x hx
 unfold numsI at hx
 rcases List.mem_append.1 hx with hx|hx
 ·simp only[List.mem_cons,List.not_mem_nil,or_false] at hx
  rcases hx with rfl|rfl|rfl|rfl|rfl|rfl|rfl|rfl|rfl|rfl|rfl|rfl|rfl|rfl|rfl
  all_goals first|omega|(split<;>omega)
 ·obtain⟨p,hp,hx⟩:=List.mem_flatMap.1 hx
  have hf:=M.pools.fits p hp
  have:=M.pools.out4
  unfold FitsP at hf
  simp only[List.mem_cons,List.not_mem_nil,or_false] at hx
  rcases hx with rfl|rfl|rfl<;>omega
theorem toNat_cast {x:Int}(h:0≤x):((x.toNat:Nat):Int)=x:=by omega
theorem chunk_flat:∀ (P:List HT),(∀ p∈P,0≤p.1∧0≤p.2.1∧0≤p.2.2)→chunk3 ((P.flatMap fun x=>[x.1,x.2.1,x.2.2]).map Int.toNat)=P
 | [],_=>rfl
 | p::P,h=>by
  have hp:=h p (by simp)
  simp only[List.flatMap_cons,List.cons_append,List.nil_append,List.map_cons,chunk3]
  rw[toNat_cast hp.1,toNat_cast hp.2.1,toNat_cast hp.2.2,chunk_flat P (fun q hq=>h q (by simp[hq]))]
theorem flat_chunk:∀ (n:Nat) (l:List Nat),l.length=3 * n→((chunk3 l).flatMap fun x=>[x.1,x.2.1,x.2.2]).map Int.toNat=l∧(chunk3 l).length=n
 | 0,[],_=>⟨rfl,rfl⟩
 | 0,_::_,h=>by simp at h
 | n+1,[],h=>by simp at h
 | n+1,[a],h=>by simp at h;omega
 | n+1,[a,b],h=>by simp at h;omega
 | n+1,a::b::c::r,h=>by
  obtain⟨h1,h2⟩:=flat_chunk n r (by simp at h;omega)
  simp only[chunk3,List.flatMap_cons,List.cons_append,List.nil_append,List.map_cons,h1,Int.toNat_natCast,List.length_cons,h2,and_self]
theorem zipL_of (now:Int):∀ (L:List LT),(∀ x∈L,0≤x.1∧(0≤x.2.1∧x.2.1<4)∧(0≤x.2.2.1∧x.2.2.1<8)∧0≤x.2.2.2.1∧x.2.2.2.2=now)→zipL now (L.map whoseN) (L.map fun x=>x.2.2.2.1.toNat)=L
 | [],_=>rfl
 | x::L,h=>by
  obtain⟨h1,h2,h3,h4,h5⟩:=h x (by simp)
  simp only[List.map_cons,zipL]
  rw[zipL_of now L (fun y hy=>h y (by simp[hy]))]
  have e1:((whoseN x / 32:Nat):Int)=x.1:=by unfold whoseN;omega
  have e2:((whoseN x % 32 / 8:Nat):Int)=x.2.1:=by unfold whoseN;omega
  have e3:((whoseN x % 8:Nat):Int)=x.2.2.1:=by unfold whoseN;omega
  rw[e1,e2,e3,toNat_cast h4,← h5]
theorem zipL_to (now:Int):∀ (xs fs:List Nat),fs.length=xs.length→(zipL now xs fs).map whoseN=xs∧(zipL now xs fs).map (fun x=>x.2.2.2.1.toNat)=fs∧(zipL now xs fs).length=xs.length∧∀ x∈zipL now xs fs,x.2.2.2.2=now
 | [],[],_=>by simp[zipL]
 | [],_::_,h=>by simp at h
 | _::_,[],h=>by simp at h
 | x::xs,f::fs,h=>by
  obtain⟨h1,h2,h3,h4⟩:=zipL_to now xs fs (by simpa using h)
  refine⟨?_,?_,?_,fun y hy=>?_⟩
  ·simp only[zipL,List.map_cons,h1]
   congr 1
   show (((x / 32:Nat):Int)).toNat * 32+((((x % 32 / 8:Nat):Int)).toNat * 8+(((x % 8:Nat):Int)).toNat)=x
   omega
  ·simp only[zipL,List.map_cons,h2,Int.toNat_natCast]
  ·simp only[zipL,List.length_cons,h3]
  ·simp only[zipL] at hy
   rcases List.mem_cons.1 hy with rfl|hy
   ·rfl
   ·exact h4 y hy
theorem zipH_of:∀ (H:List HT),(∀ x∈H,(0≤x.1∧x.1<4)∧(0≤x.2.1∧x.2.1<8)∧0≤x.2.2)→zipH (H.map whichN) (H.map fun x=>x.2.2.toNat)=H
 | [],_=>rfl
 | x::H,h=>by
  obtain⟨h1,h2,h3⟩:=h x (by simp)
  simp only[List.map_cons,zipH]
  rw[zipH_of H (fun y hy=>h y (by simp[hy]))]
  have e1:((whichN x / 8:Nat):Int)=x.1:=by unfold whichN;omega
  have e2:((whichN x % 8:Nat):Int)=x.2.1:=by unfold whichN;omega
  rw[e1,e2,toNat_cast h3]
theorem zipH_to:∀ (ys ts:List Nat),ts.length=ys.length→(zipH ys ts).map whichN=ys∧(zipH ys ts).map (fun x=>x.2.2.toNat)=ts∧(zipH ys ts).length=ys.length
 | [],[],_=>by simp[zipH]
 | [],_::_,h=>by simp at h
 | _::_,[],h=>by simp at h
 | x::xs,f::fs,h=>by
  obtain⟨h1,h2,h3⟩:=zipH_to xs fs (by simpa using h)
  refine⟨?_,?_,?_⟩
  ·simp only[zipH,List.map_cons,h1]
   congr 1
   show (((x / 8:Nat):Int)).toNat * 8+(((x % 8:Nat):Int)).toNat=x
   omega
  ·simp only[zipH,List.map_cons,h2,Int.toNat_natCast]
  ·simp only[zipH,List.length_cons,h3]
theorem flatMap3_len (P:List HT):(P.flatMap fun x=>[x.1,x.2.1,x.2.2]).length=3 * P.length:=by
 induction P with
 | nil=>rfl
 | cons p P ih=>rw[List.flatMap_cons,List.length_append,ih,List.length_cons];simp;omega
theorem nums_len (s:ST):(nums s).length=15+3 * s.2.2.2.1.length:=by
 unfold nums numsI
 rw[List.length_map,List.length_append,flatMap3_len];rfl
theorem nums_le {s:ST}(M:MayS s):∀ n∈nums s,n≤1099511627776:=by
 intro n hn
 obtain⟨x,hx,rfl⟩:=List.mem_map.1 hn
 have:=numsI_ge M x hx
 omega
section
variable {s:ST}
theorem MayS.subB (M:MayS s){x:LT}(hx:x∈s.2.2.2.2.1):(0≤x.1∧x.1<32)∧(0≤x.2.1∧x.2.1<4)∧(0≤x.2.2.1∧x.2.2.1<8)∧0≤x.2.2.2.1∧x.2.2.2.1≤1073741824:=by
 have h:=M.leases.each x hx
 have:=M.fit.x2
 have:=M.fit.y2
 have:=M.fit.blk
 have:=M.now1
 have h1:=h.sub.2
 have h2:=h.blk.2.1
 have h3:=h.blk.2.2
 have:=h.from0;have:=h.last1;have:=h.last2
 omega
theorem MayS.heldB (M:MayS s){x:HT}(hx:x∈s.2.2.2.2.2):(0≤x.1∧x.1<4)∧(0≤x.2.1∧x.2.1<8)∧0≤x.2.2∧x.2.2≤1074790400:=by
 have h:=M.helds.each x hx
 have:=M.fit.y2
 have:=M.fit.blk
 have:=M.now0;have:=M.now1
 have h2:=h.blk.2.1
 have h3:=h.blk.2.2
 have:=h.till1;have:=h.till2
 omega
theorem MayS.whoseB (M:MayS s):∀ n∈s.2.2.2.2.1.map whoseN,n<2 ^ 10:=by
 intro n hn
 obtain⟨x,hx,rfl⟩:=List.mem_map.1 hn
 have:=M.subB hx
 unfold whoseN
 omega
theorem MayS.fromB (M:MayS s):∀ n∈s.2.2.2.2.1.map (fun x=>x.2.2.2.1.toNat),n≤1073741824:=by
 intro n hn
 obtain⟨x,hx,rfl⟩:=List.mem_map.1 hn
 have:=M.subB hx
 omega
theorem MayS.whichB (M:MayS s):∀ n∈s.2.2.2.2.2.map whichN,n<2 ^ 5:=by
 intro n hn
 obtain⟨x,hx,rfl⟩:=List.mem_map.1 hn
 have:=M.heldB hx
 unfold whichN
 omega
theorem MayS.tillB (M:MayS s):∀ n∈s.2.2.2.2.2.map (fun x=>x.2.2.toNat),n≤1074790400:=by
 intro n hn
 obtain⟨x,hx,rfl⟩:=List.mem_map.1 hn
 have:=M.heldB hx
 omega
theorem parts_len (M:MayS s):(partsS s).1.length≤144∧(partsS s).2.1.length≤40∧(partsS s).2.2.1.length≤160∧(partsS s).2.2.2.1.length≤20∧(partsS s).2.2.2.2.length≤160:=by
 have hL:=M.len
 have hH:=M.lenH
 have hP:=M.pools.len
 refine⟨?_,?_,?_,?_,?_⟩
 ·have:=flat_len (nums s) 6 (fun n hn=>vput_len6 (nums_le M n hn))
  rw[nums_len] at this
  show (flat (nums s)).length≤144
  omega
 ·show (packL 10 (s.2.2.2.2.1.map whoseN)).length≤40
  unfold packL
  rw[dig_len,List.length_map]
  unfold sizeP8
  omega
 ·have hs:=steps_le 0 (s.2.2.2.2.1.map fun x=>x.2.2.2.1.toNat) 1073741824 (by omega) (by omega) M.fromB
  have:=flat_len (stepsL 0 (s.2.2.2.2.1.map fun x=>x.2.2.2.1.toNat)) 5 (fun n hn=>vput_len 4 n (by have:=hs n hn;omega))
  rw[stepsL_len,List.length_map] at this
  show (flat (stepsL 0 (s.2.2.2.2.1.map fun x=>x.2.2.2.1.toNat))).length≤160
  omega
 ·show (packL 5 (s.2.2.2.2.2.map whichN)).length≤20
  unfold packL
  rw[dig_len,List.length_map]
  unfold sizeP8
  omega
 ·have hs:=steps_le 0 (s.2.2.2.2.2.map fun x=>x.2.2.toNat) 1074790400 (by omega) (by omega) M.tillB
  have:=flat_len (stepsL 0 (s.2.2.2.2.2.map fun x=>x.2.2.toNat)) 5 (fun n hn=>vput_len 4 n (by have:=hs n hn;omega))
  rw[stepsL_len,List.length_map] at this
  show (flat (stepsL 0 (s.2.2.2.2.2.map fun x=>x.2.2.toNat))).length≤160
  omega
theorem enc1_len2 {p:List Nat}{m:Nat}(h:p.length≤m)(hm:m<16384):(enc1 p).length≤m+2:=by
 unfold enc1
 have:=vput_len 1 p.length (by omega)
 rw[List.length_append];omega
theorem parts_fit (M:MayS s):Fit5 (partsS s):=by
 obtain⟨h1,h2,h3,h4,h5⟩:=parts_len M
 exact⟨by omega,by omega,by omega,by omega,by omega⟩
theorem encS_len (M:MayS s):(encS s).length≤600:=by
 obtain⟨h1,h2,h3,h4,h5⟩:=parts_len M
 have g1:=enc1_len2 h1 (by omega)
 have g2:=enc1_len2 h2 (by omega)
 have g3:=enc1_len2 h3 (by omega)
 have g4:=enc1_len2 h4 (by omega)
 have g5:=enc1_len2 h5 (by omega)
 unfold encS enc5
 simp only[List.length_append]
 omega
theorem enc1_lt {p:List Nat}(h:∀ c∈p,c<256):∀ c∈enc1 p,c<256:=by
 intro c hc
 unfold enc1 at hc
 rcases List.mem_append.1 hc with hc|hc
 ·exact vput_lt _ c hc
 ·exact h c hc
theorem packL_lt (w:Nat)(l:List Nat):∀ c∈packL w l,c<256:=dig_lt _ _
theorem encS_lt (s:ST):∀ c∈encS s,c<256:=by
 intro c hc
 unfold encS enc5 at hc
 simp only[List.mem_append] at hc
 rcases hc with hc|hc|hc|hc|hc
 ·exact enc1_lt (flat_lt _) c hc
 ·exact enc1_lt (packL_lt _ _) c hc
 ·exact enc1_lt (flat_lt _) c hc
 ·exact enc1_lt (packL_lt _ _) c hc
 ·exact enc1_lt (flat_lt _) c hc
theorem sums4_enc {l:List Nat}{m:Nat}(hl:l.length≤400)(h:∀ x∈l,x≤m)(hm:m<274877906944):sums4 (flat (stepsL 0 l))=some l:=by
 unfold sums4
 have hs:=steps_le 0 l m (by omega) (by omega) h
 rw[vrd_flat _ 400 (by rw[stepsL_len];exact hl) (fun n hn=>by have:=hs n hn;omega)]
 exact sums_steps 0 l (by omega) (by omega) (fun x hx=>by have:=h x hx;omega)
theorem sums4_of {b l:List Nat}(hb:∀ c∈b,c<256)(h:sums4 b=some l):b=flat (stepsL 0 l):=by
 unfold sums4 at h
 rw[Option.bind_eq_some_iff] at h
 obtain⟨ks,h1,h2⟩:=h
 obtain⟨_,_,e⟩:=vrd_of 400 b ks hb h1
 rw[e,(sums_of 0 ks l h2).1]
theorem read_put (M:MayS s)(hS:Settled s):ofParts (partsS s)=some s:=by
 have hP:=M.pools.len
 have hL:=M.len
 have hH:=M.lenH
 have hpos:∀ p∈s.2.2.2.1,0≤p.1∧0≤p.2.1∧0≤p.2.2:=fun p hp=>by
  have:=M.pools.fits p hp
  unfold FitsP at this
  omega
 have e1:vrd 400 (partsS s).1=some (nums s):=vrd_flat (nums s) 400 (by rw[nums_len];omega) (nums_le M)
 have hge:=numsI_ge M
 have hg:∀ i,(nums s).getD i 0=((numsI s).getD i 0).toNat:=fun i=>by
  unfold nums
  rw[List.getD_eq_getElem?_getD,List.getD_eq_getElem?_getD,List.getElem?_map]
  cases (numsI s)[i]? <;> rfl
 have e13:(nums s).getD 13 0=s.2.2.2.2.1.length:=by rw[hg];rfl
 have e14:(nums s).getD 14 0=s.2.2.2.2.2.length:=by rw[hg];rfl
 have e11:(nums s).getD 11 0=(if s.2.1.2.2.2=true then 1 else 0):=by
  rw[hg]
  show (if s.2.1.2.2.2=true then (1:Int) else 0).toNat=_
  split<;>rfl
 have egood:goodN (nums s)=true:=by
  unfold goodN
  rw[nums_len,e11]
  simp only[Bool.and_eq_true,decide_eq_true_eq]
  refine⟨by omega,by omega,?_⟩
  split<;>omega
 have hw:unpack4 10 ((nums s).getD 13 0) (partsS s).2.1=some (s.2.2.2.2.1.map whoseN):=by
  unfold unpack4
  rw[e13,if_pos (by omega)]
  have:=unpack_pack 10 (s.2.2.2.2.1.map whoseN) M.whoseB
  rw[List.length_map] at this
  exact this
 have hf:sums4 (partsS s).2.2.1=some (s.2.2.2.2.1.map fun x=>x.2.2.2.1.toNat):=sums4_enc (m:=1073741824) (by rw[List.length_map];omega) M.fromB (by omega)
 have hh:unpack4 5 ((nums s).getD 14 0) (partsS s).2.2.2.1=some (s.2.2.2.2.2.map whichN):=by
  unfold unpack4
  rw[e14,if_pos (by omega)]
  have:=unpack_pack 5 (s.2.2.2.2.2.map whichN) M.whichB
  rw[List.length_map] at this
  exact this
 have ht:sums4 (partsS s).2.2.2.2=some (s.2.2.2.2.2.map fun x=>x.2.2.toNat):=sums4_enc (m:=1074790400) (by rw[List.length_map];omega) M.tillB (by omega)
 have hgI:∀ i,i<15→gN (nums s) i=(numsI s).getD i 0:=fun i hi=>by
  show (((nums s).getD i 0:Nat):Int)=_
  rw[hg]
  refine toNat_cast ?_
  have hlt:i<(numsI s).length:=by
   have:=nums_len s
   unfold nums at this
   rw[List.length_map] at this
   omega
  rw[List.getD_eq_getElem?_getD,List.getElem?_eq_getElem hlt]
  exact (hge _ (List.getElem_mem hlt)).1
 have hd:(nums s).drop 15=(s.2.2.2.1.flatMap fun x=>[x.1,x.2.1,x.2.2]).map Int.toNat:=by
  unfold nums numsI
  rw[List.map_append]
  exact List.drop_left' rfl
 have hb:buildS (nums s) (s.2.2.2.2.1.map whoseN) (s.2.2.2.2.1.map fun x=>x.2.2.2.1.toNat) (s.2.2.2.2.2.map whichN) (s.2.2.2.2.2.map fun x=>x.2.2.toNat)=s:=by
  unfold buildS
  rw[hd,chunk_flat _ hpos,zipL_of _ _ (fun x hx=>?_),zipH_of _ (fun x hx=>?_),e11]
  ·rw[hgI 0 (by omega),hgI 1 (by omega),hgI 2 (by omega),hgI 3 (by omega),hgI 4 (by omega),hgI 5 (by omega),hgI 6 (by omega),hgI 7 (by omega),hgI 8 (by omega),hgI 9 (by omega),hgI 10 (by omega),hgI 12 (by omega)]
   obtain⟨⟨⟨a,b⟩,⟨c,d⟩,e,f,g,w⟩,⟨q,i,o,p⟩,n,P,L,H⟩:=s
   cases p<;>rfl
  ·have:=M.heldB hx
   exact⟨this.1,this.2.1,this.2.2.1⟩
  ·have h1:=M.subB hx
   have h2:=hS x hx
   refine⟨h1.1.1,h1.2.1,h1.2.2.1,h1.2.2.2.1,?_⟩
   rw[h2,hgI 12 (by omega)];rfl
 unfold ofParts
 rw[e1]
 simp only[Option.bind_some]
 rw[if_pos egood,hw]
 simp only[Option.bind_some]
 rw[hf]
 simp only[Option.bind_some]
 rw[hh]
 simp only[Option.bind_some]
 rw[ht]
 simp only[Option.bind_some]
 rw[hb,if_pos ⟨by rw[List.length_map,List.length_map],by rw[List.length_map,List.length_map],M⟩]
end
theorem getD_take15:∀ (ns:List Nat),15≤ns.length→ns=[ns.getD 0 0,ns.getD 1 0,ns.getD 2 0,ns.getD 3 0,ns.getD 4 0,ns.getD 5 0,ns.getD 6 0,ns.getD 7 0,ns.getD 8 0,ns.getD 9 0,ns.getD 10 0,ns.getD 11 0,ns.getD 12 0,ns.getD 13 0,ns.getD 14 0]++ns.drop 15
 | a0::a1::a2::a3::a4::a5::a6::a7::a8::a9::a10::a11::a12::a13::a14::r,_=>rfl
 | [],h|[_],h|[_,_],h|[_,_,_],h|[_,_,_,_],h|[_,_,_,_,_],h|[_,_,_,_,_,_],h|[_,_,_,_,_,_,_],h|[_,_,_,_,_,_,_,_],h|[_,_,_,_,_,_,_,_,_],h|[_,_,_,_,_,_,_,_,_,_],h|[_,_,_,_,_,_,_,_,_,_,_],h|[_,_,_,_,_,_,_,_,_,_,_,_],h|[_,_,_,_,_,_,_,_,_,_,_,_,_],h|[_,_,_,_,_,_,_,_,_,_,_,_,_,_],h=>by simp at h
theorem put_read {p:P5}{s:ST}(h0:∀ c∈p.1,c<256)(h1:∀ c∈p.2.1,c<256)(h2:∀ c∈p.2.2.1,c<256)(h3:∀ c∈p.2.2.2.1,c<256)(h4:∀ c∈p.2.2.2.2,c<256)(h:ofParts p=some s) :
  MayS s∧Settled s∧partsS s=p:=by
 unfold ofParts at h
 rw[Option.bind_eq_some_iff] at h
 obtain⟨ns,e0,h⟩:=h
 split at h
 case isFalse=>cases h
 rename_i hg
 simp only[Option.bind_eq_some_iff] at h
 obtain⟨whose,e1,fr,e2,which,e3,till,e4,h⟩:=h
 split at h
 case isFalse=>cases h
 rename_i hc
 obtain⟨hl1,hl2,hM⟩:=hc
 cases h
 unfold goodN at hg
 simp only[Bool.and_eq_true,decide_eq_true_eq] at hg
 obtain⟨g1,g2,g3⟩:=hg
 unfold unpack4 at e1 e3
 split at e1
 case isFalse=>cases e1
 split at e3
 case isFalse=>cases e3
 obtain⟨w1,w2,w3⟩:=pack_unpack h1 e1
 obtain⟨v1,v2,v3⟩:=pack_unpack h3 e3
 obtain⟨n1,n2,n3⟩:=vrd_of 400 _ ns h0 e0
 have f1:=sums4_of h2 e2
 have t1:=sums4_of h4 e4
 obtain⟨z1,z2,z3,z4⟩:=zipL_to (gN ns 12) whose fr hl1
 obtain⟨y1,y2,y3⟩:=zipH_to which till hl2
 refine⟨hM,z4,?_⟩
 have hnums:nums (buildS ns whose fr which till)=ns:=by
  obtain⟨m,hm⟩:∃ m,ns.length-15=3 * m:=⟨(ns.length-15) / 3,by omega⟩
  obtain⟨c1,c2⟩:=flat_chunk m (ns.drop 15) (by rw[List.length_drop];exact hm)
  conv=>rhs;rw[getD_take15 ns g1]
  unfold nums numsI buildS
  simp only
  rw[List.map_append,c1,z3,y3,w2,v2]
  congr 1
  have e11:(if decide (ns.getD 11 0=1)=true then (1:Int) else 0).toNat=ns.getD 11 0:=by
   by_cases h:ns.getD 11 0=1
   ·rw[if_pos (decide_eq_true h),h];rfl
   ·rw[if_neg (by simpa using h)]
    show 0=_
    omega
  simp only[List.map_cons,List.map_nil,Int.toNat_natCast,e11]
 unfold partsS
 rw[hnums]
 unfold buildS
 simp only
 rw[z1,z2,y1,y2,w1,v1,← n3,← f1,← t1]
theorem readS_put {s:ST}(M:MayS s)(hS:Settled s):readS (encS s)=some s:=by
 unfold readS encS
 have:=split5_enc (partsS s) [] (parts_fit M)
 rw[List.append_nil] at this
 rw[this]
 simp only[Option.bind_some,if_true]
 exact read_put M hS
theorem readS_of {b:List Nat}{s:ST}(hb:∀ c∈b,c<256)(h:readS b=some s):MayS s∧Settled s∧encS s=b:=by
 unfold readS at h
 rw[Option.bind_eq_some_iff] at h
 obtain⟨⟨p,r⟩,h1,h2⟩:=h
 split at h2
 ·rename_i hr
  simp only at hr
  subst hr
  obtain⟨e,_,b0,b1,b2,b3,b4⟩:=split5_of hb h1
  obtain⟨k1,k2,k3⟩:=put_read b0 b1 b2 b3 b4 h2
  refine⟨k1,k2,?_⟩
  unfold encS
  rw[k3,e,List.append_nil]
 ·cases h2
def openB (l:List Nat):Bool:=decide (l.length<6) && !(l.any fun c=>decide (c<128))
variable (crc:List Nat→List Nat)
def recX (k:Nat)(body:List Nat):List Nat:=k::(vput body.length++body)
def recB (k:Nat)(body:List Nat):List Nat:=recX k body++crc (recX k body)
def getR:List Nat→Except Nat (Nat×List Nat×Nat)
 | []=>.error 4
 | c::r=>
  if openB r then .error 4
  else match vget r with
   | none=>.error 2
   | some (n,k)=>
    if 1000<n then .error 2
    else if (c::r).length<1+k+n+4 then .error 4
    else if ((c::r).drop (1+k+n)).take 4=crc ((c::r).take (1+k+n)) then .ok (c,(r.drop k).take n,1+k+n+4)
    else .error 3
theorem vput_some:∀ (n:Nat),∃ c∈vput n,c<128:=by
 intro n
 induction n using Nat.strongRecOn with
 | ind n ih=>
  by_cases h:n<128
  ·exact⟨n,by rw[vput_low h];simp,h⟩
  ·obtain⟨c,h1,h2⟩:=ih (n / 128) (by omega)
   exact⟨c,by rw[vput_high h];exact List.mem_cons_of_mem _ h1,h2⟩
theorem openB_put (n:Nat)(r:List Nat):openB (vput n++r)=false:=by
 obtain⟨c,h1,h2⟩:=vput_some n
 have:(vput n++r).any (fun c=>decide (c<128))=true:=by
  rw[List.any_eq_true]
  exact⟨c,List.mem_append_left _ h1,by simpa using h2⟩
 unfold openB
 rw[this];simp
theorem recX_len (k:Nat)(body:List Nat):(recX k body).length=1+(vput body.length).length+body.length:=by
 unfold recX;simp only[List.length_cons,List.length_append];omega
theorem getR_cases (b:List Nat):(∃ e,getR crc b = .error e∧e≠0) ∨
  ∃ c r n k,b=c::r∧openB r=false∧vget r=some (n,k)∧n≤1000∧1+k+n+4≤b.length∧(b.drop (1+k+n)).take 4=crc (b.take (1+k+n))∧getR crc b = .ok (c,(r.drop k).take n,1+k+n+4):=by
 cases b with
 | nil=>exact .inl ⟨4,rfl,by omega⟩
 | cons c r=>
  simp only[getR]
  cases ho:openB r with
  | true=>exact .inl ⟨4,rfl,by omega⟩
  | false=>
   cases hv:vget r with
   | none=>exact .inl ⟨2,rfl,by omega⟩
   | some q=>
    obtain⟨n,k⟩:=q
    simp only
    by_cases h1:1000<n
    ·exact .inl ⟨2,by rw[if_neg (by simp),if_pos h1],by omega⟩
    by_cases h2:(c::r).length<1+k+n+4
    ·exact .inl ⟨4,by rw[if_neg (by simp),if_neg h1,if_pos h2],by omega⟩
    by_cases h3:((c::r).drop (1+k+n)).take 4=crc ((c::r).take (1+k+n))
    ·exact .inr ⟨c,r,n,k,rfl,ho,hv,by omega,by omega,h3,by rw[if_neg (by simp),if_neg h1,if_neg h2,if_pos h3]⟩
    ·exact .inl ⟨3,by rw[if_neg (by simp),if_neg h1,if_neg h2,if_neg h3],by omega⟩
theorem getR_rec (hc:∀ l,(crc l).length=4)(k:Nat)(body rest:List Nat)(hb:body.length≤1000) :
  getR crc (recB crc k body++rest) = .ok (k,body,(recB crc k body).length):=by
 have hl:=recX_len k body
 have e:recB crc k body++rest=k::(vput body.length++(body++(crc (recX k body)++rest))):=by
  unfold recB recX;simp only[List.cons_append,List.append_assoc]
 have e1:(recB crc k body++rest).take (1+(vput body.length).length+body.length)=recX k body:=by
  unfold recB
  rw[← hl,List.append_assoc,List.take_left' rfl]
 have e2:(recB crc k body++rest).drop (1+(vput body.length).length+body.length)=crc (recX k body)++rest:=by
  unfold recB
  rw[← hl,List.append_assoc,List.drop_left' rfl]
 have hlen:(recB crc k body++rest).length=1+(vput body.length).length+body.length+4+rest.length:=by
  rw[List.length_append];unfold recB;rw[List.length_append,hc,hl]
 rw[e] at e1 e2 hlen ⊢
 unfold getR
 simp only[openB_put,vget_put body.length (by omega),hlen,e1,e2]
 rw[if_neg (by simp),if_neg (by omega),if_neg (by omega),if_pos (by rw[List.take_left' (hc _)])]
 congr 2
 rw[Prod.mk.injEq]
 refine⟨?_,?_⟩
 ·rw[List.drop_left' rfl,List.take_left' rfl]
 ·unfold recB;rw[List.length_append,hc,hl]
theorem recB_lt (hc:∀ l,∀ c∈crc l,c<256)(k:Nat)(hk:k<256)(body:List Nat)(hb:∀ c∈body,c<256):∀ c∈recB crc k body,c<256:=by
 intro c h
 unfold recB recX at h
 rcases List.mem_append.1 h with h|h
 ·rcases List.mem_cons.1 h with rfl|h
  ·exact hk
  ·rcases List.mem_append.1 h with h|h
   ·exact vput_lt _ c h
   ·exact hb c h
 ·exact hc _ c h
theorem recB_len (hc:∀ l,(crc l).length=4)(k:Nat)(body:List Nat)(hb:body.length≤1000):(recB crc k body).length≤1011:=by
 unfold recB;rw[List.length_append,hc,recX_len]
 have:=vput_len6 (n:=body.length) (by omega)
 omega
theorem recB_pos (k:Nat)(body:List Nat):1≤(recB crc k body).length:=by
 unfold recB recX;simp
end Go.Proofs.Zz
namespace Go.Proofs.Zz
open Go Go.Sy
set_option linter.unusedSimpArgs false
set_option linter.unusedVariables false
def numsE (e:ET):List Nat:=
 if e.1=0∨e.1=1 then [e.2.2.1.toNat * 32+e.2.2.2.1.toNat * 8+e.2.2.2.2.1.toNat]
 else if e.1=2∨e.1=4 then [e.2.2.1.toNat * 8+e.2.2.2.1.toNat]
 else if e.1=3∨e.1=5 then [e.2.2.1.toNat]
 else [e.2.2.2.2.2.1.toNat,e.2.2.2.2.2.2.1.toNat,e.2.2.2.2.2.2.2.1.toNat,if e.2.2.2.2.2.2.2.2=true then 1 else 0]
def goE:Int→List ET→Option (List Nat)
 | _,[]=>some []
 | frm,e::r=>if MayE e∧frm≤e.2.1 then (goE e.2.1 r).map fun ns=>(((e.2.1-frm) * 16+e.1).toNat::numsE e)++ns else none
def putE (now:Int)(l:List ET):Option (List Nat):=
 if rng now 0 1073741824 then (goE now l).bind fun ns=>if ns.length≤400 then some (flat ns) else none else none
theorem MayE.kind {e:ET}(h:MayE e):e.1=0∨e.1=1∨e.1=2∨e.1=3∨e.1=4∨e.1=5∨e.1=6:=by
 have h3:=h.2.2
 unfold evBody at h3
 by_cases k0:e.1=0∨e.1=1
 ·omega
 by_cases k2:e.1=2
 ·omega
 by_cases k4:e.1=4
 ·omega
 by_cases k3:e.1=3∨e.1=5
 ·omega
 by_cases k6:e.1=6
 ·omega
 rw[if_neg k0,if_neg k2,if_neg k4,if_neg k3,if_neg k6] at h3
 exact h3.elim
theorem numsE_len (e:ET):(numsE e).length≤4:=by
 unfold numsE
 split
 ·simp
 ·split
  ·simp
  ·split<;>simp
theorem numsE_le {e:ET}(h:MayE e):∀ n∈numsE e,n≤1048576:=by
 have h3:=h.2.2
 unfold evBody at h3
 unfold numsE
 intro n hn
 by_cases k0:e.1=0∨e.1=1
 ·rw[if_pos k0] at h3 hn
  unfold rng at h3
  simp only[List.mem_singleton] at hn
  omega
 rw[if_neg k0] at h3 hn
 by_cases k2:e.1=2
 ·rw[if_pos k2] at h3
  rw[if_pos (.inl k2)] at hn
  unfold rng at h3
  simp only[List.mem_singleton] at hn
  omega
 rw[if_neg k2] at h3
 by_cases k4:e.1=4
 ·rw[if_pos k4] at h3
  rw[if_pos (.inr k4)] at hn
  unfold rng at h3
  simp only[List.mem_singleton] at hn
  omega
 rw[if_neg k4] at h3
 rw[if_neg (by omega)] at hn
 by_cases k3:e.1=3∨e.1=5
 ·rw[if_pos k3] at h3 hn
  unfold rng at h3
  simp only[List.mem_singleton] at hn
  omega
 rw[if_neg k3] at h3 hn
 by_cases k6:e.1=6
 ·rw[if_pos k6] at h3
  have hp:=h3.1
  unfold PolP at hp
  simp only[List.mem_cons,List.not_mem_nil,or_false] at hn
  rcases hn with rfl|rfl|rfl|rfl
  ·omega
  ·omega
  ·omega
  ·split<;>omega
 ·rw[if_neg k6] at h3;exact h3.elim
theorem goE_may:∀ {l:List ET} {frm:Int} {ns:List Nat},goE frm l=some ns→(∀ e∈l,MayE e∧frm≤e.2.1)∧(0≤frm→∀ n∈ns,n≤1099511627776)
 | [],_,_,h=>by cases h;exact⟨by simp,by simp⟩
 | e::r,frm,ns,h=>by
  unfold goE at h
  split at h
  ·rename_i hq
   cases hr:goE e.2.1 r with
   | none=>rw[hr] at h;cases h
   | some ms=>
    rw[hr] at h
    cases h
    have ih:=goE_may hr
    refine⟨fun x hx=>?_,fun h0 n hn=>?_⟩
    ·rcases List.mem_cons.1 hx with rfl|hx
     ·exact hq
     ·have:=ih.1 x hx;exact⟨this.1,by omega⟩
    ·rcases List.mem_append.1 hn with hn|hn
     ·rcases List.mem_cons.1 hn with rfl|hn
      ·have hk:=hq.1.kind
       have ha:=hq.1.1
       unfold rng at ha
       omega
      ·have:=numsE_le hq.1 n hn;omega
     ·exact ih.2 (by omega) n hn
  ·cases h
theorem putE_some {now:Int}{l:List ET}{b:List Nat}(h:putE now l=some b):rng now 0 1073741824∧(∀ e∈l,MayE e∧now≤e.2.1)∧∃ ns,goE now l=some ns∧ns.length≤400∧(∀ n∈ns,n≤1099511627776)∧b=flat ns:=by
 unfold putE at h
 split at h
 ·rename_i hr
  cases hg:goE now l with
  | none=>rw[hg] at h;cases h
  | some ns=>
   rw[hg] at h
   simp only[Option.bind_some] at h
   split at h
   ·cases h
    exact⟨hr,(goE_may hg).1,ns,rfl,by assumption,(goE_may hg).2 hr.1,rfl⟩
   ·cases h
 ·cases h
theorem putE_lt {now:Int}{l:List ET}{b:List Nat}(h:putE now l=some b):(∀ c∈b,c<256)∧b.length≤2400:=by
 obtain⟨_,_,ns,_,h1,h2,rfl⟩:=putE_some h
 refine⟨flat_lt ns,?_⟩
 have:=flat_len ns 6 (fun n hn=>vput_len6 (h2 n hn))
 omega
end Go.Proofs.Zz
