/- Itl, It2, M1, Itd, M2, M3, M6, M7, M8, M9, M11, M12. -/
import Derived.Test.YtlhbhlngoecdcaaGreatDoorFD
import Derived.IntWalk
import Derived.Sort.OwnSortedInts
import Derived.Shelf.Slices.CompactI
import Derived.Lib.RowBridge
import Derived.Lib.TrailingZeros
namespace Go.Sy
open Go
set_option linter.unusedSimpArgs false
set_option linter.unusedVariables false
section
variable {α β γ:Type}{f:α→Option (R3 α β γ)}
theorem fJ {n:Nat}{x x':α}(h:f x=some (.next x')):iter (n+1) f x=iter n f x':=by rw[iter,h]
theorem jQ {n:Nat}{x:α}{y:β}(h:f x=some (.out y)):iter (n+1) f x=some (.inl y):=by rw[iter,h]
theorem Dg {n:Nat}{x:α}{y:γ}(h:f x=some (.ret y)):iter (n+1) f x=some (.inr y):=by rw[iter,h]
theorem lg:∀ {k n:Nat},k≤n→∀ {x:α} {r:Sum β γ},iter k f x=some r→iter n f x=some r
 | 0,_,_,x,r,h=>by simp[iter] at h
 | k+1,0,hk,_,_,_=>by omega
 | k+1,n+1,hk,x,r,h=>by
  unfold iter at h ⊢
  split at h
  ·exact lg (by omega) h
  ·exact h
  ·exact h
  ·simp at h
theorem EF (I:α→Prop)(m:α→Nat)(Q:Sum β γ→Prop)
  (step:∀ x,I x→(∃ x',f x=some (.next x')∧I x'∧m x'<m x)∨(∃ y,f x=some (.out y)∧Q (.inl y))∨∃ y,f x=some (.ret y)∧Q (.inr y)) :
  ∀ (n:Nat) (x:α),I x→m x<n→∃ r,iter n f x=some r∧Q r
 | 0,_,_,h=>by omega
 | n+1,x,hI,hm=>by
  rcases step x hI with⟨x',h1,h2,h3⟩|⟨y,h1,h2⟩|⟨y,h1,h2⟩
  ·rw[fJ h1];exact EF I m Q step n x' h2 (by omega)
  ·exact⟨_,jQ h1,h2⟩
  ·exact⟨_,Dg h1,h2⟩
end
theorem iq {x:Int}(h1 : -9223372036854775808≤x)(h2:x≤9223372036854775807):IntKind.wrap .i64 x=x:=IntWalk.i64_in _ ⟨h1,h2⟩
theorem sH {n:Nat}(h:n<2 ^ 64):(BitVec.ofInt 64 (n:Int)).toNat=n:=by
 simp[BitVec.toNat_ofInt];omega
theorem Rv {a b:Nat}(ha:a<2 ^ 63)(hb:b<2 ^ 63):bG .and .i64 (a:Int) (b:Int)=((a &&& b:Nat):Int):=by
 have h:a &&& b≤a:=Nat.and_le_left
 show IntKind.wrap .i64 ((BitVec.ofInt 64 (a:Int) &&& BitVec.ofInt 64 (b:Int)).toNat:Int)=_
 rw[BitVec.toNat_and,sH (by omega),sH (by omega),iq (by omega) (by omega)]
theorem YS {a b:Nat}(ha:a<2 ^ 63)(hb:b<2 ^ 63):bG .xor .i64 (a:Int) (b:Int)=((a ^^^ b:Nat):Int):=by
 have h:a ^^^ b<2 ^ 63:=Nat.xor_lt_two_pow ha hb
 show IntKind.wrap .i64 ((BitVec.ofInt 64 (a:Int) ^^^ BitVec.ofInt 64 (b:Int)).toNat:Int)=_
 rw[BitVec.toNat_xor,sH (by omega),sH (by omega),iq (by omega) (by omega)]
theorem Ml {a m:Nat}(ha:a<2 ^ 63)(hm:m<63):bG .and .i64 (a:Int) (((2 ^ m:Nat):Int)-1)=((a % 2 ^ m:Nat):Int):=by
 have h1:1≤2 ^ m:=Nat.one_le_two_pow
 have h2:2 ^ m≤2 ^ 62:=Nat.pow_le_pow_right (by omega) (by omega)
 have e:((2 ^ m:Nat):Int)-1=((2 ^ m-1:Nat):Int):=by omega
 rw[e,Rv ha (by omega),Nat.and_two_pow_sub_one_eq_mod]
theorem fdiv_pow (a m:Nat):Int.fdiv (a:Int) ((2:Int) ^ m)=((a / 2 ^ m:Nat):Int):=by
 rw[show ((2:Int) ^ m)=((2 ^ m:Nat):Int) by simp,Int.fdiv_eq_ediv_of_nonneg _ (Int.natCast_nonneg _)];rfl
variable {α β γ δ:Type}{u:α→Option (R3 α β γ)}
theorem mC {e:Ty}{xs:List e.T}{i:Nat}(h:i<List.length xs):rd e xs i=xs[i]:=by
 unfold rd
 exact (List.getElem_eq_getD _).symm
theorem eA (st:Nat→α){n:Nat}{y:β}(hs:∀ j,j<n→u (st j)=some (.next (st (j+1))))(he:u (st n)=some (.out y)) :
  ∀ (k fuel:Nat),k≤n→n-k<fuel→iter fuel u (st k)=some (.inl y)
 | k,0,_,h=>by omega
 | k,fuel+1,hk,h=>by
  rcases Nat.lt_or_ge k n with hlt|hge
  ·rw[fJ (hs k hlt)]
   exact eA st hs he (k+1) fuel (by omega) (by omega)
  ·have:k=n:=by omega
   subst this
   exact jQ he
theorem tw (st:Nat→α){n:Nat}{y:γ}(hs:∀ j,j<n→u (st j)=some (.next (st (j+1))))(he:u (st n)=some (.ret y)) :
  ∀ (k fuel:Nat),k≤n→n-k<fuel→iter fuel u (st k)=some (.inr y)
 | k,0,_,h=>by omega
 | k,fuel+1,hk,h=>by
  rcases Nat.lt_or_ge k n with hlt|hge
  ·rw[fJ (hs k hlt)]
   exact tw st hs he (k+1) fuel (by omega) (by omega)
  ·have:k=n:=by omega
   subst this
   exact Dg he
theorem yO (st:Nat→α)(p:Nat→Bool){n:Nat}{y:β}{z:γ}(hs:∀ j,j<n→u (st j)=cond (p j) (some (.ret z)) (some (.next (st (j+1)))))(he:u (st n)=some (.out y)) :
  ∀ (k fuel:Nat),k≤n→n-k<fuel→iter fuel u (st k)=some (cond ((List.range' k (n-k)).any p) (.inr z) (.inl y))
 | k,0,_,h=>by omega
 | k,fuel+1,hk,h=>by
  rcases Nat.lt_or_ge k n with hlt|hge
  ·have e:n-k=(n-(k+1))+1:=by omega
   rw[e,List.range'_succ,List.any_cons]
   have h1:=hs k hlt
   cases hp:p k with
   | true=>rw[hp] at h1;rw[Dg h1];rfl
   | false=>
    rw[hp] at h1
    rw[fJ h1,yO st p hs he (k+1) fuel (by omega) (by omega)]
    rfl
  ·have:k=n:=by omega
   subst this
   rw[Nat.sub_self,jQ he];rfl
theorem kU (l:List δ)(q:δ→Bool)(st:Nat→α)(r:Nat→γ){y:β}(hs:∀ j (h:j<l.length),u (st j)=cond (q l[j]) (some (.ret (r j))) (some (.next (st (j+1)))))(he:u (st l.length)=some (.out y)){fuel:Nat}(hf:l.length<fuel) :
  iter fuel u (st 0)=some (if l.findIdx q<l.length then .inr (r (l.findIdx q)) else .inl y):=by
 by_cases hlt:l.findIdx q<l.length
 ·rw[if_pos hlt]
  refine tw st (n:=l.findIdx q) (fun j hj=>?_) ?_ 0 fuel (Nat.zero_le _) (by omega)
  ·rw[hs j (by omega)]
   have:q (l[j]'(by omega))=false:=by simpa using List.not_of_lt_findIdx hj
   rw[this];rfl
  ·rw[hs _ hlt]
   have:q (l[l.findIdx q]'hlt)=true:=List.findIdx_getElem
   rw[this];rfl
 ·rw[if_neg hlt]
  refine eA st (n:=l.length) (fun j hj=>?_) he 0 fuel (Nat.zero_le _) (by omega)
  rw[hs j hj]
  have:q (l[j]'(by omega))=false:=by simpa using List.not_of_lt_findIdx (p:=q) (xs:=l) (i:=j) (by omega)
  rw[this];rfl
theorem mb {l m:List δ}[DecidableEq δ](hl:l.length=m.length)(p:Nat→Bool)(hp:∀ j (h:j<l.length),p j = !decide (l[j]=m[j]'(by omega))):(List.range' 0 (l.length-0)).any p = !decide (l=m):=by
 by_cases h:l=m
 ·subst h
  rw[decide_eq_true rfl]
  simp only[Bool.not_true,List.any_eq_false]
  intro j hj
  have hj:=List.mem_range'_1.1 hj
  rw[hp j (by omega)]
  simp
 ·rw[decide_eq_false h]
  simp only[Bool.not_false,List.any_eq_true]
  apply Classical.byContradiction
  intro hn
  apply h
  apply List.ext_getElem hl
  intro j h1 h2
  apply Classical.byContradiction
  intro hne
  exact hn ⟨j,List.mem_range'_1.2 (by omega),by rw[hp j h1];simp[hne]⟩
end Go.Sy
namespace Go.Proofs.Zz
open Go Go.Sy
set_option linter.unusedSimpArgs false
set_option linter.unusedVariables false
abbrev LT:=Int×(Int×(Int×(Int×Int)))
abbrev HT:=Int×(Int×Int)
abbrev DT:=(Int×Int)×((Int×Int)×(Int×(Int×(Int×Int))))
abbrev PT:=Int×(Int×(Int×Bool))
abbrev ST:=DT×(PT×(Int×(List HT×(List LT×List HT))))
noncomputable instance:DecidableEq ST:=fun _ _=>Classical.propDecidable _
abbrev Sz {α:Type}(l:List α):Prop:=l.length≤9223372036854775807
theorem dx (j:Nat):decide (0≤(j:Int))=true:=decide_eq_true (Int.natCast_nonneg j)
theorem dB {j n:Nat}(h:j<n):decide ((j:Int)<(n:Int))=true:=decide_eq_true (by omega)
theorem gr (n:Nat):decide ((n:Int)<(n:Int))=false:=decide_eq_false (by omega)
theorem nx {j n:Nat}(h:j<n)(hn:n≤9223372036854775807):IntKind.wrap .i64 ((j:Int)+1)=((j+1:Nat):Int):=by rw[iq (by omega) (by omega)];omega
theorem Qj {l:List LT}{j:Nat}(h:j<l.length):rd (.pair (.int .i64) (.pair (.int .i64) (.pair (.int .i64) (.pair (.int .i64) (.int .i64))))) l j=l[j]:=mC h
theorem Ko {l:List HT}{j:Nat}(h:j<l.length):rd (.pair (.int .i64) (.pair (.int .i64) (.int .i64))) l j=l[j]:=mC h
theorem rdI {l:List Int}{j:Nat}(h:j<l.length):rd (.int .i64) l j=l[j]:=mC h
theorem xZ (p q:Prop)[Decidable p][Decidable q]:(decide p&&decide q)=decide (p∧q):=by simp
def vf (k:Int):Int:=((2 ^ (32-k).toNat:Nat):Int)
def mI (b k:Int):Prop:=0≤k∧k≤32∧0≤b∧b<4294967296∧b % vf k=0
instance (b k:Int):Decidable (mI b k):=by unfold mI;infer_instance
theorem xG (k:Int):1≤vf k:=by unfold vf;have:1≤2 ^ (32-k).toNat:=Nat.one_le_two_pow;omega
theorem KV {k:Int}(h:0≤k):vf k≤4294967296:=by
 unfold vf
 have:2 ^ (32-k).toNat≤2 ^ 32:=Nat.pow_le_pow_right (by omega) (by omega)
 omega
theorem Ta {k:Int}(h0:0≤k)(h1:k≤32):IntKind.wrap .i64 (1 * ((2:Int) ^ ((min (Int.toNat (IntKind.wrap .i64 (32-k))) 64):Nat)))=vf k:=by
 rw[iq (show -9223372036854775808≤32-k by omega) (by omega),Nat.min_eq_left (by omega)]
 have:=KV h0
 have:=xG k
 have e:(1:Int) * ((2:Int) ^ (32-k).toNat)=vf k:=by simp[vf]
 rw[e,iq (by omega) (by omega)]
def cC (b k:Int):Int:=if mI b k then vf k else 0
theorem oN (b k:Int):0≤cC b k∧cC b k≤4294967296:=by
 unfold cC
 split
 ·rename_i h
  have:=xG k
  have:=KV h.1
  omega
 ·omega
theorem Vy {k:Int}(h:0≤k):(4294967296:Int) % vf k=0:=by
 unfold vf
 have:(2 ^ (32-k).toNat:Nat) ∣ 2 ^ 32:=Nat.pow_dvd_pow 2 (by omega)
 have h2:=Nat.mod_eq_zero_of_dvd this
 have:((2 ^ 32 % 2 ^ (32-k).toNat:Nat):Int)=0:=by rw[h2];rfl
 simpa using this
theorem AP {b N m:Int}(hm:0<m)(hb:b % m=0)(hN:N % m=0)(h:b<N):b+m≤N:=by
 obtain⟨x,rfl⟩:=Int.dvd_of_emod_eq_zero hb
 obtain⟨y,rfl⟩:=Int.dvd_of_emod_eq_zero hN
 have:x<y:=by
  rcases Int.lt_or_le x y with h'|h'
  ·exact h'
  ·have:=Int.mul_le_mul_of_nonneg_left h' (Int.le_of_lt hm);omega
 have:=Int.mul_le_mul_of_nonneg_left (show x+1≤y by omega) (Int.le_of_lt hm)
 rw[Int.mul_add,Int.mul_one] at this
 exact this
theorem RA {b k:Int}(h:mI b k):b+vf k≤4294967296:=
 AP (by have:=xG k;omega) h.2.2.2.2 (Vy h.1) h.2.2.2.1
def uS (b k a:Int):Int:=if mI b k∧b≤a∧a<b+vf k then a-b else -1
theorem xor_zero (a b:Nat):a ^^^ b=0↔a=b:=by
 constructor
 ·intro h
  have:(a ^^^ b) ^^^ b=0 ^^^ b:=by rw[h]
  rwa [Nat.xor_assoc,Nat.xor_self,Nat.xor_zero,Nat.zero_xor] at this
 ·intro h;rw[h,Nat.xor_self]
theorem Ra {n a m:Nat}(hm:0<m)(hn:n % m=0):a / m=n / m↔n≤a∧a<n+m:=by
 obtain⟨x,rfl⟩:=Nat.dvd_of_mod_eq_zero hn
 rw[Nat.mul_div_cancel_left _ hm]
 constructor
 ·intro h
  have h1:=Nat.div_mul_le_self a m
  have h2:=Nat.lt_div_mul_add hm (a:=a)
  rw[h] at h1 h2
  rw[Nat.mul_comm m x]
  omega
 ·intro ⟨h1,h2⟩
  rw[Nat.mul_comm m x] at h1 h2
  rw[Nat.div_eq_iff hm]
  constructor
  ·omega
  ·omega
def Cn (b k b' k':Int):Prop:=mI b k∧mI b' k'∧((b≤b'∧b'<b+vf k)∨(b'≤b∧b<b'+vf k'))
instance (b k b' k':Int):Decidable (Cn b k b' k'):=by unfold Cn;infer_instance
theorem IB (b k a:Int):uS b k a ≠ -1↔mI b k∧b≤a∧a<b+vf k:=by
 unfold uS
 split
 ·rename_i h;constructor
  ·exact fun _=>h
  ·intro _;omega
 ·rename_i h;constructor
  ·exact fun h'=>absurd rfl h'
  ·exact fun h'=>absurd h' h
def Ql (x y:Int):Int:=(x-1) / y+1
def QX (D:DT):Int:=cC D.1.1 D.1.2
def fD (D:DT):Int:=cC D.2.1.1 D.2.1.2
abbrev KD (D:DT):Int:=D.2.2.1
abbrev Fo (D:DT):Int:=D.2.2.2.1
abbrev kE (D:DT):Int:=D.2.2.2.2.1
abbrev Kn (D:DT):Int:=D.2.2.2.2.2
def gi (D:DT):Int:=Ql (QX D) (fD D)
def each (D:DT):Int:=(Fo D-KD D+1-kE D) / gi D
def dm (D:DT):Int:=kE D / Kn D
structure iW (D:DT):Prop where
 x1:1≤QX D
 x2:QX D≤32
 y1:1≤fD D
 y2:fD D≤4
 meet:¬ Cn D.1.1 D.1.2 D.2.1.1 D.2.1.2
 lo1:1≤KD D
 lo2:KD D≤Fo D
 hi:Fo D≤65535
 g1:0≤kE D
 g2:kE D≤Fo D-KD D
 h1:1≤Kn D
 h2:Kn D≤65535
 blk:dm D≤8
 sh:gi D≤Fo D-KD D+1-kE D
noncomputable instance (D:DT):Decidable (iW D):=Classical.propDecidable _
section
variable {D:DT}
theorem iW.WN (F:iW D):1≤gi D∧gi D≤32:=by
 unfold gi Ql
 have h1:0≤(QX D-1) / fD D:=Int.ediv_nonneg (by have:=F.x1;omega) (by have:=F.y1;omega)
 have h2:(QX D-1) / fD D≤QX D-1:=Int.ediv_le_self _ (by have:=F.x1;omega)
 have:=F.x2
 omega
theorem iW.Uy (F:iW D):1≤each D∧gi D * each D≤Fo D-KD D+1-kE D:=by
 have hr:=F.WN
 have hs:=F.sh
 unfold each
 generalize gi D=n at hr hs ⊢
 refine⟨?_,Int.mul_ediv_self_le (by omega)⟩
 exact (Int.le_ediv_iff_mul_le (by omega)).2 (by omega)
def j4 (D:DT)(sub:Int):Int:=KD D+sub % gi D * each D
def OH (D:DT)(sub:Int):HT:=(sub / gi D,(j4 D sub,j4 D sub+each D-1))
def td (D:DT)(sub:Int):Prop:=iW D∧0≤sub∧sub<QX D
noncomputable instance (sub:Int):Decidable (td D sub):=Classical.propDecidable _
theorem iW.base (F:iW D){sub:Int}(h0:0≤sub)(h1:sub<QX D) :
  0≤sub / gi D∧sub / gi D<fD D∧KD D≤j4 D sub∧j4 D sub+each D-1≤Fo D-kE D∧0≤sub % gi D * each D:=by
 have hr:=F.WN
 have he:=F.Uy
 have hx:=F.x2
 have hy1:=F.y1
 have hy2:=F.y2
 have hxy:QX D≤fD D * gi D:=by
  unfold gi Ql
  generalize QX D=x at h1 hx ⊢
  generalize fD D=y at hy1 hy2 ⊢
  have:y=1∨y=2∨y=3∨y=4:=by omega
  rcases this with rfl|rfl|rfl|rfl<;>omega
 unfold j4
 generalize gi D=n at hr he hxy ⊢
 generalize each D=w at he ⊢
 have m0:=Int.emod_nonneg sub (show n≠0 by omega)
 have m1:=Int.emod_lt_of_pos sub (show 0<n by omega)
 have k0:0≤sub % n * w:=Int.mul_nonneg m0 (by omega)
 have k1:(sub % n+1) * w≤n * w:=Int.mul_le_mul_of_nonneg_right (by omega) (by omega)
 rw[Int.add_mul,Int.one_mul] at k1
 refine⟨Int.ediv_nonneg h0 (by omega),Int.ediv_lt_of_lt_mul (by omega) (by omega),by omega,by omega,k0⟩
def pz (D:DT)(at' blk:Int):Prop:=iW D∧(0≤at'∧at'<fD D)∧0≤blk∧blk<dm D
noncomputable instance (at' blk:Int):Decidable (pz D at' blk):=Classical.propDecidable _
def acy (D:DT)(at' blk:Int):HT:=(at',(Fo D-kE D+1+blk * Kn D,Fo D-kE D+1+blk * Kn D+Kn D-1))
theorem iW.block (F:iW D){blk:Int}(h0:0≤blk)(h1:blk<dm D):0≤blk * Kn D∧blk * Kn D+Kn D≤kE D:=by
 have hh:=F.h1
 have k1:(blk+1) * Kn D≤dm D * Kn D:=Int.mul_le_mul_of_nonneg_right (by omega) (by omega)
 have k2:dm D * Kn D≤kE D:=Int.ediv_mul_le _ (by omega)
 rw[Int.add_mul,Int.one_mul] at k1
 exact⟨Int.mul_nonneg h0 (by omega),by omega⟩
end
def hasB (p:HT)(at':Int):Bool:=decide (0≤p.1)&&(decide (p.1≤4)&&(decide (1≤p.2.1)&&(decide (p.2.1≤4)&&(decide (p.1≤at')&&decide (at'<p.1+p.2.1)))))
def dY (p q:HT):Bool:=decide (p.1<q.1+q.2.1)&&decide (q.1<p.1+p.2.1)
def ix (p:HT)(out:Int):Prop:=0≤p.1∧1≤p.2.1∧p.1<out∧p.2.1≤out-p.1∧0≤p.2.2∧p.2.2<2
instance (p:HT)(out:Int):Decidable (ix p out):=by unfold ix;infer_instance
structure bp (l:List HT)(out:Int):Prop where
 Rt:0≤out
 QC:out≤4
 len:l.length≤3
 fits:∀ p∈l,ix p out
 apart:l.Pairwise fun p q=>dY q p=false
noncomputable instance (l:List HT)(out:Int):Decidable (bp l out):=Classical.propDecidable _
def iv (P:List HT)(at':Int):Int:=if P.findIdx (fun p=>hasB p at')<P.length then ((P.findIdx (fun p=>hasB p at'):Nat):Int) else -1
def yZ (P:List HT)(at':Int):Bool:=P.any fun p=>hasB p at'
theorem sZ {α:Type}(l:List α)(q:α→Bool):((if l.findIdx q<l.length then ((l.findIdx q:Nat):Int) else -1) = -1)↔l.any q=false:=by
 have e:l.findIdx q<l.length↔∃ x,x∈l∧q x=true:=List.findIdx_lt_length
 split
 ·rename_i h
  have:l.any q=true:=by rw[List.any_eq_true];exact e.1 h
  rw[this];constructor
  ·intro h;omega
  ·intro h;cases h
 ·rename_i h
  have:l.any q=false:=by
   cases hb:l.any q with
   | false=>rfl
   | true=>rw[List.any_eq_true] at hb;exact absurd (e.2 hb) h
  rw[this];simp
theorem oC (P:List HT)(at':Int):(iv P at' = -1)↔yZ P at'=false:=sZ P _
def tT (p:PT):Prop:=(1≤p.1∧p.1≤8)∧(1≤p.2.1∧p.2.1≤1048576)∧0≤p.2.2.1∧p.2.2.1≤1048576
instance (p:PT):Decidable (tT p):=by unfold tT;infer_instance
def wg (x1 x2 y1 y2:Int):Prop:=x1<y1∨(x1=y1∧x2<y2)
instance (x1 x2 y1 y2:Int):Decidable (wg x1 x2 y1 y2):=by unfold wg;infer_instance
def xQ (x y:LT):Prop:=wg x.2.1 x.2.2.1 y.2.1 y.2.2.1
def Az (x y:HT):Prop:=wg x.1 x.2.1 y.1 y.2.1
instance (x y:LT):Decidable (xQ x y):=by unfold xQ;infer_instance
instance (x y:HT):Decidable (Az x y):=by unfold Az;infer_instance
theorem uA {a b c d e f:Int}(h1:wg a b c d)(h2:wg c d e f):wg a b e f:=by unfold wg at *;omega
def cnt (L:List LT)(sub:Int):Nat:=L.countP fun x=>decide (x.1=sub)
abbrev iw (a b:Int):LT→Bool:=fun x=>decide (x.2.1=a)&&decide (x.2.2.1=b)
def fO (L:List LT)(a b:Int):Int:=if L.findIdx (iw a b)<L.length then ((L.findIdx (iw a b):Nat):Int) else -1
def cr (L:List LT)(a b:Int):Bool:=L.any (iw a b)
theorem di (L:List LT)(a b:Int):(fO L a b = -1)↔cr L a b=false:=sZ L _
structure fI (D:DT)(p:PT)(now:Int)(P:List HT)(x:LT):Prop where
 sub:td D x.1
 blk:pz D x.2.1 x.2.2.1
 Sf:yZ P x.2.1=true
 pair:p.2.2.2=true→x.1 / gi D=x.2.1
 B4:0≤x.2.2.2.1
 Ca:x.2.2.2.1≤x.2.2.2.2
 BZ:x.2.2.2.2≤now
 idle:now-p.2.1<x.2.2.2.2
structure bz (D:DT)(p:PT)(now:Int)(P:List HT)(L:List LT):Prop where
 each:∀ x∈L,fI D p now P x
 nT:∀ x∈L,((cnt L x.1:Nat):Int)≤p.1
 ji:L.Pairwise xQ
structure ug (D:DT)(now:Int)(L:List LT)(x:HT):Prop where
 blk:pz D x.1 x.2.1
 Nz:now+1≤x.2.2
 BD:x.2.2≤now+1048576
 free:cr L x.1 x.2.1=false
structure cO (D:DT)(now:Int)(L:List LT)(H:List HT):Prop where
 each:∀ x∈H,ug D now L x
 ji:H.Pairwise Az
structure aM (s:ST):Prop where
 fit:iW s.1
 ud:tT s.2.1
 jX:0≤s.2.2.1
 nV:s.2.2.1≤1073741824
 dD:bp s.2.2.2.1 (fD s.1)
 aX:bz s.1 s.2.1 s.2.2.1 s.2.2.2.1 s.2.2.2.2.1
 len:s.2.2.2.2.1.length≤32
 cU:cO s.1 s.2.2.1 s.2.2.2.2.1 s.2.2.2.2.2
noncomputable instance (s:ST):Decidable (aM s):=Classical.propDecidable _
noncomputable instance (D:DT)(p:PT)(now:Int)(P:List HT)(L:List LT):Decidable (bz D p now P L):=Classical.propDecidable _
noncomputable instance (D:DT)(now:Int)(L:List LT)(H:List HT):Decidable (cO D now L H):=Classical.propDecidable _
theorem aW {α:Type}{l:List α}{j:Nat}(h:j<l.length):l.take (j+1)=l.take j++[l[j]]:=by rw[List.take_succ_eq_append_getElem h]
theorem xx {α:Type}{r:α→α→Prop}(tr:∀ a b c,r a b→r b c→r a c){l:List α}{j:Nat}(h:j<l.length)(hp:(l.take j).Pairwise r) :
  (l.take (j+1)).Pairwise r↔∀ (h0:0<j),r (l[j-1]'(by omega)) l[j]:=by
 rw[aW h,List.pairwise_append]
 constructor
 ·intro ⟨_,_,h3⟩ h0
  refine h3 _ ?_ _ (by simp)
  rw[List.mem_iff_getElem]
  exact⟨j-1,by rw[List.length_take];omega,by rw[List.getElem_take]⟩
 ·intro h3
  refine⟨hp,by simp,fun a ha b hb=>?_⟩
  rw[List.mem_singleton] at hb
  subst hb
  obtain⟨i,hi,rfl⟩:=List.mem_iff_getElem.1 ha
  rw[List.length_take] at hi
  rw[List.getElem_take]
  have h0:0<j:=by omega
  by_cases e:i=j-1
  ·subst e;exact h3 h0
  ·refine tr _ _ _ ?_ (h3 h0)
   have:=(List.pairwise_iff_getElem.1 hp) i (j-1) (by rw[List.length_take];omega) (by rw[List.length_take];omega) (by omega)
   rwa [List.getElem_take,List.getElem_take] at this
theorem BR (x y z:LT)(h1:xQ x y)(h2:xQ y z):xQ x z:=uA h1 h2
theorem Bx (x y z:HT)(h1:Az x y)(h2:Az y z):Az x z:=uA h1 h2
theorem tJ (M:List LT)(x:LT)(s:Int):cnt (M++[x]) s=cnt M s+(if x.1=s then 1 else 0):=by
 unfold cnt
 rw[List.countP_append,List.countP_singleton]
 by_cases h:x.1=s<;>simp[h]
section
variable {D:DT}{p:PT}{now:Int}{P:List HT}{L:List LT}{H:List HT}
theorem bz.nil:bz D p now P []:=⟨by simp,by simp,by simp⟩
theorem bz.take (h:bz D p now P L)(j:Nat):bz D p now P (L.take j):=
 ⟨fun x hx=>h.each x (List.mem_of_mem_take hx),fun x hx=>by
  have h1:=h.nT x (List.mem_of_mem_take hx)
  have h2:cnt (L.take j) x.1≤cnt L x.1:=(List.take_sublist j L).countP_le
  omega,h.ji.sublist (List.take_sublist j L)⟩
theorem bz.snoc {j:Nat}(hj:j<L.length)(h:bz D p now P (L.take j)) :
  bz D p now P (L.take (j+1))↔fI D p now P L[j]∧((cnt (L.take j) L[j].1+1:Nat):Int)≤p.1∧∀ (h0:0<j),xQ (L[j-1]'(by omega)) L[j]:=by
 have hmem:L[j]∈L.take (j+1):=by rw[aW hj];exact List.mem_append.2 (.inr (List.mem_singleton.2 rfl))
 constructor
 ·intro k
  refine⟨k.each _ hmem,?_,(xx (r:=xQ) @BR hj h.ji).1 k.ji⟩
  have:=k.nT _ hmem
  rw[aW hj,tJ,if_pos rfl] at this
  exact this
 ·intro ⟨k1,k2,k3⟩
  refine⟨fun x hx=>?_,fun x hx=>?_,(xx (r:=xQ) @BR hj h.ji).2 k3⟩
  ·rw[aW hj] at hx
   rcases List.mem_append.1 hx with hx|hx
   ·exact h.each x hx
   ·rw[List.mem_singleton] at hx;rw[hx];exact k1
  ·rw[aW hj,tJ]
   rw[aW hj] at hx
   split
   ·rename_i e;rw[← e];omega
   ·rename_i e
    rcases List.mem_append.1 hx with hx|hx
    ·exact h.nT x hx
    ·rw[List.mem_singleton] at hx;rw[hx] at e;exact absurd rfl e
theorem cO.nil:cO D now L []:=⟨by simp,by simp⟩
theorem cO.take (h:cO D now L H)(j:Nat):cO D now L (H.take j):=
 ⟨fun x hx=>h.each x (List.mem_of_mem_take hx),h.ji.sublist (List.take_sublist j H)⟩
theorem cO.snoc {j:Nat}(hj:j<H.length)(h:cO D now L (H.take j)) :
  cO D now L (H.take (j+1))↔ug D now L H[j]∧∀ (h0:0<j),Az (H[j-1]'(by omega)) H[j]:=by
 have hmem:H[j]∈H.take (j+1):=by rw[aW hj];exact List.mem_append.2 (.inr (List.mem_singleton.2 rfl))
 constructor
 ·intro k
  exact⟨k.each _ hmem,(xx (r:=Az) @Bx hj h.ji).1 k.ji⟩
 ·intro ⟨k1,k3⟩
  refine⟨fun x hx=>?_,(xx (r:=Az) @Bx hj h.ji).2 k3⟩
  rw[aW hj] at hx
  rcases List.mem_append.1 hx with hx|hx
  ·exact h.each x hx
  ·rw[List.mem_singleton] at hx;rw[hx];exact k1
end
theorem K4 {α X Y Z:Type}{u:X→Option (R3 X Y Z)}(del:α→Bool)(st:Nat→Nat→List α→X)(out:Nat→List α→Y)(N:Nat)
  (hstep:∀ i j (l:List α) (h:j<l.length) (hi:i<j),l.length=N→u (st i j l)=some (.next (if del l[j]=true then st i (j+1) l else st (i+1) (j+1) (l.set i l[j]))))
  (hout:∀ i (l:List α),i<l.length→u (st i l.length l)=some (.out (out i l))) :
  ∀ (d i j:Nat) (l:List α) (fuel:Nat),l.length=N→j+d=l.length→i<j→d<fuel →
   ∃ k l',iter fuel u (st i j l)=some (.inl (out k l'))∧k=i+((l.drop j).filter fun x=>!del x).length∧l'.take k=l.take i++(l.drop j).filter (fun x=>!del x)∧l'.length=l.length
 | _,i,j,l,0,_,_,_,hf=>by omega
 | 0,i,j,l,fuel+1,hN,hj,hi,hf=>by
  have e:j=l.length:=by omega
  subst e
  refine⟨i,l,jQ (hout i l (by omega)),by simp,by simp,rfl⟩
 | d+1,i,j,l,fuel+1,hN,hj,hi,hf=>by
  have hlt:j<l.length:=by omega
  have hs:=hstep i j l hlt hi hN
  have hdrop:l.drop j=l[j]::l.drop (j+1):=by rw[List.drop_eq_getElem_cons hlt]
  by_cases hd:del l[j]=true
  ·rw[if_pos hd] at hs
   obtain⟨k,l',h1,h2,h3,h4⟩:=K4 del st out N hstep hout d i (j+1) l fuel hN (by omega) (by omega) (by omega)
   refine⟨k,l',by rw[← h1];exact fJ hs,?_,?_,h4⟩
   ·rw[hdrop,List.filter_cons,if_neg (by simp[hd])];exact h2
   ·rw[hdrop,List.filter_cons,if_neg (by simp[hd])];exact h3
  ·rw[if_neg hd] at hs
   obtain⟨k,l',h1,h2,h3,h4⟩:=K4 del st out N hstep hout d (i+1) (j+1) (l.set i l[j]) fuel (by rw[List.length_set];exact hN) (by rw[List.length_set];omega) (by omega) (by omega)
   have hdr:(l.set i l[j]).drop (j+1)=l.drop (j+1):=List.drop_set_of_lt (by omega)
   rw[hdr] at h2 h3
   rw[List.length_set] at h4
   have htk:(l.set i l[j]).take (i+1)=l.take i++[l[j]]:=by
    rw[List.take_succ_eq_append_getElem (by rw[List.length_set];omega),List.take_set_of_le (Nat.le_refl i)]
    simp
   refine⟨k,l',by rw[← h1];exact fJ hs,?_,?_,h4⟩
   ·rw[hdrop,List.filter_cons,if_pos (by simp[hd]),List.length_cons];omega
   ·rw[hdrop,List.filter_cons,if_pos (by simp[hd]),h3,htk];simp
theorem NO {α X Y Z:Type}{u:X→Option (R3 X Y Z)}(del:α→Bool)(st:Nat→Nat→List α→X)(out:Nat→List α→Y)(l:List α)
  (hstep:∀ i j (m:List α) (h:j<m.length) (hi:i<j),m.length=l.length→u (st i j m)=some (.next (if del m[j]=true then st i (j+1) m else st (i+1) (j+1) (m.set i m[j]))))
  (hout:∀ i (m:List α),i<m.length→u (st i m.length m)=some (.out (out i m))) (hl:l.length<aC) (hi:l.findIdx del<l.length) :
  ∃ k l',iter aC u (st (l.findIdx del) (l.findIdx del+1) l)=some (.inl (out k l'))∧k=(l.filter fun x=>!del x).length∧l'.take k=l.filter (fun x=>!del x)∧l'.length=l.length:=by
 obtain⟨k,l',h1,h2,h3,h4⟩:=K4 del st out l.length hstep hout (l.length-(l.findIdx del+1)) (l.findIdx del) (l.findIdx del+1) l aC rfl (by omega) (by omega) (by omega)
 have hat:del l[l.findIdx del]=true:=List.findIdx_getElem (w:=hi)
 have hfirst:(l.take (l.findIdx del)).filter (fun x=>!del x)=l.take (l.findIdx del):=by
  rw[List.filter_eq_self]
  intro x hx
  obtain⟨j,hj,rfl⟩:=List.mem_iff_getElem.1 hx
  rw[List.length_take] at hj
  rw[List.getElem_take]
  have:=List.not_of_lt_findIdx (p:=del) (xs:=l) (i:=j) (by omega)
  simpa using this
 have hfil:l.filter (fun x=>!del x)=l.take (l.findIdx del)++(l.drop (l.findIdx del+1)).filter (fun x=>!del x):=by
  conv=>lhs;rw[← List.take_append_drop (l.findIdx del) l]
  rw[List.filter_append,hfirst,List.drop_eq_getElem_cons hi,List.filter_cons,if_neg (by simp[hat])]
 refine⟨k,l',h1,?_,by rw[h3,hfil],h4⟩
 rw[hfil,List.length_append,List.length_take]
 omega
theorem lt_eq (a b:LT):((decide (a.1=b.1))&&((decide (a.2.1=b.2.1))&&((decide (a.2.2.1=b.2.2.1))&&((decide (a.2.2.2.1=b.2.2.2.1))&&((decide (a.2.2.2.2=b.2.2.2.2))&&true)))))=decide (a=b):=by
 obtain⟨a1,a2,a3,a4,a5⟩:=a
 obtain⟨b1,b2,b3,b4,b5⟩:=b
 rw[Bool.eq_iff_iff]
 simp[Prod.ext_iff]
theorem Yj (a b:HT):((decide (a.1=b.1))&&((decide (a.2.1=b.2.1))&&((decide (a.2.2=b.2.2))&&true)))=decide (a=b):=by
 obtain⟨a1,a2,a3⟩:=a
 obtain⟨b1,b2,b3⟩:=b
 rw[Bool.eq_iff_iff]
 simp[Prod.ext_iff]
theorem dn {a b:Nat}(h:a≤b):decide ((a:Int)≤(b:Int))=true:=decide_eq_true (by omega)
def kL (x:LT):Int×Int:=(x.2.1,x.2.2.1)
def kH (x:HT):Int×Int:=(x.1,x.2.1)
def uH (b c:Int×Int):Prop:=wg b.1 b.2 c.1 c.2
instance (b c:Int×Int):Decidable (uH b c):=by unfold uH;infer_instance
theorem uK {a b c:Int×Int}(h1:uH a b)(h2:uH b c):uH a c:=uA h1 h2
theorem eG {a:Int×Int}(h:uH a a):False:=by unfold uH wg at h;omega
theorem OA (a b:Int×Int):uH a b∨a=b∨uH b a:=by
 obtain⟨a1,a2⟩:=a
 obtain⟨b1,b2⟩:=b
 unfold uH wg
 simp only[Prod.mk.injEq]
 omega
section
variable {α:Type}{k:α→Int×Int}
abbrev eu (k:α→Int×Int)(b:Int×Int)(y:α):Bool:=decide (uH b (k y))
abbrev isK (k:α→Int×Int)(b:Int×Int)(y:α):Bool:=decide (k y=b)
def fH (k:α→Int×Int)(l:List α)(x:α):List α:=l.take (l.findIdx (eu k (k x)))++x::l.drop (l.findIdx (eu k (k x)))
def u5 (k:α→Int×Int)(l:List α)(b:Int×Int):Bool:=l.any (isK k b)
abbrev JB (k:α→Int×Int)(l:List α):Prop:=l.Pairwise fun x y=>uH (k x) (k y)
theorem mR (l:List α)(x:α):(fH k l x).length=l.length+1:=by
 have:l.findIdx (eu k (k x))≤l.length:=List.findIdx_le_length
 unfold fH
 simp only[List.length_append,List.length_take,List.length_cons,List.length_drop];omega
theorem BW (l:List α)(x:α):(fH k l x).Perm (x::l):=by
 unfold fH
 refine List.perm_middle.trans (List.Perm.cons x ?_)
 rw[List.take_append_drop]
theorem kD {l:List α}{x y:α}:y∈fH k l x↔y=x∨y∈l:=by
 rw[(BW (k:=k) l x).mem_iff,List.mem_cons]
theorem O6 (l:List α)(x:α)(b:Int×Int):u5 k (fH k l x) b=(decide (k x=b)||u5 k l b):=by
 unfold u5
 rw[Bool.eq_iff_iff]
 simp only[List.any_eq_true,kD,Bool.or_eq_true]
 constructor
 ·rintro ⟨y,rfl|hy,h⟩
  ·exact .inl h
  ·exact .inr ⟨y,hy,h⟩
 ·rintro (h|⟨y,hy,h⟩)
  ·exact⟨x,.inl rfl,h⟩
  ·exact⟨y,.inr hy,h⟩
theorem KQ {l:List α}{b:Int×Int}(h:u5 k l b=false):∀ y∈l,k y≠b:=by
 intro y hy he
 unfold u5 at h
 rw[List.any_eq_false] at h
 exact h y hy (decide_eq_true he)
theorem Uh {l:List α}{x:α}(h:u5 k l (k x)=false):∀ y∈l.take (l.findIdx (eu k (k x))),uH (k y) (k x):=by
 intro y hy
 obtain⟨j,hj,rfl⟩:=List.mem_take_iff_getElem.1 hy
 have h1:eu k (k x) (l[j]'(by omega))=false:=by
  simpa using List.not_of_lt_findIdx (p:=eu k (k x)) (xs:=l) (i:=j) (by omega)
 rcases OA (k (l[j]'(by omega))) (k x) with h2|h2|h2
 ·exact h2
 ·exact absurd h2 (KQ h _ (List.getElem_mem _))
 ·rw[eu,decide_eq_true h2] at h1;cases h1
theorem HK {l:List α}{x:α}(hs:JB k l):∀ y∈l.drop (l.findIdx (eu k (k x))),uH (k x) (k y):=by
 intro y hy
 obtain⟨j,hj,rfl⟩:=List.mem_drop_iff_getElem.1 hy
 have hlt:l.findIdx (eu k (k x))<l.length:=by omega
 have h0:uH (k x) (k (l[l.findIdx (eu k (k x))]'hlt)):=by
  have:eu k (k x) (l[l.findIdx (eu k (k x))]'hlt)=true:=List.findIdx_getElem
  simpa [eu] using this
 cases j with
 | zero=>exact h0
 | succ j=>exact uK h0 (List.pairwise_iff_getElem.1 hs _ _ hlt (by omega) (by omega))
theorem zj {l:List α}{x:α}(hs:JB k l)(h:u5 k l (k x)=false):JB k (fH k l x):=by
 unfold fH
 show List.Pairwise _ _
 rw[List.pairwise_append,List.pairwise_cons]
 refine⟨hs.sublist (List.take_sublist _ _),⟨HK hs,hs.sublist (List.drop_sublist _ _)⟩,fun y hy z hz=>?_⟩
 have h1:=Uh h y hy
 rcases List.mem_cons.1 hz with rfl|hz
 ·exact h1
 ·exact uK h1 (HK hs z hz)
theorem GU:∀ {l m:List α},JB k l→JB k m→(∀ x,x∈l↔x∈m)→l=m
 | [],[],_,_,_=>rfl
 | [],y::m,_,_,h=>by have:=(h y).2 (by simp);simp at this
 | x::l,[],_,_,h=>by have:=(h x).1 (by simp);simp at this
 | x::l,y::m,hl,hm,h=>by
  obtain⟨hl1,hl2⟩:=List.pairwise_cons.1 hl
  obtain⟨hm1,hm2⟩:=List.pairwise_cons.1 hm
  have hxy:x=y:=by
   have h1:=(h x).1 (by simp)
   have h2:=(h y).2 (by simp)
   rcases List.mem_cons.1 h1 with h1|h1
   ·exact h1
   ·rcases List.mem_cons.1 h2 with h2|h2
    ·exact h2.symm
    ·exact (eG (uK (hm1 x h1) (hl1 y h2))).elim
  subst hxy
  congr 1
  refine GU hl2 hm2 fun z=>⟨fun hz=>?_,fun hz=>?_⟩
  ·rcases List.mem_cons.1 ((h z).1 (by simp[hz])) with h1|h1
   ·subst h1;exact (eG (hl1 z hz)).elim
   ·exact h1
  ·rcases List.mem_cons.1 ((h z).2 (by simp[hz])) with h1|h1
   ·subst h1;exact (eG (hm1 z hz)).elim
   ·exact h1
end
theorem lS (L:List LT)(a b:Int):cr L a b=u5 kL L (a,b):=by
 unfold cr u5
 congr 1
 funext x
 simp[iw,isK,kL,Prod.ext_iff]
def bM (H:List HT)(now:Int):List HT:=H.filter fun x=>!decide (x.2.2≤now)
def fc (H:List HT)(x:HT):List HT:=fH kH (H.filter fun y=>!decide (kH y=kH x)) x
def kr (L:List LT)(x:LT):List LT×Bool:=if cr L x.2.1 x.2.2.1=true∨32≤L.length then (L,false) else (fH kL L x,true)
def iL (L:List LT)(a b:Int):List LT:=L.eraseIdx (L.findIdx (iw a b))
def bR (L:List LT)(now:Int):List LT:=L.map fun x=>(x.1,(x.2.1,(x.2.2.1,(x.2.2.2.1,now))))
def aG (s:ST)(now:Int):ST:=(s.1,(s.2.1,(now,(s.2.2.2.1,(bR s.2.2.2.2.1 now,bM s.2.2.2.2.2 now)))))
def cA (s:ST)(now:Int):Prop:=aM s∧s.2.2.1≤now∧now≤1073741824
noncomputable instance (s:ST)(now:Int):Decidable (cA s now):=Classical.propDecidable _
noncomputable def settle (s:ST)(now:Int):ST×Bool:=if cA s now then (aG s now,true) else (s,false)
theorem nk (d:Array Int)(hs:∀ i j,i≤j→j<d.size→d[i]! ≤ d[j]!):∀ m,m≤d.size →
  (Lib.compactUpTo d m).Pairwise (· < ·)∧∀ x,x∈Lib.compactUpTo d m↔∃ j,j<m∧d[j]! = x
 | 0,_=>by simp[Lib.compactUpTo]
 | m+1,hm=>by
  obtain⟨h1,h2⟩:=nk d hs m (by omega)
  rw[Lib.compactUpTo_succ]
  cases hk:Lib.keeps d m with
  | true=>
   simp only[if_true]
   have hlt:∀ x∈Lib.compactUpTo d m,x<d[m]!:=by
    intro x hx
    obtain⟨j,hj,rfl⟩:=(h2 x).1 hx
    have e1:=hs j (m-1) (by omega) (by omega)
    have e2:=hs (m-1) m (by omega) (by omega)
    have e3:d[m]! ≠ d[m-1]!:=by
     intro he
     rw[Lib.keeps_neg (by omega) he] at hk
     cases hk
    omega
   refine⟨List.pairwise_append.2 ⟨h1,List.pairwise_singleton _ _,fun x hx y hy=>?_⟩,fun x=>?_⟩
   ·rw[List.mem_singleton] at hy;subst hy;exact hlt x hx
   ·rw[List.mem_append,List.mem_singleton,h2]
    constructor
    ·rintro (⟨j,hj,h⟩|h)
     ·exact⟨j,by omega,h⟩
     ·exact⟨m,by omega,h.symm⟩
    ·rintro ⟨j,hj,h⟩
     rcases Nat.lt_or_ge j m with h'|h'
     ·exact .inl ⟨j,h',h⟩
     ·have:j=m:=by omega
      subst this;exact .inr h.symm
  | false=>
   simp only[Bool.false_eq_true,if_false,List.append_nil]
   refine⟨h1,fun x=>?_⟩
   rw[h2]
   constructor
   ·rintro ⟨j,hj,h⟩;exact⟨j,by omega,h⟩
   ·rintro ⟨j,hj,h⟩
    rcases Nat.lt_or_ge j m with h'|h'
    ·exact⟨j,h',h⟩
    ·have:j=m:=by omega
     subst this
     rcases Nat.eq_zero_or_pos j with h0|h0
     ·subst h0;rw[Lib.keeps_lt_one d 0 (by omega)] at hk;cases hk
     ·refine⟨j-1,by omega,?_⟩
      by_cases he:d[j]! = d[j-1]!
      ·rw[← he];exact h
      ·rw[Lib.keeps_pos he] at hk;cases hk
def ct (l:List LT):List Int:=Lib.compact ((l.map (·.2.1)).mergeSort fun x y=>decide (x≤y))
theorem Xf (l:List LT):(ct l).Pairwise (· < ·)∧∀ x,x∈ct l↔∃ y∈l,y.2.1=x:=by
 unfold ct Lib.compact
 have hp:=List.pairwise_mergeSort (le:=fun x y:Int=>decide (x≤y)) (fun a b c h1 h2=>by simp only[decide_eq_true_eq] at *;omega) (fun a b=>by simp only[Bool.or_eq_true,decide_eq_true_eq];omega) (l.map (·.2.1))
 have hm:=fun x=>List.mem_mergeSort (a:=x) (l:=l.map (·.2.1)) (le:=fun x y:Int=>decide (x≤y))
 generalize ((l.map (·.2.1)).mergeSort fun x y=>decide (x≤y))=zs at hp hm
 have hg:∀ j,j<zs.length→zs.toArray[j]! = zs.getD j 0:=fun j hj=>by simp[hj]
 obtain⟨h1,h2⟩:=nk zs.toArray (fun i j hij hj=>by
  have hj':j<zs.length:=by simpa using hj
  rcases Nat.lt_or_ge i j with h|h
  ·have:=List.pairwise_iff_getElem.1 hp i j (by omega) hj' h
   simp only[decide_eq_true_eq] at this
   simpa [hj',show i<zs.length by omega] using this
  ·have:i=j:=by omega
   subst this;exact Int.le_refl _) zs.length (by simp)
 refine⟨h1,fun x=>?_⟩
 rw[h2]
 have e:(∃ j,j<zs.length∧zs.toArray[j]! = x)↔x∈zs:=by
  rw[List.mem_iff_getElem]
  constructor
  ·rintro ⟨j,hj,h⟩;exact⟨j,hj,by simpa [hj] using h⟩
  ·rintro ⟨j,hj,h⟩;exact⟨j,hj,by simpa [hj] using h⟩
 rw[e,hm]
 simp
theorem Gh (H:List HT)(now:Int):bM (bM H now) now=bM H now:=by
 unfold bM
 rw[List.filter_filter]
 simp
theorem j9 (L:List LT)(now:Int):(bR L now).length=L.length:=by unfold bR;rw[List.length_map]
theorem Td (L:List LT)(now s:Int):cnt (bR L now) s=cnt L s:=by
 unfold cnt bR
 rw[List.countP_map];rfl
theorem JZ (L:List LT)(now a b:Int):cr (bR L now) a b=cr L a b:=by
 unfold cr bR
 rw[List.any_map];rfl
theorem jg {s:ST}{now:Int}(h:cA s now):aM (aG s now):=by
 obtain⟨M,h1,h2⟩:=h
 have hid:=M.ud.2.1
 refine⟨M.fit,M.ud,Int.le_trans M.jX h1,h2,M.dD,⟨fun x hx=>?_,fun x hx=>?_,?_⟩,?_,⟨fun x hx=>?_,?_⟩⟩
 ·obtain⟨y,hy,rfl⟩:=List.mem_map.1 hx
  have:=M.aX.each y hy
  exact⟨this.sub,this.blk,this.Sf,this.pair,this.B4,by have a:=this.Ca;have b:=this.BZ;exact Int.le_trans a (Int.le_trans b h1),Int.le_refl _,by show now-s.2.1.2.1<now;omega⟩
 ·obtain⟨y,hy,rfl⟩:=List.mem_map.1 hx
  show ((cnt (bR s.2.2.2.2.1 now) y.1:Nat):Int)≤s.2.1.1
  rw[Td]
  exact M.aX.nT y hy
 ·exact List.Pairwise.map _ (fun _ _ h=>h) M.aX.ji
 ·show (bR s.2.2.2.2.1 now).length≤32
  rw[j9];exact M.len
 ·have hx':x∈s.2.2.2.2.2.filter fun x=>!decide (x.2.2≤now):=hx
  rw[List.mem_filter] at hx'
  obtain⟨hx1,hx2⟩:=hx'
  have:=M.cU.each x hx1
  have hlt:¬ x.2.2≤now:=by simpa using hx2
  refine⟨this.blk,by show now+1≤x.2.2;omega,Int.le_trans this.BD (by show s.2.2.1+1048576≤now+1048576;omega),?_⟩
  show cr (bR s.2.2.2.2.1 now) x.1 x.2.1=false
  rw[JZ];exact this.free
 ·exact M.cU.ji.sublist List.filter_sublist
theorem CH:∀ (l:List Int) (lo hi:Int),l.Pairwise (· < ·)→(∀ x∈l,lo≤x∧x<hi)→(l.length:Int)≤max 0 (hi-lo)
 | [],lo,hi,_,_=>by simp;omega
 | a::l,lo,hi,hp,hb=>by
  obtain⟨h1,h2⟩:=List.pairwise_cons.1 hp
  have ha:=hb a (by simp)
  have:=CH l (a+1) hi h2 (fun x hx=>⟨by have:=h1 x hx;omega,(hb x (by simp[hx])).2⟩)
  rw[List.length_cons]
  omega
theorem aM.L9 {s:ST}(M:aM s):s.2.2.2.2.2.length≤32:=by
 have hb:∀ x∈s.2.2.2.2.2,(0≤x.1∧x.1<4)∧0≤x.2.1∧x.2.1<8:=fun x hx=>by
  have h:=(M.cU.each x hx).blk
  have:=M.fit.y2
  have:=M.fit.blk
  have h1:=h.2.1
  have h2:=h.2.2
  omega
 have:=CH (s.2.2.2.2.2.map fun x=>8 * x.1+x.2.1) 0 32 (by
  rw[List.pairwise_map]
  have hp:=M.cU.ji
  refine (List.pairwise_iff_forall_sublist.2 fun {x y} hs=>?_)
  have hlt:=List.pairwise_iff_forall_sublist.1 hp hs
  have hx:=hb x (hs.subset (by simp))
  have hy:=hb y (hs.subset (by simp))
  unfold Az wg at hlt
  omega) (fun z hz=>by
  obtain⟨x,hx,rfl⟩:=List.mem_map.1 hz
  have:=hb x hx
  omega)
 rw[List.length_map] at this
 omega
abbrev ET:=Int×(Int×(Int×(Int×(Int×PT))))
def jm (n a b:Int):Prop:=a≤n∧n≤b
instance (n a b:Int):Decidable (jm n a b):=by unfold jm;infer_instance
def fS (k a b c:Int)(p:PT):Prop:=
 if k=0∨k=1 then jm a 0 31∧jm b 0 3∧jm c 0 7
 else if k=2 then jm a 0 3∧jm b 1 4∧jm c 0 0
 else if k=4 then jm a 0 2∧jm b 1 4∧jm c 0 0
 else if k=3∨k=5 then jm a 0 2∧jm b 0 0∧jm c 0 0
 else if k=6 then tT p∧jm a 0 0∧jm b 0 0∧jm c 0 0
 else False
instance (k a b c:Int)(p:PT):Decidable (fS k a b c p):=by unfold fS;infer_instance
def jw (e:ET):Prop:=jm e.2.1 0 1073741824∧(e.1≠6→e.2.2.2.2.2=(0,(0,(0,false))))∧fS e.1 e.2.2.1 e.2.2.2.1 e.2.2.2.2.1 e.2.2.2.2.2
instance (e:ET):Decidable (jw e):=by unfold jw;infer_instance
abbrev ck (P:List HT)(k:Int):HT:=P.getD k.toNat (0,(0,0))
def jC (P:List HT)(out but:Int)(p:HT):Int:=
 if ¬ ix p out then 1
 else if (List.range P.length).any (fun j=>!decide ((j:Int)=but)&&dY p (P.getD j (0,(0,0))))=true then 11
 else if but = -1∧P.length=3 then 9 else 0
def ym (busy:List Int)(p q:HT):Bool:=busy.any fun at'=>hasB p at' && !hasB q at'
noncomputable def qm (P:List HT)(out a n:Int):List HT×Int:=
 if ¬ bp P out then (P,1)
 else if jC P out (-1) (a,(n,0))≠0 then (P,jC P out (-1) (a,(n,0)))
 else (P++[(a,(n,0))],0)
noncomputable def dZ (P:List HT)(out k:Int):List HT×Int:=
 if ¬ bp P out then (P,1)
 else if k<0∨(P.length:Int)≤k then (P,5)
 else if (ck P k).2.2=1 then (P,11)
 else (P.set k.toNat ((ck P k).1,((ck P k).2.1,1)),0)
noncomputable def gM (P:List HT)(out k n:Int)(busy:List Int):List HT×Int:=
 if ¬ bp P out then (P,1)
 else if k<0∨(P.length:Int)≤k then (P,5)
 else if jC P out k ((ck P k).1,(n,(ck P k).2.2))≠0 then (P,jC P out k ((ck P k).1,(n,(ck P k).2.2)))
 else if ym busy (ck P k) ((ck P k).1,(n,(ck P k).2.2))=true then (P,12)
 else (P.set k.toNat ((ck P k).1,(n,(ck P k).2.2)),0)
noncomputable def ic (P:List HT)(out k:Int)(busy:List Int):List HT×Int:=
 if ¬ bp P out then (P,1)
 else if k<0∨(P.length:Int)≤k then (P,5)
 else if (ck P k).2.2=0∨ym busy (ck P k) (0,(0,0))=true then (P,12)
 else (P.eraseIdx k.toNat,0)
abbrev ia (t:ST)(P:List HT):ST:=(t.1,(t.2.1,(t.2.2.1,(P,(t.2.2.2.2.1,t.2.2.2.2.2)))))
abbrev Fa (t:ST)(L:List LT):ST:=(t.1,(t.2.1,(t.2.2.1,(t.2.2.2.1,(L,t.2.2.2.2.2)))))
abbrev Nq (t:ST)(L:List LT)(H:List HT):ST:=(t.1,(t.2.1,(t.2.2.1,(t.2.2.2.1,(L,H)))))
abbrev lK (t:ST)(p:PT):ST:=(t.1,(p,(t.2.2.1,(t.2.2.2.1,(t.2.2.2.2.1,t.2.2.2.2.2)))))
def JX (t:ST)(r:List HT×Int):Option ST:=if r.2=0 then some (ia t r.1) else none
def NI (t:ST)(e:ET):Option ST:=
 if fO t.2.2.2.2.1 e.2.2.2.1 e.2.2.2.2.1 = -1 then none
 else if (t.2.2.2.2.1.getD (fO t.2.2.2.2.1 e.2.2.2.1 e.2.2.2.2.1).toNat (0,(0,(0,(0,0))))).1≠e.2.2.1 then none
 else some (Nq t (iL t.2.2.2.2.1 e.2.2.2.1 e.2.2.2.2.1) (if 0<t.2.1.2.2.1 then fc t.2.2.2.2.2 (e.2.2.2.1,(e.2.2.2.2.1,e.2.1+t.2.1.2.2.1)) else t.2.2.2.2.2))
noncomputable def Cp (t:ST)(e:ET):Option ST:=
 if e.1=0 then (if (kr t.2.2.2.2.1 (e.2.2.1,(e.2.2.2.1,(e.2.2.2.2.1,(e.2.1,e.2.1))))).2=true then some (Fa t (kr t.2.2.2.2.1 (e.2.2.1,(e.2.2.2.1,(e.2.2.2.2.1,(e.2.1,e.2.1))))).1) else none)
 else if e.1=1 then NI t e
 else if e.1=6 then some (lK t e.2.2.2.2.2)
 else if e.1=2 then JX t (qm t.2.2.2.1 (fD t.1) e.2.2.1 e.2.2.2.1)
 else if e.1=3 then JX t (dZ t.2.2.2.1 (fD t.1) e.2.2.1)
 else if e.1=4 then JX t (gM t.2.2.2.1 (fD t.1) e.2.2.1 e.2.2.2.1 (ct t.2.2.2.2.1))
 else JX t (ic t.2.2.2.1 (fD t.1) e.2.2.1 (ct t.2.2.2.2.1))
noncomputable def bH (s:ST)(e:ET):ST×Int:=
 if ¬ aM s∨¬ jw e then (s,1)
 else if ¬ cA s e.2.1 then (s,10)
 else match Cp (aG s e.2.1) e with
  | none=>(s,2)
  | some t=>if aM t then (t,0) else (s,2)
noncomputable def qO (s:ST):List ET→ST×Int
 | []=>(s,0)
 | e::l=>if (bH s e).2=0 then qO (bH s e).1 l else (s,(bH s e).2)
noncomputable def HZ (s:ST)(l:List ET):ST×Int:=if (qO s l).2=0 then qO s l else (s,(qO s l).2)
theorem Cj {s:ST}{e:ET}(h:(bH s e).2≠0):(bH s e).1=s:=by
 unfold bH at h ⊢
 split
 ·rfl
 ·split
  ·rfl
  ·rename_i h1 h2
   rw[if_neg h1,if_neg h2] at h
   split
   ·rfl
   ·rename_i t ht
    rw[ht] at h
    simp only at h
    split
    ·rename_i hm;rw[if_pos hm] at h;exact absurd rfl h
    ·rfl
theorem OU {s:ST}{e:ET}(h:(bH s e).2=0):aM s∧jw e∧cA s e.2.1∧aM (bH s e).1∧Cp (aG s e.2.1) e=some (bH s e).1:=by
 unfold bH at h ⊢
 split at h
 ·cases h
 ·rename_i h1
  split at h
  ·cases h
  ·rename_i h2
   rw[if_neg h1,if_neg h2]
   have hM:aM s:=Classical.not_not.1 fun k=>h1 (.inl k)
   have hE:jw e:=Classical.not_not.1 fun k=>h1 (.inr k)
   split at h
   ·cases h
   ·rename_i t ht
    split at h
    ·rename_i hm
     rw[ht]
     show aM s∧jw e∧cA s e.2.1∧aM (if aM t then (t,(0:Int)) else (s,2)).1∧some t=some (if aM t then (t,(0:Int)) else (s,2)).1
     rw[if_pos hm]
     exact⟨hM,hE,Classical.not_not.1 h2,hm,rfl⟩
    ·cases h
abbrev RT:=Int×(Int×(Int×(Int×(Int×PT))))
abbrev AT:=Int×(Int×Int)
abbrev P0:PT:=(0,(0,(0,false)))
abbrev QU:=ST×(List ET×AT)
def lN (s:ST)(e:Int):QU:=(s,([],(e,(0,0))))
def iQ (n U:Nat)(i:Int):Nat:=if 0≤i∧i<(n:Int)∧U.testBit i.toNat=false then U ^^^ 2 ^ i.toNat else U
def mH (n:Nat)(at':Int)(U:Nat)(l:List (Int×Int)):Nat:=l.foldl (fun U b=>if b.1=at' then iQ n U b.2 else U) U
def je (n U:Nat):Int:=if 0<2 ^ n-1-U then ((Lib.ctz 64 (2 ^ n-1-U):Nat):Int) else -1
def fN (P:List HT)(at':Int):Bool:=decide (iv P at' ≠ -1)&&decide ((ck P (iv P at')).2.2=0)
noncomputable def vT (s:ST)(at':Int):Nat:=mH (dm s.1).toNat at' 0 (s.2.2.2.2.1.map kL++s.2.2.2.2.2.map kH)
noncomputable def aZ (s:ST)(at':Int):Int:=if fN s.2.2.2.1 at'=true then je (dm s.1).toNat (vT s at') else -1
def bl (f:Int→Int):Nat→Int→Int
 | 0,a=>a
 | n+1,a=>if f a = -1 then bl f n (a+1) else a
noncomputable def iH (s:ST)(sub a to:Int):QU:=
 if to≤bl (aZ s) (to-a).toNat a then lN s 7
 else (Fa s (kr s.2.2.2.2.1 (sub,(bl (aZ s) (to-a).toNat a,(aZ s (bl (aZ s) (to-a).toNat a),(s.2.2.1,s.2.2.1))))).1,
  ([(0,(s.2.2.1,(sub,(bl (aZ s) (to-a).toNat a,(aZ s (bl (aZ s) (to-a).toNat a),P0)))))],(0,(bl (aZ s) (to-a).toNat a,aZ s (bl (aZ s) (to-a).toNat a)))))
noncomputable def ri (s:ST)(sub:Int):QU:=
 if ¬ td s.1 sub then lN s 5
 else if ¬ ((cnt s.2.2.2.2.1 sub:Nat):Int)<s.2.1.1 then lN s 6
 else if s.2.1.2.2.2=true then
  (if iv s.2.2.2.1 (sub / gi s.1) = -1 then lN s 7
  else if fN s.2.2.2.1 (sub / gi s.1)=false then lN s 8
  else iH s sub (sub / gi s.1) (sub / gi s.1+1))
 else iH s sub 0 (fD s.1)
abbrev L0:LT:=(0,(0,(0,(0,0))))
def b8 (L:List LT)(a b:Int):LT:=L.getD (L.findIdx (iw a b)) L0
def jD (L:List LT)(sub a b:Int):Prop:=cr L a b=true∧(b8 L a b).1=sub
instance (L:List LT)(sub a b:Int):Decidable (jD L sub a b):=by unfold jD;infer_instance
def fP (x:LT)(now:Int):LT:=(x.1,(x.2.1,(x.2.2.1,(x.2.2.2.1,now))))
noncomputable def j6 (s:ST)(sub a b:Int):QU:=
 if ¬ jD s.2.2.2.2.1 sub a b then lN s 5
 else (Fa s (s.2.2.2.2.1.set (s.2.2.2.2.1.findIdx (iw a b)) (fP (b8 s.2.2.2.2.1 a b) s.2.2.1)),([],(0,(a,b))))
def iR (s:ST)(x:LT)(at':Int):ST:=Nq s (iL s.2.2.2.2.1 x.2.1 x.2.2.1) (if 0<s.2.1.2.2.1 then fc s.2.2.2.2.2 (x.2.1,(x.2.2.1,at'+s.2.1.2.2.1)) else s.2.2.2.2.2)
def jl (x:LT)(at':Int):ET:=(1,(at',(x.1,(x.2.1,(x.2.2.1,P0)))))
noncomputable def ko (s:ST)(sub a b:Int):QU:=
 if ¬ jD s.2.2.2.2.1 sub a b then lN s 5
 else (iR s (b8 s.2.2.2.2.1 a b) s.2.2.1,([jl (b8 s.2.2.2.2.1 a b) s.2.2.1],(0,(a,b))))
def ig (idle:Int)(x:LT):Int×Int:=(x.2.1 * 8+x.2.2.1,x.2.2.2.2+idle)
def ow (x y:Int×Int):Bool:=decide (x.2<y.2∨(x.2=y.2∧x.1<y.1))
def aQ (s:ST)(n:Int):List LT:=(s.2.2.2.2.1.filter fun x=>decide ((ig s.2.1.2.1 x).2≤n)).mergeSort fun x y=>!ow (ig s.2.1.2.1 y) (ig s.2.1.2.1 x)
def cK (s:ST)(l:List LT):ST:=l.foldl (fun t x=>iR t x (x.2.2.2.2+s.2.1.2.1)) s
abbrev Ep (t:ST)(n:Int):ST:=(t.1,(t.2.1,(n,(t.2.2.2.1,(t.2.2.2.2.1,bM t.2.2.2.2.2 n)))))
noncomputable def zM (s:ST)(n:Int):QU:=
 if n<s.2.2.1∨1073741824<n then lN s 10
 else (Ep (cK s (aQ s n)) n,((aQ s n).map fun x=>jl x (x.2.2.2.2+s.2.1.2.1),(0,(((aQ s n).length:Int),0))))
def bX (s:ST)(r:List HT×Int)(e:ET):QU:=if r.2≠0 then lN s r.2 else (ia s r.1,([e],(0,(0,0))))
noncomputable def pW (s:ST)(p:PT):QU:=
 if ¬ tT p then lN s 1
 else if ¬ aM (lK s p) then lN s 12
 else (lK s p,([(6,(s.2.2.1,(0,(0,(0,p)))))],(0,(0,0))))
noncomputable def AU (s:ST)(r:RT):QU:=
 if ¬ (aM s∧0≤r.1∧r.1<9) then lN s 1
 else if r.1=0 then ri s r.2.1
 else if r.1=1 then j6 s r.2.1 r.2.2.1 r.2.2.2.1
 else if r.1=2 then ko s r.2.1 r.2.2.1 r.2.2.2.1
 else if r.1=3 then zM s r.2.2.2.2.1
 else if r.1=4 then bX s (qm s.2.2.2.1 (fD s.1) r.2.2.1 r.2.2.2.2.1) (2,(s.2.2.1,(r.2.2.1,(r.2.2.2.2.1,(0,P0)))))
 else if r.1=5 then bX s (dZ s.2.2.2.1 (fD s.1) r.2.2.2.2.1) (3,(s.2.2.1,(r.2.2.2.2.1,(0,(0,P0)))))
 else if r.1=6 then bX s (gM s.2.2.2.1 (fD s.1) r.2.2.1 r.2.2.2.2.1 (ct s.2.2.2.2.1)) (4,(s.2.2.1,(r.2.2.1,(r.2.2.2.2.1,(0,P0)))))
 else if r.1=7 then bX s (ic s.2.2.2.1 (fD s.1) r.2.2.2.2.1 (ct s.2.2.2.2.1)) (5,(s.2.2.1,(r.2.2.2.2.1,(0,(0,P0)))))
 else pW s r.2.2.2.2.2
section
variable {α:Type}{k:α→Int×Int}
theorem tg {l:List α}(hs:JB k l){x y:α}(hx:x∈l)(hy:y∈l)(h:k x=k y):x=y:=by
 obtain⟨i,hi,rfl⟩:=List.mem_iff_getElem.1 hx
 obtain⟨j,hj,rfl⟩:=List.mem_iff_getElem.1 hy
 rcases Nat.lt_trichotomy i j with hij|hij|hij
 ·have:=List.pairwise_iff_getElem.1 hs i j hi hj hij
  rw[h] at this
  exact (eG this).elim
 ·subst hij;rfl
 ·have:=List.pairwise_iff_getElem.1 hs j i hj hi hij
  rw[h] at this
  exact (eG this).elim
theorem FV {l:List α}{b:Int×Int}:u5 k l b=true↔∃ x∈l,k x=b:=by
 unfold u5
 rw[List.any_eq_true]
 simp
theorem u6 {l:List α}{b:Int×Int}(h:∀ x∈l,k x≠b):u5 k l b=false:=by
 cases hb:u5 k l b with
 | false=>rfl
 | true=>obtain⟨x,hx,he⟩:=FV.1 hb;exact absurd he (h x hx)
end
theorem T0 (a b:Int)(x:LT):iw a b x=decide (kL x=(a,b)):=by simp[iw,kL,Prod.ext_iff]
theorem vC {L:List LT}(hs:L.Pairwise xQ)(a b:Int):iL L a b=L.filter fun y=>!decide (kL y=(a,b)):=by
 unfold iL
 induction L with
 | nil=>rfl
 | cons x L ih=>
  obtain⟨h1,h2⟩:=List.pairwise_cons.1 hs
  rw[List.findIdx_cons]
  by_cases hx:kL x=(a,b)
  ·have e:iw a b x=true:=by rw[T0];exact decide_eq_true hx
   rw[e,List.filter_cons_of_neg (by rw[decide_eq_true hx];simp)]
   simp only[cond_true,List.eraseIdx_cons_zero]
   symm
   rw[List.filter_eq_self]
   intro y hy
   have:=h1 y hy
   have hne:kL y≠(a,b):=by
    intro e
    have h3:uH (kL x) (kL y):=this
    rw[hx,e] at h3
    exact eG h3
   rw[decide_eq_false hne];rfl
  ·have e:iw a b x=false:=by rw[T0];exact decide_eq_false hx
   rw[e,List.filter_cons_of_pos (by rw[decide_eq_false hx];rfl)]
   simp only[cond_false,List.eraseIdx_cons_succ]
   rw[ih h2]
theorem pQ {H:List HT}{x y:HT}:y∈fc H x↔y=x∨(y∈H∧kH y≠kH x):=by
 unfold fc
 rw[kD,List.mem_filter]
 simp
theorem pV {H:List HT}{x:HT}(hs:H.Pairwise Az):(fc H x).Pairwise Az:=
 zj (k:=kH) (List.Pairwise.filter _ hs) (u6 fun y hy=>by
  have:=(List.mem_filter.1 hy).2
  simpa using this)
theorem j5 {L:List LT}{a b:Int}(h:cr L a b=true):b8 L a b∈L∧kL (b8 L a b)=(a,b):=by
 have hlt:L.findIdx (iw a b)<L.length:=by
  unfold cr at h
  rw[List.any_eq_true] at h
  exact List.findIdx_lt_length.2 h
 have e:b8 L a b=L[L.findIdx (iw a b)]:=by
  unfold b8
  rw[List.getD_eq_getElem?_getD,List.getElem?_eq_getElem hlt,Option.getD_some]
 rw[e]
 refine⟨List.getElem_mem _,?_⟩
 have:=List.findIdx_getElem (w:=hlt)
 rw[T0] at this
 simpa using this
section
variable {D:DT}{p:PT}{now now':Int}{P P':List HT}{L:List LT}{H:List HT}
theorem fI.dD {x:LT}(h:fI D p now P x)(hP:yZ P x.2.1=true→yZ P' x.2.1=true):fI D p now P' x:=
 ⟨h.sub,h.blk,hP h.Sf,h.pair,h.B4,h.Ca,h.BZ,h.idle⟩
theorem bz.dD (h:bz D p now P L)(hP:∀ x∈L,yZ P x.2.1=true→yZ P' x.2.1=true):bz D p now P' L:=
 ⟨fun x hx=>(h.each x hx).dD (hP x hx),h.nT,h.ji⟩
theorem bz.filter (h:bz D p now P L)(f:LT→Bool):bz D p now P (L.filter f):=
 ⟨fun x hx=>h.each x (List.mem_filter.1 hx).1,fun x hx=>by
  have h1:=h.nT x (List.mem_filter.1 hx).1
  have h2:cnt (L.filter f) x.1≤cnt L x.1:=List.filter_sublist.countP_le
  omega,h.ji.sublist List.filter_sublist⟩
theorem kN {a b:Int}:cr L a b=true↔∃ x∈L,kL x=(a,b):=by rw[lS];exact FV
theorem kw {a b:Int}(f:LT→Bool)(h:cr L a b=false):cr (L.filter f) a b=false:=by
 cases hb:cr (L.filter f) a b with
 | false=>rfl
 | true=>
  obtain⟨x,hx,he⟩:=kN.1 hb
  rw[kN.2 ⟨x,(List.mem_filter.1 hx).1,he⟩] at h
  cases h
end
structure wu (s:ST)(l:List LT)(t:ST):Prop where
 d:t.1=s.1
 ud:t.2.1=s.2.1
 now:t.2.2.1=s.2.2.1
 dD:t.2.2.2.1=s.2.2.2.1
 aX:t.2.2.2.2.1=s.2.2.2.2.1.filter fun y=>!l.any fun x=>decide (kL x=kL y)
 ji:t.2.2.2.2.2.Pairwise Az
 cU:∀ h,h∈t.2.2.2.2.2↔h∈s.2.2.2.2.2∨(0<s.2.1.2.2.1∧∃ x∈l,h=(x.2.1,(x.2.2.1,x.2.2.2.2+s.2.1.2.1+s.2.1.2.2.1)))
theorem Mc {s t:ST}(M:aM s){l:List LT}{x:LT}(F:wu s l t)(hx:x∈s.2.2.2.2.1)(hl:∀ y∈l,kL y≠kL x):wu s (l++[x]) (iR t x (x.2.2.2.2+s.2.1.2.1)):=by
 have hsL:t.2.2.2.2.1.Pairwise xQ:=by rw[F.aX];exact M.aX.ji.sublist List.filter_sublist
 have hno:∀ h∈t.2.2.2.2.2,kH h≠(x.2.1,x.2.2.1):=by
  intro h hh e
  rcases (F.cU h).1 hh with h1|⟨_,y,hy,rfl⟩
  ·have:=(M.cU.each h h1).free
   have e2:h.1=x.2.1∧h.2.1=x.2.2.1:=by simpa [kH] using e
   rw[kN.2 ⟨x,hx,by simp[kL,e2.1,e2.2]⟩] at this
   cases this
  ·exact hl y hy e
 refine⟨F.d,F.ud,F.now,F.dD,?_,?_,fun h=>?_⟩
 ·show iL t.2.2.2.2.1 x.2.1 x.2.2.1=_
  rw[vC hsL,F.aX,List.filter_filter]
  refine List.filter_congr fun y _=>?_
  rw[List.any_append]
  simp only[List.any_cons,List.any_nil,Bool.or_false,Bool.not_or]
  rw[Bool.and_comm]
  congr 2
  exact decide_eq_decide.2 ⟨fun h=>h.symm,fun h=>h.symm⟩
 ·show (if 0<t.2.1.2.2.1 then _ else _:List HT).Pairwise Az
  split
  ·exact pV F.ji
  ·exact F.ji
 ·show h∈(if 0<t.2.1.2.2.1 then fc t.2.2.2.2.2 (x.2.1,(x.2.2.1,x.2.2.2.2+s.2.1.2.1+t.2.1.2.2.1)) else t.2.2.2.2.2:List HT)↔_
  rw[F.ud]
  split
  ·rename_i hp
   rw[pQ]
   constructor
   ·rintro (rfl|⟨h1,_⟩)
    ·exact .inr ⟨hp,x,by simp,rfl⟩
    ·rcases (F.cU h).1 h1 with h2|⟨_,y,hy,he⟩
     ·exact .inl h2
     ·exact .inr ⟨hp,y,by simp[hy],he⟩
   ·intro h1
    have:h∈t.2.2.2.2.2∨h=(x.2.1,(x.2.2.1,x.2.2.2.2+s.2.1.2.1+s.2.1.2.2.1)):=by
     rcases h1 with h1|⟨_,y,hy,he⟩
     ·exact .inl ((F.cU h).2 (.inl h1))
     ·rcases List.mem_append.1 hy with hy|hy
      ·exact .inl ((F.cU h).2 (.inr ⟨hp,y,hy,he⟩))
      ·rw[List.mem_singleton] at hy;subst hy;exact .inr he
    rcases this with h2|h2
    ·exact .inr ⟨h2,hno h h2⟩
    ·exact .inl h2
  ·rename_i hp
   rw[F.cU]
   constructor
   ·rintro (h1|⟨h1,_⟩)
    ·exact .inl h1
    ·exact absurd h1 hp
   ·rintro (h1|⟨h1,_⟩)
    ·exact .inl h1
    ·exact absurd h1 hp
theorem pJ {s:ST}(M:aM s):∀ (l2 l1:List LT) (t:ST),wu s l1 t→(∀ x∈l2,x∈s.2.2.2.2.1)→(l1++l2).Pairwise (fun x y=>kL x≠kL y) →
  wu s (l1++l2) (l2.foldl (fun t x=>iR t x (x.2.2.2.2+s.2.1.2.1)) t)
 | [],l1,t,F,_,_=>by simpa using F
 | x::l2,l1,t,F,h,hp=>by
  rw[List.foldl_cons]
  have e:l1++x::l2=(l1++[x])++l2:=by simp
  rw[e] at hp ⊢
  have hp1:=(List.pairwise_append.1 hp).1
  have hp2:=List.pairwise_append.1 hp1
  exact pJ M l2 (l1++[x]) _ (Mc M F (h x (by simp)) (fun y hy=>hp2.2.2 y hy x (by simp))) (fun y hy=>h y (by simp[hy])) hp
theorem uF {s:ST}(M:aM s):wu s [] s:=
 ⟨rfl,rfl,rfl,rfl,by symm;rw[List.filter_eq_self];intro x _;rfl,M.cU.ji,fun h=>⟨.inl,fun k=>k.elim id fun⟨_,x,hx,_⟩=>by simp at hx⟩⟩
theorem VF {L:List LT}(hs:L.Pairwise xQ):L.Pairwise fun x y=>kL x≠kL y:=
 hs.imp fun {x y} h e=>by
  have h:uH (kL x) (kL y):=h
  rw[e] at h
  exact eG h
theorem de {s:ST}{n:Int}{x:LT}:x∈aQ s n↔x∈s.2.2.2.2.1∧x.2.2.2.2+s.2.1.2.1≤n:=by
 unfold aQ
 rw[List.mem_mergeSort,List.mem_filter]
 exact⟨fun h=>⟨h.1,of_decide_eq_true h.2⟩,fun h=>⟨h.1,decide_eq_true h.2⟩⟩
theorem kI {s:ST}(M:aM s)(n:Int):(aQ s n).Pairwise fun x y=>kL x≠kL y:=
 (List.mergeSort_perm _ _).symm.pairwise ((VF M.aX.ji).sublist List.filter_sublist) fun {x y} h e=>h e.symm
theorem uL {s:ST}(M:aM s)(n:Int):wu s (aQ s n) (cK s (aQ s n)):=by
 have:=pJ M (aQ s n) [] s (uF M) (fun x hx=>(de.1 hx).1) (by rw[List.nil_append];exact kI M n)
 rw[List.nil_append] at this
 exact this
theorem Jt {s:ST}(M:aM s)(n:Int):(cK s (aQ s n)).2.2.2.2.1=s.2.2.2.2.1.filter fun y=>!decide (y.2.2.2.2+s.2.1.2.1≤n):=by
 rw[(uL M n).aX]
 refine List.filter_congr fun y hy=>?_
 congr 1
 rw[Bool.eq_iff_iff,List.any_eq_true,decide_eq_true_eq]
 constructor
 ·rintro ⟨x,hx,he⟩
  have hx:=de.1 hx
  rw[← tg (k:=kL) M.aX.ji hx.1 hy (by simpa using he)]
  exact hx.2
 ·intro h
  exact⟨y,de.2 ⟨hy,h⟩,by simp⟩
theorem Gu {s:ST}(M:aM s){n:Int}(h1:s.2.2.1≤n)(h2:n≤1073741824):aM (Ep (cK s (aQ s n)) n):=by
 have F:=uL M n
 have eL:=Jt M n
 generalize ht:cK s (aQ s n)=t at F eL
 obtain⟨tD,tP,tN,tPl,tL,tH⟩:=t
 obtain⟨d,ud,now,dD,_,ji,cU⟩:=F
 simp only at d ud now dD eL ji cU
 subst d ud now dD eL
 refine⟨M.fit,M.ud,by have:=M.jX;show 0≤n;omega,h2,M.dD,⟨fun x hx=>?_,(M.aX.filter _).nT,(M.aX.filter _).ji⟩,?_,⟨fun h hh=>?_,ji.sublist List.filter_sublist⟩⟩
 ·have hm:=List.mem_filter.1 hx
  have hk:=M.aX.each x hm.1
  have hd:¬ x.2.2.2.2+s.2.1.2.1≤n:=by simpa using hm.2
  exact⟨hk.sub,hk.blk,hk.Sf,hk.pair,hk.B4,hk.Ca,by have:=hk.BZ;show x.2.2.2.2≤n;omega,by show n-s.2.1.2.1<x.2.2.2.2;omega⟩
 ·have:=M.len
  have h3:(s.2.2.2.2.1.filter fun y=>!decide (y.2.2.2.2+s.2.1.2.1≤n)).length≤s.2.2.2.2.1.length:=List.length_filter_le _ _
  show (s.2.2.2.2.1.filter fun y=>!decide (y.2.2.2.2+s.2.1.2.1≤n)).length≤32
  omega
 ·have hm:=List.mem_filter.1 hh
  have ht:¬ h.2.2≤n:=by simpa using hm.2
  rcases (cU h).1 hm.1 with h3|⟨hp,x,hx,rfl⟩
  ·have hk:=M.cU.each h h3
   exact⟨hk.blk,by show n+1≤_;omega,by have:=hk.BD;show _≤n+1048576;omega,kw _ hk.free⟩
  ·have hx:=de.1 hx
   have hk:=M.aX.each x hx.1
   have ht2:¬ x.2.2.2.2+s.2.1.2.1+s.2.1.2.2.1≤n:=ht
   refine⟨hk.blk,by show n+1≤x.2.2.2.2+s.2.1.2.1+s.2.1.2.2.1;omega,by have:=M.ud.2.2;show x.2.2.2.2+s.2.1.2.1+s.2.1.2.2.1≤n+1048576;omega,?_⟩
   cases hb:cr (s.2.2.2.2.1.filter fun y=>!decide (y.2.2.2.2+s.2.1.2.1≤n)) x.2.1 x.2.2.1 with
   | false=>rfl
   | true=>
    obtain⟨y,hy,he⟩:=kN.1 hb
    have hy:=List.mem_filter.1 hy
    have:y=x:=tg (k:=kL) M.aX.ji hy.1 hx.1 he
    subst this
    have:=hy.2
    simp[hx.2] at this
theorem yR {s:ST}(M:aM s){x:LT}(hx:x∈s.2.2.2.2.1):aM (iR s x s.2.2.1):=by
 have hk:=M.aX.each x hx
 have eD:iL s.2.2.2.2.1 x.2.1 x.2.2.1=s.2.2.2.2.1.filter fun y=>!decide (kL y=(x.2.1,x.2.2.1)):=vC M.aX.ji _ _
 have fr:cr (iL s.2.2.2.2.1 x.2.1 x.2.2.1) x.2.1 x.2.2.1=false:=by
  rw[eD,lS]
  refine u6 fun y hy=>?_
  have:=(List.mem_filter.1 hy).2
  simpa using this
 refine⟨M.fit,M.ud,M.jX,M.nV,M.dD,?_,?_,?_⟩
 ·show bz s.1 s.2.1 s.2.2.1 s.2.2.2.1 (iL s.2.2.2.2.1 x.2.1 x.2.2.1)
  rw[eD];exact M.aX.filter _
 ·show (iL s.2.2.2.2.1 x.2.1 x.2.2.1).length≤32
  rw[eD]
  have:=M.len
  have:=List.length_filter_le (fun y=>!decide (kL y=(x.2.1,x.2.2.1))) s.2.2.2.2.1
  omega
 ·show cO s.1 s.2.2.1 (iL s.2.2.2.2.1 x.2.1 x.2.2.1) (if 0<s.2.1.2.2.1 then fc s.2.2.2.2.2 (x.2.1,(x.2.2.1,s.2.2.1+s.2.1.2.2.1)) else s.2.2.2.2.2)
  have old:∀ h∈s.2.2.2.2.2,ug s.1 s.2.2.1 (iL s.2.2.2.2.1 x.2.1 x.2.2.1) h:=fun h hh=>by
   have hk:=M.cU.each h hh
   exact⟨hk.blk,hk.Nz,hk.BD,by rw[eD];exact kw _ hk.free⟩
  split
  ·rename_i hp
   refine⟨fun h hh=>?_,pV M.cU.ji⟩
   rcases pQ.1 hh with rfl|⟨h1,_⟩
   ·exact⟨hk.blk,by show s.2.2.1+1≤s.2.2.1+s.2.1.2.2.1;omega,by have:=M.ud.2.2;show s.2.2.1+s.2.1.2.2.1≤s.2.2.1+1048576;omega,fr⟩
   ·exact old h h1
  ·exact⟨old,M.cU.ji⟩
theorem Bq (x:LT)(n:Int):kL (fP x n)=kL x:=rfl
theorem mem_set {α:Type}{l:List α}{i:Nat}{x y:α}(h:y∈l.set i x):y=x∨∃ j,∃ (hj:j<l.length),j≠i∧y=l[j]:=by
 obtain⟨j,hj,rfl⟩:=List.mem_iff_getElem.1 h
 rw[List.getElem_set]
 by_cases e:i=j
 ·rw[if_pos e];exact .inl rfl
 ·rw[if_neg e];exact .inr ⟨j,by simpa using hj,fun h=>e h.symm,rfl⟩
theorem IW {s:ST}(M:aM s){a b:Int}(h:cr s.2.2.2.2.1 a b=true) :
  aM (Fa s (s.2.2.2.2.1.set (s.2.2.2.2.1.findIdx (iw a b)) (fP (b8 s.2.2.2.2.1 a b) s.2.2.1))):=by
 obtain⟨hm,hkey⟩:=j5 h
 have hlt:s.2.2.2.2.1.findIdx (iw a b)<s.2.2.2.2.1.length:=by
  unfold cr at h
  rw[List.any_eq_true] at h
  exact List.findIdx_lt_length.2 h
 have hx:=M.aX.each _ hm
 have ei:s.2.2.2.2.1[s.2.2.2.2.1.findIdx (iw a b)]=b8 s.2.2.2.2.1 a b:=by
  unfold b8
  rw[List.getD_eq_getElem?_getD,List.getElem?_eq_getElem hlt,Option.getD_some]
 have hmap:∀ {β:Type} (f:LT→β),(∀ x n,f (fP x n)=f x)→(s.2.2.2.2.1.set (s.2.2.2.2.1.findIdx (iw a b)) (fP (b8 s.2.2.2.2.1 a b) s.2.2.1)).map f=s.2.2.2.2.1.map f:=by
  intro β f hf
  rw[List.map_set,hf,← ei]
  apply List.ext_getElem (by simp)
  intro j h1 h2
  rw[List.getElem_set]
  split
  ·rename_i e;subst e;rw[List.getElem_map]
  ·rfl
 have hcnt:∀ q,cnt (s.2.2.2.2.1.set (s.2.2.2.2.1.findIdx (iw a b)) (fP (b8 s.2.2.2.2.1 a b) s.2.2.1)) q=cnt s.2.2.2.2.1 q:=by
  intro q
  have:=congrArg (List.countP fun z:Int=>decide (z=q)) (hmap (fun x:LT=>x.1) (fun _ _=>rfl))
  rw[List.countP_map,List.countP_map] at this
  exact this
 have hsrt:(s.2.2.2.2.1.set (s.2.2.2.2.1.findIdx (iw a b)) (fP (b8 s.2.2.2.2.1 a b) s.2.2.1)).Pairwise xQ:=by
  have e:=hmap kL Bq
  have:(s.2.2.2.2.1.map kL).Pairwise uH:=List.pairwise_map.2 M.aX.ji
  rw[← e] at this
  exact (List.pairwise_map (f:=kL) (R:=uH)).1 this
 have hhas:∀ c d,cr (s.2.2.2.2.1.set (s.2.2.2.2.1.findIdx (iw a b)) (fP (b8 s.2.2.2.2.1 a b) s.2.2.1)) c d=cr s.2.2.2.2.1 c d:=by
  intro c d
  have:=congrArg (List.any · fun z:Int×Int=>decide (z=(c,d))) (hmap kL Bq)
  simp only[List.any_map] at this
  rw[lS,lS]
  exact this
 refine⟨M.fit,M.ud,M.jX,M.nV,M.dD,⟨fun x hx'=>?_,fun x hx'=>?_,hsrt⟩,by show (List.set _ _ _).length≤32;rw[List.length_set];exact M.len,⟨fun h hh=>?_,M.cU.ji⟩⟩
 ·rcases mem_set hx' with rfl|⟨j,hj,_,rfl⟩
  ·exact⟨hx.sub,hx.blk,hx.Sf,hx.pair,hx.B4,by have:=hx.Ca;have:=hx.BZ;show (b8 s.2.2.2.2.1 a b).2.2.2.1≤s.2.2.1;omega,Int.le_refl _,by have:=M.ud.2.1;show s.2.2.1-s.2.1.2.1<s.2.2.1;omega⟩
  ·exact M.aX.each _ (List.getElem_mem _)
 ·rw[hcnt]
  rcases mem_set hx' with rfl|⟨j,hj,_,rfl⟩
  ·show ((cnt s.2.2.2.2.1 (b8 s.2.2.2.2.1 a b).1:Nat):Int)≤s.2.1.1
   exact M.aX.nT _ hm
  ·exact M.aX.nT _ (List.getElem_mem _)
 ·have hk:=M.cU.each h hh
  exact⟨hk.blk,hk.Nz,hk.BD,by rw[hhas];exact hk.free⟩
theorem NX {s:ST}(M:aM s){x:LT}(hb:pz s.1 x.2.1 x.2.2.1)(hf:cr s.2.2.2.2.1 x.2.1 x.2.2.1=false):s.2.2.2.2.1.length<32:=by
 have hs:JB kL (fH kL s.2.2.2.2.1 x):=zj M.aX.ji (by rw[lS] at hf;exact hf)
 have hbd:∀ y∈fH kL s.2.2.2.2.1 x,(0≤y.2.1∧y.2.1<4)∧0≤y.2.2.1∧y.2.2.1<8:=fun y hy=>by
  have hB:pz s.1 y.2.1 y.2.2.1:=by
   rcases kD.1 hy with rfl|hy
   ·exact hb
   ·exact (M.aX.each y hy).blk
  have:=M.fit.y2
  have:=M.fit.blk
  have h1:=hB.2.1
  have h2:=hB.2.2
  omega
 have:=CH ((fH kL s.2.2.2.2.1 x).map fun x=>8 * x.2.1+x.2.2.1) 0 32 (by
  rw[List.pairwise_map]
  refine (List.pairwise_iff_forall_sublist.2 fun {y z} hyz=>?_)
  have hlt:uH (kL y) (kL z):=List.pairwise_iff_forall_sublist.1 hs hyz
  have hy:=hbd y (hyz.subset (by simp))
  have hz:=hbd z (hyz.subset (by simp))
  unfold uH wg kL at hlt
  simp only at hlt
  omega) (fun z hz=>by
  obtain⟨y,hy,rfl⟩:=List.mem_map.1 hz
  have:=hbd y hy
  omega)
 rw[List.length_map,mR] at this
 omega
theorem WU (L:List LT)(x:LT)(q:Int):cnt (fH kL L x) q=cnt L q+if x.1=q then 1 else 0:=by
 unfold cnt
 rw[(BW (k:=kL) L x).countP_eq,List.countP_cons]
 by_cases h:x.1=q<;>simp[h]
theorem VE {s:ST}(M:aM s){x:LT}(hx:fI s.1 s.2.1 s.2.2.1 s.2.2.2.1 x)(hq:((cnt s.2.2.2.2.1 x.1:Nat):Int)<s.2.1.1)(hf:cr s.2.2.2.2.1 x.2.1 x.2.2.1=false)(hh:∀ h∈s.2.2.2.2.2,kH h≠(x.2.1,x.2.2.1)) :
  kr s.2.2.2.2.1 x=(fH kL s.2.2.2.2.1 x,true)∧aM (Fa s (kr s.2.2.2.2.1 x).1):=by
 have hlen:=NX M hx.blk hf
 have e:kr s.2.2.2.2.1 x=(fH kL s.2.2.2.2.1 x,true):=by
  unfold kr
  rw[if_neg (by rintro (h|h);rw[hf] at h;cases h;omega)]
 refine⟨e,?_⟩
 rw[e]
 refine⟨M.fit,M.ud,M.jX,M.nV,M.dD,⟨fun y hy=>?_,fun y hy=>?_,zj M.aX.ji (by rw[lS] at hf;exact hf)⟩,by show (fH kL _ _).length≤32;rw[mR];omega,⟨fun h hm=>?_,M.cU.ji⟩⟩
 ·rcases kD.1 hy with rfl|hy
  ·exact hx
  ·exact M.aX.each y hy
 ·rw[WU]
  by_cases he:x.1=y.1
  ·rw[if_pos he,← he];show ((cnt s.2.2.2.2.1 x.1+1:Nat):Int)≤s.2.1.1;omega
  ·rw[if_neg he]
   rcases kD.1 hy with rfl|hy
   ·exact absurd rfl he
   ·have:=M.aX.nT y hy;omega
 ·have hk:=M.cU.each h hm
  refine⟨hk.blk,hk.Nz,hk.BD,?_⟩
  show cr (fH kL s.2.2.2.2.1 x) h.1 h.2.1=false
  rw[lS,O6,← lS,hk.free]
  have:kL x≠(h.1,h.2.1):=fun e=>hh h hm (by simpa [kH,kL,Prod.ext_iff,eq_comm] using e)
  rw[decide_eq_false this];rfl
theorem ME {P:List HT}{out but:Int}{p:HT}(h:jC P out but p=0) :
  ix p out∧(∀ (j:Nat) (hj:j<P.length),(j:Int)≠but→dY p P[j]=false)∧(but = -1→P.length≠3):=by
 unfold jC at h
 split at h
 ·cases h
 ·rename_i h1
  split at h
  ·cases h
  ·rename_i h2
   split at h
   ·cases h
   ·rename_i h3
    refine⟨Classical.not_not.1 h1,fun j hj hne=>?_,fun hb hl=>h3 ⟨hb,hl⟩⟩
    cases hm:dY p P[j] with
    | false=>rfl
    | true=>
     exfalso
     refine h2 ?_
     rw[List.any_eq_true]
     refine⟨j,List.mem_range.2 hj,?_⟩
     have e:P.getD j (0,(0,0))=P[j]:=by rw[List.getD_eq_getElem?_getD,List.getElem?_eq_getElem hj,Option.getD_some]
     rw[e,hm,decide_eq_false hne];rfl
theorem meet_comm (p q:HT):dY p q=dY q p:=by unfold dY;rw[Bool.and_comm]
theorem Bz {P:List HT}{out a n:Int}(h:(qm P out a n).2=0):bp P out∧(qm P out a n).1=P++[(a,(n,0))]∧bp (qm P out a n).1 out:=by
 unfold qm at h ⊢
 by_cases hP:bp P out
 ·rw[if_neg (not_not_intro hP)] at h ⊢
  by_cases hr:jC P out (-1) (a,(n,0))≠0
  ·rw[if_pos hr] at h
   exact absurd h hr
  ·rw[if_neg hr]
   obtain⟨h1,h2,h3⟩:=ME (Classical.not_not.1 hr)
   refine⟨hP,rfl,hP.Rt,hP.QC,?_,fun p hp=>?_,?_⟩
   ·have:=hP.len
    have:=h3 rfl
    simp only[List.length_append,List.length_cons,List.length_nil];omega
   ·rcases List.mem_append.1 hp with hp|hp
    ·exact hP.fits p hp
    ·rw[List.mem_singleton] at hp;subst hp;exact h1
   ·rw[List.pairwise_append]
    refine⟨hP.apart,by simp,fun p hp q hq=>?_⟩
    rw[List.mem_singleton] at hq;subst hq
    obtain⟨j,hj,rfl⟩:=List.mem_iff_getElem.1 hp
    exact h2 j hj (by omega)
 ·rw[if_pos hP] at h;cases h
theorem yJ {P:List HT}{k:Int}(h:¬ (k<0∨(P.length:Int)≤k)):k.toNat<P.length∧∀ (hk:k.toNat<P.length),ck P k=P[k.toNat]:=by
 refine⟨by omega,fun hk=>?_⟩
 unfold ck
 rw[List.getD_eq_getElem?_getD,List.getElem?_eq_getElem hk,Option.getD_some]
theorem BE {P:List HT}{out:Int}(hP:bp P out){i:Nat}(hi:i<P.length){q:HT}(hq:ix q out)(hm:∀ (j:Nat) (hj:j<P.length),j≠i→dY q P[j]=false):bp (P.set i q) out:=by
 refine⟨hP.Rt,hP.QC,by rw[List.length_set];exact hP.len,fun p hp=>?_,?_⟩
 ·rcases mem_set hp with rfl|⟨j,hj,_,rfl⟩
  ·exact hq
  ·exact hP.fits _ (List.getElem_mem _)
 ·rw[List.pairwise_iff_getElem]
  intro x y hx hy hxy
  rw[List.getElem_set,List.getElem_set]
  rw[List.length_set] at hx hy
  by_cases e1:i=x
  ·rw[if_pos e1,if_neg (by omega),meet_comm]
   exact hm y hy (by omega)
  ·rw[if_neg e1]
   by_cases e2:i=y
   ·rw[if_pos e2];exact hm x hx (by omega)
   ·rw[if_neg e2]
    exact List.pairwise_iff_getElem.1 hP.apart x y hx hy hxy
theorem UW {P:List HT}{i:Nat}(hi:i<P.length){q:HT}{a:Int}(h:yZ P a=true)(hq:hasB P[i] a=true→hasB q a=true):yZ (P.set i q) a=true:=by
 unfold yZ at h ⊢
 rw[List.any_eq_true] at h ⊢
 obtain⟨p,hp,ha⟩:=h
 obtain⟨j,hj,rfl⟩:=List.mem_iff_getElem.1 hp
 by_cases e:i=j
 ·subst e
  exact⟨q,List.mem_iff_getElem.2 ⟨i,by rw[List.length_set];exact hi,by rw[List.getElem_set,if_pos rfl]⟩,hq ha⟩
 ·exact⟨P[j],List.mem_iff_getElem.2 ⟨j,by rw[List.length_set];exact hj,by rw[List.getElem_set,if_neg e]⟩,ha⟩
theorem wT {P:List HT}{out k:Int}(h:(dZ P out k).2=0):bp P out∧bp (dZ P out k).1 out∧∀ a,yZ P a=true→yZ (dZ P out k).1 a=true:=by
 unfold dZ at h ⊢
 by_cases hP:bp P out
 ·rw[if_neg (not_not_intro hP)] at h ⊢
  by_cases hk:k<0∨(P.length:Int)≤k
  ·rw[if_pos hk] at h;cases h
  ·rw[if_neg hk] at h ⊢
   obtain⟨hi,hn⟩:=yJ hk
   have hn:=hn hi
   split at h
   ·cases h
   ·rename_i hd
    rw[if_neg hd,hn]
    have hf:=hP.fits _ (List.getElem_mem hi)
    have hm:∀ (j:Nat) (hj:j<P.length),j≠k.toNat→dY (P[k.toNat].1,(P[k.toNat].2.1,1)) P[j]=false:=by
     intro j hj hne
     show dY P[k.toNat] P[j]=false
     rcases Nat.lt_or_ge j k.toNat with h1|h1
     ·exact List.pairwise_iff_getElem.1 hP.apart j k.toNat hj hi h1
     ·rw[meet_comm];exact List.pairwise_iff_getElem.1 hP.apart k.toNat j hi hj (by omega)
    refine⟨hP,BE hP hi ⟨hf.1,hf.2.1,hf.2.2.1,hf.2.2.2.1,by show (0:Int)≤1;decide,by show (1:Int)<2;decide⟩ hm,fun a ha=>UW hi ha fun hq=>hq⟩
 ·rw[if_pos hP] at h;cases h
theorem BN {busy:List Int}{p q:HT}(h:¬ ym busy p q=true){a:Int}(ha:a∈busy)(hp:hasB p a=true):hasB q a=true:=by
 cases hq:hasB q a with
 | true=>rfl
 | false=>
  exfalso
  refine h ?_
  unfold ym
  rw[List.any_eq_true]
  exact⟨a,ha,by rw[hp,hq];rfl⟩
theorem yc {P:List HT}{out k n:Int}{busy:List Int}(h:(gM P out k n busy).2=0):bp P out∧bp (gM P out k n busy).1 out∧∀ a∈busy,yZ P a=true→yZ (gM P out k n busy).1 a=true:=by
 unfold gM at h ⊢
 by_cases hP:bp P out
 ·rw[if_neg (not_not_intro hP)] at h ⊢
  by_cases hk:k<0∨(P.length:Int)≤k
  ·rw[if_pos hk] at h;cases h
  ·rw[if_neg hk] at h ⊢
   obtain⟨hi,hn⟩:=yJ hk
   have hn:=hn hi
   rw[hn] at h ⊢
   by_cases hr:jC P out k (P[k.toNat].1,(n,P[k.toNat].2.2))≠0
   ·rw[if_pos hr] at h;exact absurd h hr
   ·rw[if_neg hr] at h ⊢
    by_cases hl:ym busy P[k.toNat] (P[k.toNat].1,(n,P[k.toNat].2.2))=true
    ·rw[if_pos hl] at h;cases h
    ·rw[if_neg hl]
     obtain⟨h1,h2,_⟩:=ME (Classical.not_not.1 hr)
     exact⟨hP,BE hP hi h1 (fun j hj hne=>h2 j hj (by omega)),fun a ha hin=>UW hi hin fun hq=>BN hl ha hq⟩
 ·rw[if_pos hP] at h;cases h
theorem yX {P:List HT}{out k:Int}{busy:List Int}(h:(ic P out k busy).2=0):bp P out∧bp (ic P out k busy).1 out∧∀ a∈busy,yZ P a=true→yZ (ic P out k busy).1 a=true:=by
 unfold ic at h ⊢
 by_cases hP:bp P out
 ·rw[if_neg (not_not_intro hP)] at h ⊢
  by_cases hk:k<0∨(P.length:Int)≤k
  ·rw[if_pos hk] at h;cases h
  ·rw[if_neg hk] at h ⊢
   obtain⟨hi,hn⟩:=yJ hk
   have hn:=hn hi
   rw[hn] at h ⊢
   split at h
   ·cases h
   ·rename_i hl
    rw[if_neg hl]
    refine⟨hP,⟨hP.Rt,hP.QC,?_,fun p hp=>hP.fits p ((List.eraseIdx_sublist _ _).subset hp),hP.apart.sublist (List.eraseIdx_sublist _ _)⟩,fun a ha hin=>?_⟩
    ·have:=hP.len
     have:=(List.eraseIdx_sublist P k.toNat).length_le
     show (P.eraseIdx k.toNat).length≤3
     omega
    ·unfold yZ at hin ⊢
     rw[List.any_eq_true] at hin ⊢
     obtain⟨p,hp,hpa⟩:=hin
     obtain⟨j,hj,rfl⟩:=List.mem_iff_getElem.1 hp
     by_cases e:j=k.toNat
     ·subst e
      have:=BN (fun h=>hl (.inr h)) ha hpa
      simp[hasB] at this
     ·refine⟨P[j],?_,hpa⟩
      rw[List.mem_eraseIdx_iff_getElem]
      exact⟨j,hj,e,rfl⟩
 ·rw[if_pos hP] at h;cases h
theorem Hy {L:List LT}{x:LT}(hx:x∈L):x.2.1∈ct L:=((Xf L).2 _).2 ⟨x,hx,rfl⟩
theorem pU {s:ST}(M:aM s){r:List HT×Int}{e:ET}(h:r.2=0)(h1:bp r.1 (fD s.1))(h2:∀ x∈s.2.2.2.2.1,yZ s.2.2.2.1 x.2.1=true→yZ r.1 x.2.1=true):aM (ia s r.1):=
 ⟨M.fit,M.ud,M.jX,M.nV,h1,M.aX.dD h2,M.len,M.cU⟩
theorem lM (f:Int→Int):∀ (n:Nat) (a:Int),a≤bl f n a∧bl f n a≤a+n
 | 0,a=>by simp[bl]
 | n+1,a=>by
  unfold bl
  split
  ·have:=lM f n (a+1);omega
  ·omega
theorem mw (f:Int→Int):∀ (n:Nat) (a:Int),bl f n a<a+n→f (bl f n a) ≠ -1
 | 0,a,h=>by simp[bl] at h
 | n+1,a,h=>by
  unfold bl at h ⊢
  split
  ·rename_i hf
   rw[if_pos hf] at h
   exact mw f n (a+1) (by omega)
  ·rename_i hf;exact hf
theorem TM {n U:Nat}(hU:U<2 ^ n)(i:Int):iQ n U i<2 ^ n:=by
 unfold iQ
 split
 ·rename_i h
  exact Nat.xor_lt_two_pow hU (Nat.pow_lt_pow_right (by decide) (by omega))
 ·exact hU
theorem ZU (n:Nat):Int.toNat ((n:Nat):Int)=n:=rfl
theorem QG {n U:Nat}(i:Int){j:Nat}(hj:j<n):(iQ n U i).testBit j=(U.testBit j||decide (i=(j:Int))):=by
 unfold iQ
 by_cases h:i=(j:Int)
 ·subst h
  simp only[decide_true,Bool.or_true]
  split
  ·rename_i h
   rw[ZU,Nat.testBit_xor,Nat.testBit_two_pow_self]
   rw[ZU] at h
   rw[h.2.2];rfl
  ·rename_i h
   rw[ZU] at h
   cases hb:U.testBit j with
   | true=>rfl
   | false=>exact absurd ⟨by omega,by omega,hb⟩ h
 ·rw[decide_eq_false h,Bool.or_false]
  split
  ·rename_i hh
   rw[Nat.testBit_xor,Nat.testBit_two_pow,decide_eq_false (by omega),Bool.xor_false]
  ·rfl
theorem rZ {n:Nat}(at':Int):∀ (l:List (Int×Int)) {U:Nat},U<2 ^ n→mH n at' U l<2 ^ n
 | [],U,h=>h
 | b::l,U,h=>by
  show mH n at' (if b.1=at' then iQ n U b.2 else U) l<2 ^ n
  refine rZ at' l ?_
  split
  ·exact TM h _
  ·exact h
theorem Ih {n:Nat}(at':Int){j:Nat}(hj:j<n):∀ (l:List (Int×Int)) (U:Nat),(mH n at' U l).testBit j=(U.testBit j||l.any fun b=>decide (b.1=at')&&decide (b.2=(j:Int)))
 | [],U=>by simp[mH]
 | b::l,U=>by
  show (mH n at' (if b.1=at' then iQ n U b.2 else U) l).testBit j=_
  rw[Ih at' hj l,List.any_cons]
  by_cases h:b.1=at'
  ·rw[if_pos h,QG _ hj,decide_eq_true h,Bool.true_and,Bool.or_assoc]
  ·rw[if_neg h,decide_eq_false h,Bool.false_and,Bool.false_or]
theorem XW {n U:Nat}(hn:n≤8)(hU:U<2 ^ n):U<256:=Nat.lt_of_lt_of_le hU (Nat.pow_le_pow_right (by decide) hn)
theorem yY:∀ n:Fin 9,∀ U:Fin 256,U.val<2 ^ n.val→0<2 ^ n.val-1-U.val→Lib.ctz 64 (2 ^ n.val-1-U.val)<n.val∧U.val.testBit (Lib.ctz 64 (2 ^ n.val-1-U.val))=false:=by decide +kernel
theorem Pp {n U:Nat}(hn:n≤8)(hU:U<2 ^ n):je n U = -1∨∃ j:Nat,je n U=(j:Int)∧j<n∧U.testBit j=false:=by
 unfold je
 split
 ·rename_i h
  have:=yY ⟨n,by omega⟩ ⟨U,XW hn hU⟩ hU h
  exact .inr ⟨_,rfl,this.1,this.2⟩
 ·exact .inl rfl
theorem Di {P:List HT}{a:Int}(h:fN P a=true):yZ P a=true:=by
 unfold fN at h
 simp only[Bool.and_eq_true,decide_eq_true_eq] at h
 cases hb:yZ P a with
 | true=>rfl
 | false=>exact absurd ((oC P a).2 hb) h.1
theorem zV {s:ST}(M:aM s){a:Int}(h:aZ s a ≠ -1)(ha:0≤a)(ha2:a<fD s.1) :
  fN s.2.2.2.1 a=true∧pz s.1 a (aZ s a)∧cr s.2.2.2.2.1 a (aZ s a)=false∧∀ x∈s.2.2.2.2.2,kH x≠(a,aZ s a):=by
 unfold aZ at h ⊢
 by_cases hg:fN s.2.2.2.1 a=true
 ·rw[if_pos hg] at h ⊢
  have hb8:=M.fit.blk
  have hb0:0≤dm s.1:=Int.ediv_nonneg M.fit.g1 (by have:=M.fit.h1;omega)
  have hU:vT s a<2 ^ (dm s.1).toNat:=rZ a _ (Nat.two_pow_pos _)
  rcases Pp (show (dm s.1).toNat≤8 by omega) hU with h1|⟨j,h1,h2,h3⟩
  ·exact absurd h1 h
  ·rw[h1]
   unfold vT at h3
   rw[Ih a h2,Nat.zero_testBit,Bool.false_or,List.any_append] at h3
   have h4:=Bool.or_eq_false_iff.1 h3
   refine⟨hg,⟨M.fit,⟨ha,ha2⟩,by omega,by omega⟩,?_,fun x hx e=>?_⟩
   ·rw[lS]
    refine u6 fun x hx e=>?_
    have h5:=h4.1
    rw[List.any_map,List.any_eq_false] at h5
    refine h5 x hx ?_
    have e1:x.2.1=a:=congrArg Prod.fst e
    have e2:x.2.2.1=(j:Int):=congrArg Prod.snd e
    simp[Function.comp,kL,e1,e2]
   ·have h5:=h4.2
    rw[List.any_map,List.any_eq_false] at h5
    refine h5 x hx ?_
    have e1:x.1=a:=congrArg Prod.fst e
    have e2:x.2.1=(j:Int):=congrArg Prod.snd e
    simp[Function.comp,kH,e1,e2]
 ·rw[if_neg hg] at h;exact absurd rfl h
structure CN (s:ST)(sub a b:Int)(r:QU):Prop where
 a0:0≤a
 a1:a<fD s.1
 who:td s.1 sub
 nT:((cnt s.2.2.2.2.1 sub:Nat):Int)<s.2.1.1
 afa:fN s.2.2.2.1 a=true
 blk:pz s.1 a b
 free:cr s.2.2.2.2.1 a b=false
 held:∀ x∈s.2.2.2.2.2,kH x≠(a,b)
 pair:s.2.1.2.2.2=true→sub / gi s.1=a
 st:r.1=Fa s (fH kL s.2.2.2.2.1 (sub,(a,(b,(s.2.2.1,s.2.2.1)))))
 ev:r.2.1=[(0,(s.2.2.1,(sub,(a,(b,P0)))))]
 ans:r.2.2=(0,(a,b))
 may:aM r.1
theorem zO {s:ST}(M:aM s){sub a to:Int}(ha:0≤a)(hto:to≤fD s.1)(hs:td s.1 sub)(hq:((cnt s.2.2.2.2.1 sub:Nat):Int)<s.2.1.1)
  (hp:s.2.1.2.2.2=true→to≤a+1∧sub / gi s.1=a):iH s sub a to=lN s 7∨∃ x y,CN s sub x y (iH s sub a to):=by
 unfold iH
 by_cases h:to≤bl (aZ s) (to-a).toNat a
 ·rw[if_pos h];exact .inl rfl
 ·rw[if_neg h]
  have h1:=lM (aZ s) (to-a).toNat a
  have h2:=mw (aZ s) (to-a).toNat a (by omega)
  generalize bl (aZ s) (to-a).toNat a=x at h h1 h2 ⊢
  obtain⟨b1,b2,b3,b4⟩:=zV M h2 (by omega) (by omega)
  have hx:fI s.1 s.2.1 s.2.2.1 s.2.2.2.1 (sub,(x,(aZ s x,(s.2.2.1,s.2.2.1)))):=
   ⟨hs,b2,Di b1,fun h'=>by have:=hp h';show sub / gi s.1=x;omega,M.jX,Int.le_refl _,Int.le_refl _,by have:=M.ud.2.1;show s.2.2.1-s.2.1.2.1<s.2.2.1;omega⟩
  obtain⟨e1,e2⟩:=VE M hx hq b3 b4
  exact .inr ⟨x,aZ s x,by omega,by omega,hs,hq,b1,b2,b3,b4,fun h'=>by have:=hp h';omega,by rw[e1],rfl,rfl,e2⟩
theorem JR {s:ST}(M:aM s)(sub:Int):(∃ e,e≠0∧ri s sub=lN s e)∨∃ x y,CN s sub x y (ri s sub):=by
 unfold ri
 by_cases h1:td s.1 sub
 ·rw[if_neg (not_not_intro h1)]
  by_cases h2:((cnt s.2.2.2.2.1 sub:Nat):Int)<s.2.1.1
  ·rw[if_neg (not_not_intro h2)]
   have hb:=M.fit.base h1.2.1 h1.2.2
   by_cases h3:s.2.1.2.2.2=true
   ·rw[if_pos h3]
    by_cases h4:iv s.2.2.2.1 (sub / gi s.1) = -1
    ·rw[if_pos h4];exact .inl ⟨7,by decide,rfl⟩
    ·rw[if_neg h4]
     by_cases h5:fN s.2.2.2.1 (sub / gi s.1)=false
     ·rw[if_pos h5];exact .inl ⟨8,by decide,rfl⟩
     ·rw[if_neg h5]
      rcases zO M (sub:=sub) (a:=sub / gi s.1) (to:=sub / gi s.1+1) hb.1 (by omega) h1 h2 (fun _=>⟨Int.le_refl _,rfl⟩) with h|h
      ·exact .inl ⟨7,by decide,h⟩
      ·exact .inr h
   ·rw[if_neg h3]
    rcases zO M (sub:=sub) (a:=0) (to:=fD s.1) (Int.le_refl _) (Int.le_refl _) h1 h2 (fun h=>absurd h h3) with h|h
    ·exact .inl ⟨7,by decide,h⟩
    ·exact .inr h
  ·rw[if_pos h2];exact .inl ⟨6,by decide,rfl⟩
 ·rw[if_pos h1];exact .inl ⟨5,by decide,rfl⟩
theorem adA (s:ST)(r:RT):(∃ e,e≠0∧AU s r=lN s e)∨(aM s∧aM (AU s r).1∧s.2.2.1≤(AU s r).1.2.2.1∧(AU s r).1.1=s.1∧(AU s r).2.2.1=0):=by
 unfold AU
 by_cases h0:aM s∧0≤r.1∧r.1<9
 case neg=>rw[if_pos h0];exact .inl ⟨1,by decide,rfl⟩
 rw[if_neg (not_not_intro h0)]
 have M:=h0.1
 have pl:∀ (q:List HT×Int) (e:ET),(q.2=0→aM (ia s q.1))→(∃ e',e'≠0∧bX s q e=lN s e')∨(aM s∧aM (bX s q e).1∧s.2.2.1≤(bX s q e).1.2.2.1∧(bX s q e).1.1=s.1∧(bX s q e).2.2.1=0):=by
  intro q e hq
  unfold bX
  by_cases h:q.2≠0
  ·rw[if_pos h];exact .inl ⟨q.2,h,rfl⟩
  ·rw[if_neg h];exact .inr ⟨M,hq (Classical.not_not.1 h),Int.le_refl _,rfl,rfl⟩
 by_cases h:r.1=0
 ·rw[if_pos h]
  rcases JR M r.2.1 with h|⟨x,y,G⟩
  ·exact .inl h
  ·exact .inr ⟨M,G.may,by rw[G.st];exact Int.le_refl _,by rw[G.st],by rw[G.ans]⟩
 rw[if_neg h]
 by_cases h:r.1=1
 ·rw[if_pos h]
  unfold j6
  by_cases hm:jD s.2.2.2.2.1 r.2.1 r.2.2.1 r.2.2.2.1
  ·rw[if_neg (not_not_intro hm)];exact .inr ⟨M,IW M hm.1,Int.le_refl _,rfl,rfl⟩
  ·rw[if_pos hm];exact .inl ⟨5,by decide,rfl⟩
 rw[if_neg h]
 by_cases h:r.1=2
 ·rw[if_pos h]
  unfold ko
  by_cases hm:jD s.2.2.2.2.1 r.2.1 r.2.2.1 r.2.2.2.1
  ·rw[if_neg (not_not_intro hm)];exact .inr ⟨M,yR M (j5 hm.1).1,Int.le_refl _,rfl,rfl⟩
  ·rw[if_pos hm];exact .inl ⟨5,by decide,rfl⟩
 rw[if_neg h]
 by_cases h:r.1=3
 ·rw[if_pos h]
  unfold zM
  by_cases hn:r.2.2.2.2.1<s.2.2.1∨1073741824<r.2.2.2.2.1
  ·rw[if_pos hn];exact .inl ⟨10,by decide,rfl⟩
  ·rw[if_neg hn]
   exact .inr ⟨M,Gu M (by omega) (by omega),by show s.2.2.1≤r.2.2.2.2.1;omega,(uL M _).d,rfl⟩
 rw[if_neg h]
 by_cases h:r.1=4
 ·rw[if_pos h]
  refine pl _ _ fun hq=>pU (e:=(0,(0,(0,(0,(0,P0)))))) M hq (Bz hq).2.2 fun x hx hin=>?_
  rw[(Bz hq).2.1]
  unfold yZ at hin ⊢
  rw[List.any_append,hin];rfl
 rw[if_neg h]
 by_cases h:r.1=5
 ·rw[if_pos h]
  exact pl _ _ fun hq=>pU (e:=(0,(0,(0,(0,(0,P0)))))) M hq (wT hq).2.1 fun x hx hin=>(wT hq).2.2 _ hin
 rw[if_neg h]
 by_cases h:r.1=6
 ·rw[if_pos h]
  exact pl _ _ fun hq=>pU (e:=(0,(0,(0,(0,(0,P0)))))) M hq (yc hq).2.1 fun x hx hin=>(yc hq).2.2 _ (Hy hx) hin
 rw[if_neg h]
 by_cases h:r.1=7
 ·rw[if_pos h]
  exact pl _ _ fun hq=>pU (e:=(0,(0,(0,(0,(0,P0)))))) M hq (yX hq).2.1 fun x hx hin=>(yX hq).2.2 _ (Hy hx) hin
 rw[if_neg h]
 unfold pW
 by_cases h1:tT r.2.2.2.2.2
 ·rw[if_neg (not_not_intro h1)]
  by_cases h2:aM (lK s r.2.2.2.2.2)
  ·rw[if_neg (not_not_intro h2)];exact .inr ⟨M,h2,Int.le_refl _,rfl,rfl⟩
  ·rw[if_pos h2];exact .inl ⟨12,by decide,rfl⟩
 ·rw[if_pos h1];exact .inl ⟨1,by decide,rfl⟩
theorem Ui {L:List LT}{y:LT}(hy:y∈L):cr L y.2.1 y.2.2.1=true:=kN.2 ⟨y,hy,rfl⟩
theorem VT {L:List LT}(hs:L.Pairwise xQ){y:LT}(hy:y∈L):b8 L y.2.1 y.2.2.1=y:=
 have h:=j5 (Ui hy)
 tg (k:=kL) hs h.1 hy h.2
section
variable {s:ST}{y:LT}
end
noncomputable abbrev NM (d:ST×List ET)(r:RT):ST×List ET:=((AU d.1 r).1,d.2++(AU d.1 r).2.1)
noncomputable def dz (s:ST)(l:List RT):ST×List ET:=l.foldl NM (s,[])
theorem UX (s:ST)(n:Int):(zM s n).2.1.length≤s.2.2.2.2.1.length:=by
 unfold zM
 split
 ·exact Nat.zero_le _
 ·show ((aQ s n).map _).length≤_
  rw[List.length_map]
  unfold aQ
  rw[List.length_mergeSort]
  exact List.length_filter_le _ _
theorem Sw (s:ST)(r:RT):(AU s r).2.1.length≤1+s.2.2.2.2.1.length:=by
 unfold AU
 have pl:∀ (q:List HT×Int) (e:ET),(bX s q e).2.1.length≤1+s.2.2.2.2.1.length:=by
  intro q e
  unfold bX
  split
  ·exact Nat.zero_le _
  ·show 1≤_;omega
 have ga:∀ a b c,(iH s a b c).2.1.length≤1+s.2.2.2.2.1.length:=by
  intro a b c
  unfold iH
  split
  ·exact Nat.zero_le _
  ·show 1≤_;omega
 split
 ·exact Nat.zero_le _
 split
 ·unfold ri
  split
  ·exact Nat.zero_le _
  split
  ·exact Nat.zero_le _
  split
  ·split
   ·exact Nat.zero_le _
   split
   ·exact Nat.zero_le _
   ·exact ga _ _ _
  ·exact ga _ _ _
 split
 ·unfold j6
  split<;>exact Nat.zero_le _
 split
 ·unfold ko
  split
  ·exact Nat.zero_le _
  ·show 1≤_;omega
 split
 ·have:=UX s r.2.2.2.2.1;omega
 split
 ·exact pl _ _
 split
 ·exact pl _ _
 split
 ·exact pl _ _
 split
 ·exact pl _ _
 ·unfold pW
  split
  ·exact Nat.zero_le _
  split
  ·exact Nat.zero_le _
  ·show 1≤_;omega
theorem NJ {I:ST→List ET→Prop}(hI:∀ s E r,I s E→I (AU s r).1 (E++(AU s r).2.1)){s:ST}(h0:I s [])(l:List RT):I (dz s l).1 (dz s l).2:=by
 have:∀ (l:List RT) (d:ST×List ET),I d.1 d.2→I (l.foldl NM d).1 (l.foldl NM d).2:=by
  intro l
  induction l with
  | nil=>exact fun d h=>h
  | cons r l ih=>exact fun d h=>ih _ (hI _ _ _ h)
 exact this l _ h0
theorem IP (s:ST)(l:List RT){j:Nat}(h:j<l.length):dz s (l.take (j+1))=NM (dz s (l.take j)) l[j]:=by
 unfold dz
 rw[aW h,List.foldl_append];rfl
theorem Mv {s:ST}(M:aM s)(r:RT):aM (AU s r).1∧(AU s r).1.1=s.1:=by
 rcases adA s r with⟨e,_,h1⟩|h1
 ·rw[h1];exact⟨M,rfl⟩
 ·exact⟨h1.2.1,h1.2.2.2.1⟩
theorem xM {s:ST}(M:aM s)(l:List RT):aM (dz s l).1∧(dz s l).1.1=s.1:=
 NJ (I:=fun t _=>aM t∧t.1=s.1) (fun t _ r h=>⟨(Mv h.1 r).1,by rw[(Mv h.1 r).2,h.2]⟩) ⟨M,rfl⟩ l
theorem Ed {s:ST}(M:aM s)(l:List RT):∀ j,j≤l.length→(dz s (l.take j)).2.length≤33 * j
 | 0,_=>by rw[List.take_zero];exact Nat.le_refl _
 | j+1,h=>by
  have hj:j<l.length:=by omega
  have h1:=Ed M l j (by omega)
  have h2:=Sw (dz s (l.take j)).1 l[j]
  have h3:=(xM M (l.take j)).1.len
  rw[IP s l hj]
  show ((dz s (l.take j)).2++_).length≤_
  rw[List.length_append]
  omega
def kT (idle:Int)(x:LT):Int×Int:=((ig idle x).2,(ig idle x).1)
theorem ER (i:Int)(x y:LT):ow (ig i x) (ig i y)=decide (uH (kT i x) (kT i y)):=rfl
theorem Wr {s:ST}(M:aM s){x y:LT}(hx:x∈s.2.2.2.2.1)(hy:y∈s.2.2.2.2.1){i j:Int}(h:(ig i x).1=(ig j y).1):kL x=kL y:=by
 have bx:=(M.aX.each x hx).blk
 have bY:=(M.aX.each y hy).blk
 have h8:=M.fit.blk
 have h:x.2.1 * 8+x.2.2.1=y.2.1 * 8+y.2.2.1:=h
 obtain⟨_,_,b1,b2⟩:=bx
 obtain⟨_,_,c1,c2⟩:=bY
 show (_,_)=(_,_)
 rw[show x.2.1=y.2.1 by omega,show x.2.2.1=y.2.2.1 by omega]
theorem XQ {s:ST}(M:aM s)(n:Int):JB (kT s.2.1.2.1) (aQ s n):=by
 have h1:(aQ s n).Pairwise fun x y=>(!ow (ig s.2.1.2.1 y) (ig s.2.1.2.1 x))=true:=by
  unfold aQ
  refine List.pairwise_mergeSort (fun a b c h1 h2=>?_) (fun a b=>?_) _
  ·rw[ER,Bool.not_eq_true',decide_eq_false_iff_not] at h1 h2 ⊢
   unfold uH wg at *
   omega
  ·rw[ER,ER,Bool.or_eq_true,Bool.not_eq_true',Bool.not_eq_true',decide_eq_false_iff_not,decide_eq_false_iff_not]
   unfold uH wg
   omega
 refine (h1.and (kI M n)).imp_of_mem fun {x y} hx hy h=>?_
 have h2:=h.1
 rw[ER,Bool.not_eq_true',decide_eq_false_iff_not] at h2
 rcases OA (kT s.2.1.2.1 x) (kT s.2.1.2.1 y) with h3|h3|h3
 ·exact h3
 ·exact absurd (Wr (i:=s.2.1.2.1) (j:=s.2.1.2.1) M (de.1 hx).1 (de.1 hy).1 (congrArg Prod.snd h3)) h.2
 ·exact absurd h3 h2
section
variable {s:ST}(M:aM s){a b:Int}(ha:s.2.2.1≤a)(hab:a≤b)(hb:b≤1073741824)
include M ha hab hb
end
theorem UQ {α:Type}{k:α→Int×Int}(f:α→α)(hf:∀ a,k (f a)=k a)(l:List α)(x:α):fH k (l.map f) (f x)=(fH k l x).map f:=by
 unfold fH
 have e:(l.map f).findIdx (eu k (k (f x)))=l.findIdx (eu k (k x)):=by
  rw[List.findIdx_map,hf]
  congr 1
  funext y
  show decide (uH (k x) (k (f y)))=_
  rw[hf]
 rw[e,List.map_append,List.map_cons,List.map_take,List.map_drop]
theorem kg (L:List LT)(n:Int):bR L n=L.map fun x=>fP x n:=rfl
theorem Ws (L:List LT)(x:LT)(n:Int):fH kL (bR L n) (fP x n)=bR (fH kL L x) n:=UQ (k:=kL) (fun x=>fP x n) (fun _=>rfl) L x
theorem Ug (L:List LT)(n a b:Int):(bR L n).findIdx (iw a b)=L.findIdx (iw a b):=by
 rw[kg,List.findIdx_map];rfl
theorem Xp (L:List LT)(a b n:Int):iL (bR L n) a b=bR (iL L a b) n:=by
 unfold iL
 rw[Ug,kg,kg,List.eraseIdx_eq_take_drop_succ,List.eraseIdx_eq_take_drop_succ,List.map_append,List.map_take,List.map_drop]
theorem Wt (L:List LT)(a n:Int):bR (bR L n) a=bR L a:=by
 unfold bR
 rw[List.map_map];rfl
theorem JE (H:List HT){a n:Int}(h:n≤a):bM (bM H n) a=bM H a:=by
 unfold bM
 rw[List.filter_filter]
 refine List.filter_congr fun x _=>?_
 rw[Bool.eq_iff_iff,Bool.and_eq_true,Bool.not_eq_true',Bool.not_eq_true',decide_eq_false_iff_not,decide_eq_false_iff_not]
 omega
theorem gJ (s:ST){a n:Int}(h:n≤a):aG (aG s n) a=aG s a:=by
 show (_,(_,(_,(_,(bR (bR s.2.2.2.2.1 n) a,bM (bM s.2.2.2.2.2 n) a)))))=_
 rw[Wt,JE _ h];rfl
theorem Cf {m t:ST}{n a:Int}(e:aG m n=aG t n)(h:n≤a):aG m a=aG t a:=by
 rw[← gJ m h,e,gJ t h]
theorem Mg {H:List HT}(hs:H.Pairwise Az){x:HT}{n:Int}(h:n<x.2.2):fc (bM H n) x=bM (fc H x) n:=by
 have h1:(bM H n).Pairwise Az:=hs.sublist List.filter_sublist
 refine GU (k:=kH) (pV h1) ((pV hs).sublist List.filter_sublist) fun y=>?_
 rw[pQ]
 unfold bM
 rw[List.mem_filter,List.mem_filter,pQ,Bool.not_eq_true',decide_eq_false_iff_not]
 constructor
 ·rintro (rfl|h2)
  ·exact⟨.inl rfl,by omega⟩
  ·exact⟨.inr ⟨h2.1.1,h2.2⟩,h2.1.2⟩
 ·rintro ⟨rfl|h2,h3⟩
  ·exact .inl rfl
  ·exact .inr ⟨⟨h2.1,h3⟩,h2.2⟩
theorem wF {t:ST}(hH:t.2.2.2.2.2.Pairwise Az)(x:LT)(a:Int):iR (aG t a) (fP x a) a=aG (iR t x a) a:=by
 have e1:iL (bR t.2.2.2.2.1 a) x.2.1 x.2.2.1=bR (iL t.2.2.2.2.1 x.2.1 x.2.2.1) a:=Xp _ _ _ _
 have e2:(if 0<t.2.1.2.2.1 then fc (bM t.2.2.2.2.2 a) (x.2.1,(x.2.2.1,a+t.2.1.2.2.1)) else bM t.2.2.2.2.2 a)=bM (if 0<t.2.1.2.2.1 then fc t.2.2.2.2.2 (x.2.1,(x.2.2.1,a+t.2.1.2.2.1)) else t.2.2.2.2.2) a:=by
  by_cases h:0<t.2.1.2.2.1
  ·rw[if_pos h,if_pos h,Mg hH (by show a<a+t.2.1.2.2.1;omega)]
  ·rw[if_neg h,if_neg h]
 show (t.1,(t.2.1,(a,(t.2.2.2.1,(iL (bR t.2.2.2.2.1 a) x.2.1 x.2.2.1,(if 0<t.2.1.2.2.1 then fc (bM t.2.2.2.2.2 a) (x.2.1,(x.2.2.1,a+t.2.1.2.2.1)) else bM t.2.2.2.2.2 a))))))
  = (t.1,(t.2.1,(a,(t.2.2.2.1,(bR (iL t.2.2.2.2.1 x.2.1 x.2.2.1) a,bM (if 0<t.2.1.2.2.1 then fc t.2.2.2.2.2 (x.2.1,(x.2.2.1,a+t.2.1.2.2.1)) else t.2.2.2.2.2) a)))))
 rw[e1,e2]
theorem Ka {m u:ST}{e:ET}(M:aM m)(E:jw e)(C:cA m e.2.1)(h:Cp (aG m e.2.1) e=some u)(U:aM u):bH m e=(u,0):=by
 unfold bH
 rw[if_neg (fun k=>k.elim (fun k=>k M) (fun k=>k E)),if_neg (not_not_intro C),h]
 exact if_pos U
theorem Tz {s u:ST}:∀ {E F:List ET},qO s E=(u,0)→qO s (E++F)=qO u F:=by
 intro E
 induction E generalizing s with
 | nil=>intro F h;cases h;rfl
 | cons e E ih=>
  intro F h
  unfold qO at h
  by_cases h0:(bH s e).2=0
  ·rw[if_pos h0] at h
   show (if (bH s e).2=0 then qO (bH s e).1 (E++F) else (s,(bH s e).2))=_
   rw[if_pos h0,ih h]
  ·rw[if_neg h0] at h
   exact absurd (congrArg Prod.snd h) h0
theorem Ms {s u:ST}{e:ET}(h:bH s e=(u,0)):qO s [e]=(u,0):=by
 unfold qO
 rw[h];rfl
theorem MT {s:ST}(M:aM s){x:LT}(hx:x∈s.2.2.2.2.1){k at':Int}(hk:k=0∨k=1)(h0:0≤at')(h1:at'≤1073741824):jw (k,(at',(x.1,(x.2.1,(x.2.2.1,P0))))):=by
 have h:=M.aX.each x hx
 have hs:=h.sub
 have hb:=h.blk
 have f1:=M.fit.x2
 have f2:=M.fit.y2
 have f3:=M.fit.blk
 refine⟨⟨h0,h1⟩,fun _=>rfl,?_⟩
 unfold fS
 rw[if_pos hk]
 exact⟨⟨hs.2.1,by have:=hs.2.2;show x.1≤31;omega⟩,⟨hb.2.1.1,by have:=hb.2.1.2;show x.2.1≤3;omega⟩,⟨hb.2.2.1,by have:=hb.2.2.2;show x.2.2.1≤7;omega⟩⟩
theorem yD {m:ST}(M:aM m){a:Int}(C:cA m a){x:LT}(hx:fP x a∈(aG m a).2.2.2.2.1) :
  bH m (jl x a)=(iR (aG m a) (fP x a) a,0)∧aM (iR (aG m a) (fP x a) a):=by
 have S:=jg C
 have h0:=S.jX
 have U:=yR S hx
 have e1:fO (aG m a).2.2.2.2.1 x.2.1 x.2.2.1=(((aG m a).2.2.2.2.1.findIdx (iw x.2.1 x.2.2.1):Nat):Int):=by
  have:=Ui hx
  unfold cr at this
  rw[List.any_eq_true] at this
  exact if_pos (List.findIdx_lt_length.2 this)
 refine⟨Ka M (MT S hx (.inr rfl) h0 C.2.2) C ?_ U,U⟩
 show NI (aG m a) (jl x a)=_
 unfold NI
 rw[show fO (aG m a).2.2.2.2.1 (jl x a).2.2.2.1 (jl x a).2.2.2.2.1=_ from e1]
 rw[if_neg (by omega),Int.toNat_natCast]
 have e2:=VT S.aX.ji hx
 have e3:((aG m a).2.2.2.2.1.getD ((aG m a).2.2.2.2.1.findIdx (iw x.2.1 x.2.2.1)) (0,(0,(0,(0,0))))).1=(jl x a).2.2.1:=(congrArg (fun z:LT=>z.1) e2).trans rfl
 rw[if_neg (not_not_intro e3)]
 rfl
structure GP (m t:ST):Prop where
 mm:aM m
 tt:aM t
 nw:m.2.2.1≤t.2.2.1
 eq:aG m t.2.2.1=aG t t.2.2.1
section
variable {m t:ST}
theorem GP.can (R:GP m t):cA m t.2.2.1:=⟨R.mm,R.nw,R.tt.nV⟩
theorem kS (M:aM t):cA t t.2.2.1:=⟨M,Int.le_refl _,M.nV⟩
theorem yV (M:aM t):GP (aG t t.2.2.1) t:=⟨jg (kS M),M,Int.le_refl _,gJ t (Int.le_refl _)⟩
theorem Ek (R:GP m t){u:ST}{e:ET}(U:aM u)(hn:u.2.2.1=t.2.2.1)(ha:e.2.1=t.2.2.1)(E:jw e)(h:Cp (aG t t.2.2.1) e=some (aG u u.2.2.1)):∃ m',qO m [e]=(m',0)∧GP m' u:=by
 refine⟨aG u u.2.2.1,Ms (Ka R.mm E (by rw[ha];exact R.can) (by rw[ha,R.eq];exact h) (jg (kS U))),yV U⟩
theorem Us (R:GP m t)(n:Int)(h1:t.2.2.1≤n)(h2:n≤1073741824):∃ m',qO m ((aQ t n).map fun x=>jl x (x.2.2.2.2+t.2.1.2.1))=(m',0)∧GP m' (Ep (cK t (aQ t n)) n):=by
 have M:=R.tt
 have ji:=XQ M n
 have keys:=kI M n
 have go:∀ (l2 l1:List LT),aQ t n=l1++l2→∀ (m1:ST) (a:Int),qO m (l1.map fun x=>jl x (x.2.2.2.2+t.2.1.2.1))=(m1,0)→aM m1→m1.2.2.1≤a→a≤n→aG m1 a=aG (cK t l1) a→(∀ x∈l2,a≤x.2.2.2.2+t.2.1.2.1) →
   ∃ m',qO m ((aQ t n).map fun x=>jl x (x.2.2.2.2+t.2.1.2.1))=(m',0)∧aM m'∧m'.2.2.1≤n∧aG m' n=aG (cK t (aQ t n)) n:=by
  intro l2
  induction l2 with
  | nil=>
   intro l1 hl m1 a hg M1 hn ha he hx
   rw[List.append_nil] at hl
   rw[hl]
   exact⟨m1,hg,M1,by omega,Cf he ha⟩
  | cons x l2 ih=>
   intro l1 hl m1 a hg M1 hn ha he hx
   have hxd:x∈aQ t n:=by rw[hl];exact List.mem_append_right _ (List.mem_cons_self ..)
   have hd:=de.1 hxd
   have hax:=hx x (List.mem_cons_self ..)
   rw[hl] at ji keys
   have keys1:=(List.pairwise_append.1 keys)
   have F:wu t l1 (cK t l1):=by
    have:=pJ M l1 [] t (uF M) (fun y hy=>(de.1 (by rw[hl];exact List.mem_append_left _ hy:y∈aQ t n)).1) (by rw[List.nil_append];exact keys1.1)
    rw[List.nil_append] at this
    exact this
   have hxt:x∈(cK t l1).2.2.2.2.1:=by
    rw[F.aX]
    refine List.mem_filter.2 ⟨hd.1,?_⟩
    rw[Bool.not_eq_true',List.any_eq_false]
    intro y hy e
    exact keys1.2.2 y hy x (List.mem_cons_self ..) (of_decide_eq_true e)
   have he':=Cf he hax
   have C:cA m1 (x.2.2.2.2+t.2.1.2.1):=⟨M1,by omega,by omega⟩
   have hxm:fP x (x.2.2.2.2+t.2.1.2.1)∈(aG m1 (x.2.2.2.2+t.2.1.2.1)).2.2.2.2.1:=by
    rw[he']
    exact List.mem_map.2 ⟨x,hxt,rfl⟩
   obtain⟨k1,k2⟩:=yD M1 C hxm
   have e1:iR (aG m1 (x.2.2.2.2+t.2.1.2.1)) (fP x (x.2.2.2.2+t.2.1.2.1)) (x.2.2.2.2+t.2.1.2.1)=aG (cK t (l1++[x])) (x.2.2.2.2+t.2.1.2.1):=by
    rw[he',wF F.ji]
    unfold cK
    rw[List.foldl_append];rfl
   refine ih (l1++[x]) (by rw[hl,List.append_assoc];rfl) _ (x.2.2.2.2+t.2.1.2.1) ?_ k2 (Int.le_refl _) hd.2 ?_ fun y hy=>?_
   ·rw[List.map_append,Tz hg]
    exact Ms k1
   ·rw[e1,gJ _ (Int.le_refl _)]
   ·have h:=(List.pairwise_cons.1 (List.pairwise_append.1 ji).2.1).1 y hy
    have h:wg _ _ _ _:=h
    unfold wg kT ig at h
    simp only at h
    omega
 obtain⟨m',g1,g2,g3,g4⟩:=go (aQ t n) [] rfl m t.2.2.1 rfl R.mm R.nw h1 R.eq fun x hx=>by
  have h:=(M.aX.each x (de.1 hx).1).idle
  omega
 refine⟨m',g1,g2,Gu M h1 h2,g3,?_⟩
 show aG m' n=aG (Ep (cK t (aQ t n)) n) n
 rw[g4]
 show _=(_,(_,(n,(_,(_,bM (bM _ n) n)))))
 rw[Gh];rfl
theorem Xl {L:List LT}{a b:Int}(hh:cr L a b=true):∃ (hlt:L.findIdx (iw a b)<L.length),fO L a b=((L.findIdx (iw a b):Nat):Int)∧b8 L a b=L[L.findIdx (iw a b)]:=by
 have hlt:L.findIdx (iw a b)<L.length:=by
  unfold cr at hh
  rw[List.any_eq_true] at hh
  exact List.findIdx_lt_length.2 hh
 refine⟨hlt,if_pos hlt,?_⟩
 unfold b8
 rw[List.getD_eq_getElem?_getD,List.getElem?_eq_getElem hlt,Option.getD_some]
theorem Rf (L:List LT)(n:Int):ct (bR L n)=ct L:=by
 unfold ct bR
 rw[List.map_map];rfl
theorem Qf (R:GP m t){sub a b:Int}{d:QU}(G:CN t sub a b d):∃ m',qO m d.2.1=(m',0)∧GP m' d.1:=by
 have M:=R.tt
 have U:=G.may
 rw[G.st] at U
 rw[G.st,G.ev]
 have hx:((sub,(a,(b,(t.2.2.1,t.2.2.1)))):LT)∈(Fa t (fH kL t.2.2.2.2.1 (sub,(a,(b,(t.2.2.1,t.2.2.1)))))).2.2.2.2.1:=kD.2 (.inl rfl)
 refine Ek R U rfl rfl (MT U hx (.inl rfl) M.jX M.nV) ?_
 have hl:=NX M (x:=(sub,(a,(b,(t.2.2.1,t.2.2.1))))) G.blk G.free
 have e1:kr (bR t.2.2.2.2.1 t.2.2.1) (sub,(a,(b,(t.2.2.1,t.2.2.1))))=(bR (fH kL t.2.2.2.2.1 (sub,(a,(b,(t.2.2.1,t.2.2.1))))) t.2.2.1,true):=by
  unfold kr
  rw[if_neg,← Ws];rfl
  rw[JZ,j9]
  intro h
  rcases h with h|h
  ·rw[G.free] at h;cases h
  ·omega
 show (if (kr (bR t.2.2.2.2.1 t.2.2.1) (sub,(a,(b,(t.2.2.1,t.2.2.1))))).2=true then some (Fa (aG t t.2.2.1) (kr (bR t.2.2.2.2.1 t.2.2.1) (sub,(a,(b,(t.2.2.1,t.2.2.1))))).1) else none)=_
 rw[e1];rfl
theorem Te (R:GP m t){y:LT}(hy:y∈t.2.2.2.2.1):∃ m',qO m [jl y t.2.2.1]=(m',0)∧GP m' (iR t y t.2.2.1):=by
 have M:=R.tt
 have hx:fP y t.2.2.1∈(aG m t.2.2.1).2.2.2.2.1:=by
  rw[R.eq]
  exact List.mem_map.2 ⟨y,hy,rfl⟩
 obtain⟨k1,k2⟩:=yD R.mm R.can hx
 have U:=yR M hy
 refine⟨_,Ms k1,?_⟩
 rw[R.eq,wF M.cU.ji]
 exact yV U
theorem aat (R:GP m t)(r:RT):∃ m',qO m (AU t r).2.1=(m',0)∧GP m' (AU t r).1:=by
 have M:=R.tt
 have hM:=(Mv M r).1
 have er:∀ e,∃ m',qO m (lN t e).2.1=(m',0)∧GP m' (lN t e).1:=fun e=>⟨m,rfl,R⟩
 have hl:=M.dD.len
 have hy4:=M.fit.y2
 have n0:=M.jX
 have n1:=M.nV
 revert hM
 unfold AU
 by_cases h0:aM t∧0≤r.1∧r.1<9
 case neg=>rw[if_pos h0];exact fun _=>er 1
 rw[if_neg (not_not_intro h0)]
 have pl:∀ (q:List HT×Int) (e:ET),e.2.1=t.2.2.1→(q.2=0→jw e∧Cp (aG t t.2.2.1) e=JX (aG t t.2.2.1) q)→aM (bX t q e).1→∃ m',qO m (bX t q e).2.1=(m',0)∧GP m' (bX t q e).1:=by
  intro q e k0 k1
  unfold bX
  by_cases h:q.2≠0
  ·rw[if_pos h];exact fun _=>er _
  ·rw[if_neg h]
   intro hM
   have h:=Classical.not_not.1 h
   obtain⟨k2,k3⟩:=k1 h
   exact Ek R hM rfl k0 k2 (by rw[k3];exact if_pos h)
 by_cases h:r.1=0
 ·rw[if_pos h]
  intro hM
  rcases JR M r.2.1 with⟨e,_,h⟩|⟨x,y,G⟩
  ·rw[h];exact er e
  ·exact Qf R G
 rw[if_neg h]
 by_cases h:r.1=1
 ·rw[if_pos h]
  unfold j6
  by_cases hm:jD t.2.2.2.2.1 r.2.1 r.2.2.1 r.2.2.2.1
  ·rw[if_neg (not_not_intro hm)]
   intro hM
   refine⟨m,rfl,R.mm,hM,R.nw,?_⟩
   rw[show aG m _=_ from R.eq]
   obtain⟨hlt,_,he⟩:=Xl hm.1
   show (_,(_,(_,(_,(bR _ _,_)))))=(_,(_,(_,(_,(bR (List.set _ _ _) _,_)))))
   have:bR (t.2.2.2.2.1.set (t.2.2.2.2.1.findIdx (iw r.2.2.1 r.2.2.2.1)) (fP (b8 t.2.2.2.2.1 r.2.2.1 r.2.2.2.1) t.2.2.1)) t.2.2.1=bR t.2.2.2.2.1 t.2.2.1:=by
    rw[kg,kg,List.map_set]
    refine List.ext_getElem (by simp) fun i h1 h2=>?_
    rw[List.getElem_set]
    split
    ·rename_i e;subst e
     rw[List.getElem_map,he];rfl
    ·rfl
   rw[this]
  ·rw[if_pos hm];exact fun _=>er 5
 rw[if_neg h]
 by_cases h:r.1=2
 ·rw[if_pos h]
  unfold ko
  by_cases hm:jD t.2.2.2.2.1 r.2.1 r.2.2.1 r.2.2.2.1
  ·rw[if_neg (not_not_intro hm)];exact fun _=>Te R (j5 hm.1).1
  ·rw[if_pos hm];exact fun _=>er 5
 rw[if_neg h]
 by_cases h:r.1=3
 ·rw[if_pos h]
  unfold zM
  by_cases hn:r.2.2.2.2.1<t.2.2.1∨1073741824<r.2.2.2.2.1
  ·rw[if_pos hn];exact fun _=>er 10
  ·rw[if_neg hn];exact fun _=>Us R _ (by omega) (by omega)
 rw[if_neg h]
 have bs:=Rf t.2.2.2.2.1 t.2.2.1
 by_cases h:r.1=4
 ·rw[if_pos h]
  refine pl _ _ rfl fun hq=>⟨⟨⟨n0,n1⟩,fun _=>rfl,?_⟩,rfl⟩
  unfold qm at hq
  split at hq
  ·cases hq
  ·split at hq
   ·rename_i k;exact absurd hq k
   ·rename_i k
    have k:=Classical.not_not.1 k
    unfold jC at k
    split at k
    ·cases k
    ·rename_i k2
     have k2:=Classical.not_not.1 k2
     obtain⟨a1,a2,a3,a4,_⟩:=k2
     exact⟨⟨a1,by show r.2.2.1≤3;simp only at a3;omega⟩,⟨a2,by show r.2.2.2.2.1≤4;simp only at a4 a1;omega⟩,⟨Int.le_refl _,Int.le_refl _⟩⟩
 rw[if_neg h]
 by_cases h:r.1=5
 ·rw[if_pos h]
  refine pl _ _ rfl fun hq=>⟨⟨⟨n0,n1⟩,fun _=>rfl,?_⟩,rfl⟩
  unfold dZ at hq
  split at hq
  ·cases hq
  ·split at hq
   ·cases hq
   ·rename_i k
    exact⟨⟨by show 0≤r.2.2.2.2.1;omega,by show r.2.2.2.2.1≤2;omega⟩,⟨Int.le_refl _,Int.le_refl _⟩,⟨Int.le_refl _,Int.le_refl _⟩⟩
 rw[if_neg h]
 by_cases h:r.1=6
 ·rw[if_pos h]
  refine pl _ _ rfl fun hq=>⟨⟨⟨n0,n1⟩,fun _=>rfl,?_⟩,?_⟩
  ·unfold gM at hq
   split at hq
   ·cases hq
   ·split at hq
    ·cases hq
    ·rename_i k0
     split at hq
     ·rename_i k;exact absurd hq k
     ·rename_i k
      have k:=Classical.not_not.1 k
      unfold jC at k
      split at k
      ·cases k
      ·rename_i k2
       have k2:=Classical.not_not.1 k2
       obtain⟨a1,a2,a3,a4,_⟩:=k2
       exact⟨⟨by show 0≤r.2.2.1;omega,by show r.2.2.1≤2;omega⟩,⟨a2,by show r.2.2.2.2.1≤4;simp only at a4 a1;omega⟩,⟨Int.le_refl _,Int.le_refl _⟩⟩
  ·show JX _ (gM _ _ _ _ (ct (bR t.2.2.2.2.1 t.2.2.1)))=_
   rw[bs];rfl
 rw[if_neg h]
 by_cases h:r.1=7
 ·rw[if_pos h]
  refine pl _ _ rfl fun hq=>⟨⟨⟨n0,n1⟩,fun _=>rfl,?_⟩,?_⟩
  ·unfold ic at hq
   split at hq
   ·cases hq
   ·split at hq
    ·cases hq
    ·rename_i k
     exact⟨⟨by show 0≤r.2.2.2.2.1;omega,by show r.2.2.2.2.1≤2;omega⟩,⟨Int.le_refl _,Int.le_refl _⟩,⟨Int.le_refl _,Int.le_refl _⟩⟩
  ·show JX _ (ic _ _ _ (ct (bR t.2.2.2.2.1 t.2.2.1)))=_
   rw[bs];rfl
 rw[if_neg h]
 unfold pW
 by_cases h1:tT r.2.2.2.2.2
 ·rw[if_neg (not_not_intro h1)]
  by_cases h2:aM (lK t r.2.2.2.2.2)
  ·rw[if_neg (not_not_intro h2)]
   intro hM
   exact Ek R h2 rfl rfl ⟨⟨n0,n1⟩,fun h=>absurd rfl h,⟨h1,⟨Int.le_refl _,Int.le_refl _⟩,⟨Int.le_refl _,Int.le_refl _⟩,⟨Int.le_refl _,Int.le_refl _⟩⟩⟩ rfl
  ·rw[if_pos h2];exact fun _=>er 12
 ·rw[if_pos h1];exact fun _=>er 1
theorem XN {s:ST}(M:aM s)(l:List RT):∃ m,qO (aG s s.2.2.1) (dz s l).2=(m,0)∧GP m (dz s l).1:=
 NJ (I:=fun t E=>∃ m,qO (aG s s.2.2.1) E=(m,0)∧GP m t) (fun t E r h=>by
  obtain⟨m,h1,h2⟩:=h
  obtain⟨m',h3,h4⟩:=aat h2 r
  exact⟨m',by rw[Tz h1];exact h3,h4⟩) ⟨_,rfl,yV M⟩ l
theorem VJ {s:ST}(M:aM s)(l:List RT):settle s s.2.2.1=(aG s s.2.2.1,true)∧∃ m,aM m∧HZ (aG s s.2.2.1) (dz s l).2=(m,0) ∧
  settle m (dz s l).1.2.2.1=(aG (dz s l).1 (dz s l).1.2.2.1,true)∧settle (dz s l).1 (dz s l).1.2.2.1=(aG (dz s l).1 (dz s l).1.2.2.1,true):=by
 obtain⟨m,h1,R⟩:=XN M l
 refine⟨if_pos (kS M),m,R.mm,?_,?_,if_pos (kS R.tt)⟩
 ·unfold HZ
  rw[h1];rfl
 ·unfold settle
  rw[if_pos R.can,R.eq]
end
end Go.Proofs.Zz
