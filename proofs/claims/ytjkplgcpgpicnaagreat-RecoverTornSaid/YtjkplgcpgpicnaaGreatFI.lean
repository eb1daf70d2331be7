/- Itl, It2, M1, Itd, M2, M3, M4, M5, M13, M14, M15, M16. -/
import Derived.Test.YtjkplgcpgpicnaaGreatFD
import Derived.IntWalk
import Derived.Sort.OwnSortedInts
import Derived.Shelf.Slices.CompactI
import Derived.Lib.RowBridge
namespace Go.Sy
open Go
set_option linter.unusedSimpArgs false
set_option linter.unusedVariables false
section
variable {α β γ:Type}{f:α→Option (R3 α β γ)}
theorem br {n:Nat}{x x':α}(h:f x=some (.next x')):iter (n+1) f x=iter n f x':=by rw[iter,h]
theorem bJ {n:Nat}{x:α}{y:β}(h:f x=some (.out y)):iter (n+1) f x=some (.inl y):=by rw[iter,h]
theorem eP {n:Nat}{x:α}{y:γ}(h:f x=some (.ret y)):iter (n+1) f x=some (.inr y):=by rw[iter,h]
theorem en:∀ {k n:Nat},k≤n→∀ {x:α} {r:Sum β γ},iter k f x=some r→iter n f x=some r
 | 0,_,_,x,r,h=>by simp[iter] at h
 | k+1,0,hk,_,_,_=>by omega
 | k+1,n+1,hk,x,r,h=>by
  unfold iter at h ⊢
  split at h
  ·exact en (by omega) h
  ·exact h
  ·exact h
  ·simp at h
theorem lV (I:α→Prop)(m:α→Nat)(Q:Sum β γ→Prop)
  (step:∀ x,I x→(∃ x',f x=some (.next x')∧I x'∧m x'<m x)∨(∃ y,f x=some (.out y)∧Q (.inl y))∨∃ y,f x=some (.ret y)∧Q (.inr y)) :
  ∀ (n:Nat) (x:α),I x→m x<n→∃ r,iter n f x=some r∧Q r
 | 0,_,_,h=>by omega
 | n+1,x,hI,hm=>by
  rcases step x hI with⟨x',h1,h2,h3⟩|⟨y,h1,h2⟩|⟨y,h1,h2⟩
  ·rw[br h1];exact lV I m Q step n x' h2 (by omega)
  ·exact⟨_,bJ h1,h2⟩
  ·exact⟨_,eP h1,h2⟩
end
theorem bN {x:Int}(h1 : -9223372036854775808≤x)(h2:x≤9223372036854775807):IntKind.wrap .i64 x=x:=IntWalk.i64_in _ ⟨h1,h2⟩
theorem cV {n:Nat}(h:n<2 ^ 64):(BitVec.ofInt 64 (n:Int)).toNat=n:=by
 simp[BitVec.toNat_ofInt];omega
theorem Tg {a b:Nat}(ha:a<2 ^ 63)(hb:b<2 ^ 63):aG .and .i64 (a:Int) (b:Int)=((a &&& b:Nat):Int):=by
 have h:a &&& b≤a:=Nat.and_le_left
 show IntKind.wrap .i64 ((BitVec.ofInt 64 (a:Int) &&& BitVec.ofInt 64 (b:Int)).toNat:Int)=_
 rw[BitVec.toNat_and,cV (by omega),cV (by omega),bN (by omega) (by omega)]
theorem Z9 {a b:Nat}(ha:a<2 ^ 63)(hb:b<2 ^ 63):aG .or .i64 (a:Int) (b:Int)=((a ||| b:Nat):Int):=by
 have h:a ||| b<2 ^ 63:=Nat.or_lt_two_pow ha hb
 show IntKind.wrap .i64 ((BitVec.ofInt 64 (a:Int) ||| BitVec.ofInt 64 (b:Int)).toNat:Int)=_
 rw[BitVec.toNat_or,cV (by omega),cV (by omega),bN (by omega) (by omega)]
theorem Tm {a b:Nat}(ha:a<2 ^ 63)(hb:b<2 ^ 63):aG .xor .i64 (a:Int) (b:Int)=((a ^^^ b:Nat):Int):=by
 have h:a ^^^ b<2 ^ 63:=Nat.xor_lt_two_pow ha hb
 show IntKind.wrap .i64 ((BitVec.ofInt 64 (a:Int) ^^^ BitVec.ofInt 64 (b:Int)).toNat:Int)=_
 rw[BitVec.toNat_xor,cV (by omega),cV (by omega),bN (by omega) (by omega)]
theorem jD {a m:Nat}(ha:a<2 ^ 63)(hm:m<63):aG .and .i64 (a:Int) (((2 ^ m:Nat):Int)-1)=((a % 2 ^ m:Nat):Int):=by
 have h1:1≤2 ^ m:=Nat.one_le_two_pow
 have h2:2 ^ m≤2 ^ 62:=Nat.pow_le_pow_right (by omega) (by omega)
 have e:((2 ^ m:Nat):Int)-1=((2 ^ m-1:Nat):Int):=by omega
 rw[e,Tg ha (by omega),Nat.and_two_pow_sub_one_eq_mod]
theorem fdiv_pow (a m:Nat):Int.fdiv (a:Int) ((2:Int) ^ m)=((a / 2 ^ m:Nat):Int):=by
 rw[show ((2:Int) ^ m)=((2 ^ m:Nat):Int) by simp,Int.fdiv_eq_ediv_of_nonneg _ (Int.natCast_nonneg _)];rfl
variable {α β γ δ:Type}{u:α→Option (R3 α β γ)}
theorem jz {e:Ty}{xs:List e.T}{i:Nat}(h:i<List.length xs):rd e xs i=xs[i]:=by
 unfold rd
 exact (List.getElem_eq_getD _).symm
theorem uL (st:Nat→α){n:Nat}{y:β}(hs:∀ j,j<n→u (st j)=some (.next (st (j+1))))(he:u (st n)=some (.out y)) :
  ∀ (k fuel:Nat),k≤n→n-k<fuel→iter fuel u (st k)=some (.inl y)
 | k,0,_,h=>by omega
 | k,fuel+1,hk,h=>by
  rcases Nat.lt_or_ge k n with hlt|hge
  ·rw[br (hs k hlt)]
   exact uL st hs he (k+1) fuel (by omega) (by omega)
  ·have:k=n:=by omega
   subst this
   exact bJ he
theorem pU (st:Nat→α){n:Nat}{y:γ}(hs:∀ j,j<n→u (st j)=some (.next (st (j+1))))(he:u (st n)=some (.ret y)) :
  ∀ (k fuel:Nat),k≤n→n-k<fuel→iter fuel u (st k)=some (.inr y)
 | k,0,_,h=>by omega
 | k,fuel+1,hk,h=>by
  rcases Nat.lt_or_ge k n with hlt|hge
  ·rw[br (hs k hlt)]
   exact pU st hs he (k+1) fuel (by omega) (by omega)
  ·have:k=n:=by omega
   subst this
   exact eP he
theorem vN (st:Nat→α)(p:Nat→Bool){n:Nat}{y:β}{z:γ}(hs:∀ j,j<n→u (st j)=cond (p j) (some (.ret z)) (some (.next (st (j+1)))))(he:u (st n)=some (.out y)) :
  ∀ (k fuel:Nat),k≤n→n-k<fuel→iter fuel u (st k)=some (cond ((List.range' k (n-k)).any p) (.inr z) (.inl y))
 | k,0,_,h=>by omega
 | k,fuel+1,hk,h=>by
  rcases Nat.lt_or_ge k n with hlt|hge
  ·have e:n-k=(n-(k+1))+1:=by omega
   rw[e,List.range'_succ,List.any_cons]
   have h1:=hs k hlt
   cases hp:p k with
   | true=>rw[hp] at h1;rw[eP h1];rfl
   | false=>
    rw[hp] at h1
    rw[br h1,vN st p hs he (k+1) fuel (by omega) (by omega)]
    rfl
  ·have:k=n:=by omega
   subst this
   rw[Nat.sub_self,bJ he];rfl
theorem iU (l:List δ)(q:δ→Bool)(st:Nat→α)(r:Nat→γ){y:β}(hs:∀ j (h:j<l.length),u (st j)=cond (q l[j]) (some (.ret (r j))) (some (.next (st (j+1)))))(he:u (st l.length)=some (.out y)){fuel:Nat}(hf:l.length<fuel) :
  iter fuel u (st 0)=some (if l.findIdx q<l.length then .inr (r (l.findIdx q)) else .inl y):=by
 by_cases hlt:l.findIdx q<l.length
 ·rw[if_pos hlt]
  refine pU st (n:=l.findIdx q) (fun j hj=>?_) ?_ 0 fuel (Nat.zero_le _) (by omega)
  ·rw[hs j (by omega)]
   have:q (l[j]'(by omega))=false:=by simpa using List.not_of_lt_findIdx hj
   rw[this];rfl
  ·rw[hs _ hlt]
   have:q (l[l.findIdx q]'hlt)=true:=List.findIdx_getElem
   rw[this];rfl
 ·rw[if_neg hlt]
  refine uL st (n:=l.length) (fun j hj=>?_) he 0 fuel (Nat.zero_le _) (by omega)
  rw[hs j hj]
  have:q (l[j]'(by omega))=false:=by simpa using List.not_of_lt_findIdx (p:=q) (xs:=l) (i:=j) (by omega)
  rw[this];rfl
theorem jG {l m:List δ}[DecidableEq δ](hl:l.length=m.length)(p:Nat→Bool)(hp:∀ j (h:j<l.length),p j = !decide (l[j]=m[j]'(by omega))):(List.range' 0 (l.length-0)).any p = !decide (l=m):=by
 by_cases h:l=m
 ·subst h
  rw[decide_eq_true rfl]
  simp only[Bool.not_true,List.any_eq_false]
  intro j hj
  have hj:=List.mem_range'_1.1 hj
  rw[hp j (by omega)]
  simp
 ·rw[decide_eq_false h]
  simp only[Bool.not_false,List.any_eq_true]
  apply Classical.byContradiction
  intro hn
  apply h
  apply List.ext_getElem hl
  intro j h1 h2
  apply Classical.byContradiction
  intro hne
  exact hn ⟨j,List.mem_range'_1.2 (by omega),by rw[hp j h1];simp[hne]⟩
end Go.Sy
namespace Go.Proofs.Zz
open Go Go.Sy
set_option linter.unusedSimpArgs false
set_option linter.unusedVariables false
abbrev LT:=Int×(Int×(Int×(Int×Int)))
abbrev HT:=Int×(Int×Int)
abbrev DT:=(Int×Int)×((Int×Int)×(Int×(Int×(Int×Int))))
abbrev PT:=Int×(Int×(Int×Bool))
abbrev ST:=DT×(PT×(Int×(List HT×(List LT×List HT))))
noncomputable instance:DecidableEq ST:=fun _ _=>Classical.propDecidable _
abbrev Sz {α:Type}(l:List α):Prop:=l.length≤9223372036854775807
theorem fe (j:Nat):decide (0≤(j:Int))=true:=decide_eq_true (Int.natCast_nonneg j)
theorem eO {j n:Nat}(h:j<n):decide ((j:Int)<(n:Int))=true:=decide_eq_true (by omega)
theorem nG (n:Nat):decide ((n:Int)<(n:Int))=false:=decide_eq_false (by omega)
theorem nx {j n:Nat}(h:j<n)(hn:n≤9223372036854775807):IntKind.wrap .i64 ((j:Int)+1)=((j+1:Nat):Int):=by rw[bN (by omega) (by omega)];omega
theorem UK {l:List LT}{j:Nat}(h:j<l.length):rd (.pair (.int .i64) (.pair (.int .i64) (.pair (.int .i64) (.pair (.int .i64) (.int .i64))))) l j=l[j]:=jz h
theorem Io {l:List HT}{j:Nat}(h:j<l.length):rd (.pair (.int .i64) (.pair (.int .i64) (.int .i64))) l j=l[j]:=jz h
theorem ZP {l:List Int}{j:Nat}(h:j<l.length):rd (.int .i64) l j=l[j]:=jz h
theorem rdB {l:List Int}{j:Nat}(h:j<l.length):rd (.int .u8) l j=l[j]:=jz h
theorem tJ (p q:Prop)[Decidable p][Decidable q]:(decide p&&decide q)=decide (p∧q):=by simp
def rS (k:Int):Int:=((2 ^ (32-k).toNat:Nat):Int)
def kT (b k:Int):Prop:=0≤k∧k≤32∧0≤b∧b<4294967296∧b % rS k=0
instance (b k:Int):Decidable (kT b k):=by unfold kT;infer_instance
theorem tg (k:Int):1≤rS k:=by unfold rS;have:1≤2 ^ (32-k).toNat:=Nat.one_le_two_pow;omega
theorem EQ {k:Int}(h:0≤k):rS k≤4294967296:=by
 unfold rS
 have:2 ^ (32-k).toNat≤2 ^ 32:=Nat.pow_le_pow_right (by omega) (by omega)
 omega
theorem LW {k:Int}(h0:0≤k)(h1:k≤32):IntKind.wrap .i64 (1 * ((2:Int) ^ ((min (Int.toNat (IntKind.wrap .i64 (32-k))) 64):Nat)))=rS k:=by
 rw[bN (show -9223372036854775808≤32-k by omega) (by omega),Nat.min_eq_left (by omega)]
 have:=EQ h0
 have:=tg k
 have e:(1:Int) * ((2:Int) ^ (32-k).toNat)=rS k:=by simp[rS]
 rw[e,bN (by omega) (by omega)]
def b7 (b k:Int):Int:=if kT b k then rS k else 0
theorem lz (b k:Int):0≤b7 b k∧b7 b k≤4294967296:=by
 unfold b7
 split
 ·rename_i h
  have:=tg k
  have:=EQ h.1
  omega
 ·omega
theorem Rw {k:Int}(h:0≤k):(4294967296:Int) % rS k=0:=by
 unfold rS
 have:(2 ^ (32-k).toNat:Nat) ∣ 2 ^ 32:=Nat.pow_dvd_pow 2 (by omega)
 have h2:=Nat.mod_eq_zero_of_dvd this
 have:((2 ^ 32 % 2 ^ (32-k).toNat:Nat):Int)=0:=by rw[h2];rfl
 simpa using this
theorem wE {b N m:Int}(hm:0<m)(hb:b % m=0)(hN:N % m=0)(h:b<N):b+m≤N:=by
 obtain⟨x,rfl⟩:=Int.dvd_of_emod_eq_zero hb
 obtain⟨y,rfl⟩:=Int.dvd_of_emod_eq_zero hN
 have:x<y:=by
  rcases Int.lt_or_le x y with h'|h'
  ·exact h'
  ·have:=Int.mul_le_mul_of_nonneg_left h' (Int.le_of_lt hm);omega
 have:=Int.mul_le_mul_of_nonneg_left (show x+1≤y by omega) (Int.le_of_lt hm)
 rw[Int.mul_add,Int.mul_one] at this
 exact this
theorem NK {b k:Int}(h:kT b k):b+rS k≤4294967296:=
 wE (by have:=tg k;omega) h.2.2.2.2 (Rw h.1) h.2.2.2.1
def rK (b k a:Int):Int:=if kT b k∧b≤a∧a<b+rS k then a-b else -1
theorem xor_zero (a b:Nat):a ^^^ b=0↔a=b:=by
 constructor
 ·intro h
  have:(a ^^^ b) ^^^ b=0 ^^^ b:=by rw[h]
  rwa [Nat.xor_assoc,Nat.xor_self,Nat.xor_zero,Nat.zero_xor] at this
 ·intro h;rw[h,Nat.xor_self]
theorem KW {n a m:Nat}(hm:0<m)(hn:n % m=0):a / m=n / m↔n≤a∧a<n+m:=by
 obtain⟨x,rfl⟩:=Nat.dvd_of_mod_eq_zero hn
 rw[Nat.mul_div_cancel_left _ hm]
 constructor
 ·intro h
  have h1:=Nat.div_mul_le_self a m
  have h2:=Nat.lt_div_mul_add hm (a:=a)
  rw[h] at h1 h2
  rw[Nat.mul_comm m x]
  omega
 ·intro ⟨h1,h2⟩
  rw[Nat.mul_comm m x] at h1 h2
  rw[Nat.div_eq_iff hm]
  constructor
  ·omega
  ·omega
def xm (b k b' k':Int):Prop:=kT b k∧kT b' k'∧((b≤b'∧b'<b+rS k)∨(b'≤b∧b<b'+rS k'))
instance (b k b' k':Int):Decidable (xm b k b' k'):=by unfold xm;infer_instance
theorem Ce (b k a:Int):rK b k a ≠ -1↔kT b k∧b≤a∧a<b+rS k:=by
 unfold rK
 split
 ·rename_i h;constructor
  ·exact fun _=>h
  ·intro _;omega
 ·rename_i h;constructor
  ·exact fun h'=>absurd rfl h'
  ·exact fun h'=>absurd h' h
def JI (x y:Int):Int:=(x-1) / y+1
def J4 (D:DT):Int:=b7 D.1.1 D.1.2
def og (D:DT):Int:=b7 D.2.1.1 D.2.1.2
abbrev Fj (D:DT):Int:=D.2.2.1
abbrev Bl (D:DT):Int:=D.2.2.2.1
abbrev jj (D:DT):Int:=D.2.2.2.2.1
abbrev Eb (D:DT):Int:=D.2.2.2.2.2
def oq (D:DT):Int:=JI (J4 D) (og D)
def each (D:DT):Int:=(Bl D-Fj D+1-jj D) / oq D
def Aa (D:DT):Int:=jj D / Eb D
structure ij (D:DT):Prop where
 x1:1≤J4 D
 x2:J4 D≤32
 y1:1≤og D
 y2:og D≤4
 meet:¬ xm D.1.1 D.1.2 D.2.1.1 D.2.1.2
 Y3:1≤Fj D
 lo2:Fj D≤Bl D
 hi:Bl D≤65535
 g1:0≤jj D
 g2:jj D≤Bl D-Fj D
 h1:1≤Eb D
 h2:Eb D≤65535
 blk:Aa D≤8
 sh:oq D≤Bl D-Fj D+1-jj D
noncomputable instance (D:DT):Decidable (ij D):=Classical.propDecidable _
section
variable {D:DT}
theorem ij.PG (F:ij D):1≤oq D∧oq D≤32:=by
 unfold oq JI
 have h1:0≤(J4 D-1) / og D:=Int.ediv_nonneg (by have:=F.x1;omega) (by have:=F.y1;omega)
 have h2:(J4 D-1) / og D≤J4 D-1:=Int.ediv_le_self _ (by have:=F.x1;omega)
 have:=F.x2
 omega
theorem ij.LR (F:ij D):1≤each D∧oq D * each D≤Bl D-Fj D+1-jj D:=by
 have hr:=F.PG
 have hs:=F.sh
 unfold each
 generalize oq D=n at hr hs ⊢
 refine⟨?_,Int.mul_ediv_self_le (by omega)⟩
 exact (Int.le_ediv_iff_mul_le (by omega)).2 (by omega)
def jt (D:DT)(sub:Int):Int:=Fj D+sub % oq D * each D
def KK (D:DT)(sub:Int):HT:=(sub / oq D,(jt D sub,jt D sub+each D-1))
def Ab (D:DT)(sub:Int):Prop:=ij D∧0≤sub∧sub<J4 D
noncomputable instance (sub:Int):Decidable (Ab D sub):=Classical.propDecidable _
theorem ij.base (F:ij D){sub:Int}(h0:0≤sub)(h1:sub<J4 D) :
  0≤sub / oq D∧sub / oq D<og D∧Fj D≤jt D sub∧jt D sub+each D-1≤Bl D-jj D∧0≤sub % oq D * each D:=by
 have hr:=F.PG
 have he:=F.LR
 have hx:=F.x2
 have hy1:=F.y1
 have hy2:=F.y2
 have hxy:J4 D≤og D * oq D:=by
  unfold oq JI
  generalize J4 D=x at h1 hx ⊢
  generalize og D=y at hy1 hy2 ⊢
  have:y=1∨y=2∨y=3∨y=4:=by omega
  rcases this with rfl|rfl|rfl|rfl<;>omega
 unfold jt
 generalize oq D=n at hr he hxy ⊢
 generalize each D=w at he ⊢
 have m0:=Int.emod_nonneg sub (show n≠0 by omega)
 have m1:=Int.emod_lt_of_pos sub (show 0<n by omega)
 have k0:0≤sub % n * w:=Int.mul_nonneg m0 (by omega)
 have k1:(sub % n+1) * w≤n * w:=Int.mul_le_mul_of_nonneg_right (by omega) (by omega)
 rw[Int.add_mul,Int.one_mul] at k1
 refine⟨Int.ediv_nonneg h0 (by omega),Int.ediv_lt_of_lt_mul (by omega) (by omega),by omega,by omega,k0⟩
def rN (D:DT)(at' blk:Int):Prop:=ij D∧(0≤at'∧at'<og D)∧0≤blk∧blk<Aa D
noncomputable instance (at' blk:Int):Decidable (rN D at' blk):=Classical.propDecidable _
def Yc (D:DT)(at' blk:Int):HT:=(at',(Bl D-jj D+1+blk * Eb D,Bl D-jj D+1+blk * Eb D+Eb D-1))
theorem ij.block (F:ij D){blk:Int}(h0:0≤blk)(h1:blk<Aa D):0≤blk * Eb D∧blk * Eb D+Eb D≤jj D:=by
 have hh:=F.h1
 have k1:(blk+1) * Eb D≤Aa D * Eb D:=Int.mul_le_mul_of_nonneg_right (by omega) (by omega)
 have k2:Aa D * Eb D≤jj D:=Int.ediv_mul_le _ (by omega)
 rw[Int.add_mul,Int.one_mul] at k1
 exact⟨Int.mul_nonneg h0 (by omega),by omega⟩
end
def hasB (p:HT)(at':Int):Bool:=decide (0≤p.1)&&(decide (p.1≤4)&&(decide (1≤p.2.1)&&(decide (p.2.1≤4)&&(decide (p.1≤at')&&decide (at'<p.1+p.2.1)))))
def iL (p q:HT):Bool:=decide (p.1<q.1+q.2.1)&&decide (q.1<p.1+p.2.1)
def iJ (p:HT)(out:Int):Prop:=0≤p.1∧1≤p.2.1∧p.1<out∧p.2.1≤out-p.1∧0≤p.2.2∧p.2.2<2
instance (p:HT)(out:Int):Decidable (iJ p out):=by unfold iJ;infer_instance
structure cv (l:List HT)(out:Int):Prop where
 YS:0≤out
 UO:out≤4
 len:l.length≤3
 fits:∀ p∈l,iJ p out
 apart:l.Pairwise fun p q=>iL q p=false
noncomputable instance (l:List HT)(out:Int):Decidable (cv l out):=Classical.propDecidable _
def yf (P:List HT)(at':Int):Int:=if P.findIdx (fun p=>hasB p at')<P.length then ((P.findIdx (fun p=>hasB p at'):Nat):Int) else -1
def ZU (P:List HT)(at':Int):Bool:=P.any fun p=>hasB p at'
theorem oM {α:Type}(l:List α)(q:α→Bool):((if l.findIdx q<l.length then ((l.findIdx q:Nat):Int) else -1) = -1)↔l.any q=false:=by
 have e:l.findIdx q<l.length↔∃ x,x∈l∧q x=true:=List.findIdx_lt_length
 split
 ·rename_i h
  have:l.any q=true:=by rw[List.any_eq_true];exact e.1 h
  rw[this];constructor
  ·intro h;omega
  ·intro h;cases h
 ·rename_i h
  have:l.any q=false:=by
   cases hb:l.any q with
   | false=>rfl
   | true=>rw[List.any_eq_true] at hb;exact absurd (e.2 hb) h
  rw[this];simp
theorem sL (P:List HT)(at':Int):(yf P at' = -1)↔ZU P at'=false:=oM P _
def wh (p:PT):Prop:=(1≤p.1∧p.1≤8)∧(1≤p.2.1∧p.2.1≤1048576)∧0≤p.2.2.1∧p.2.2.1≤1048576
instance (p:PT):Decidable (wh p):=by unfold wh;infer_instance
def B6 (x1 x2 y1 y2:Int):Prop:=x1<y1∨(x1=y1∧x2<y2)
instance (x1 x2 y1 y2:Int):Decidable (B6 x1 x2 y1 y2):=by unfold B6;infer_instance
def yR (x y:LT):Prop:=B6 x.2.1 x.2.2.1 y.2.1 y.2.2.1
def oD (x y:HT):Prop:=B6 x.1 x.2.1 y.1 y.2.1
instance (x y:LT):Decidable (yR x y):=by unfold yR;infer_instance
instance (x y:HT):Decidable (oD x y):=by unfold oD;infer_instance
theorem xu {a b c d e f:Int}(h1:B6 a b c d)(h2:B6 c d e f):B6 a b e f:=by unfold B6 at *;omega
def cnt (L:List LT)(sub:Int):Nat:=L.countP fun x=>decide (x.1=sub)
abbrev Ee (a b:Int):LT→Bool:=fun x=>decide (x.2.1=a)&&decide (x.2.2.1=b)
def ir (L:List LT)(a b:Int):Int:=if L.findIdx (Ee a b)<L.length then ((L.findIdx (Ee a b):Nat):Int) else -1
def wD (L:List LT)(a b:Int):Bool:=L.any (Ee a b)
theorem dU (L:List LT)(a b:Int):(ir L a b = -1)↔wD L a b=false:=oM L _
structure ng (D:DT)(p:PT)(now:Int)(P:List HT)(x:LT):Prop where
 sub:Ab D x.1
 blk:rN D x.2.1 x.2.2.1
 Z1:ZU P x.2.1=true
 pair:p.2.2.2=true→x.1 / oq D=x.2.1
 Xi:0≤x.2.2.2.1
 XF:x.2.2.2.1≤x.2.2.2.2
 Y5:x.2.2.2.2≤now
 idle:now-p.2.1<x.2.2.2.2
structure bK (D:DT)(p:PT)(now:Int)(P:List HT)(L:List LT):Prop where
 each:∀ x∈L,ng D p now P x
 Nq:∀ x∈L,((cnt L x.1:Nat):Int)≤p.1
 Pn:L.Pairwise yR
structure vU (D:DT)(now:Int)(L:List LT)(x:HT):Prop where
 blk:rN D x.1 x.2.1
 Yf:now+1≤x.2.2
 Xh:x.2.2≤now+1048576
 free:wD L x.1 x.2.1=false
structure cG (D:DT)(now:Int)(L:List LT)(H:List HT):Prop where
 each:∀ x∈H,vU D now L x
 Pn:H.Pairwise oD
structure bR (s:ST):Prop where
 fit:ij s.1
 pol:wh s.2.1
 Yr:0≤s.2.2.1
 YA:s.2.2.1≤1073741824
 HV:cv s.2.2.2.1 (og s.1)
 Wg:bK s.1 s.2.1 s.2.2.1 s.2.2.2.1 s.2.2.2.2.1
 len:s.2.2.2.2.1.length≤32
 J7:cG s.1 s.2.2.1 s.2.2.2.2.1 s.2.2.2.2.2
noncomputable instance (s:ST):Decidable (bR s):=Classical.propDecidable _
noncomputable instance (D:DT)(p:PT)(now:Int)(P:List HT)(L:List LT):Decidable (bK D p now P L):=Classical.propDecidable _
noncomputable instance (D:DT)(now:Int)(L:List LT)(H:List HT):Decidable (cG D now L H):=Classical.propDecidable _
theorem bX {α:Type}{l:List α}{j:Nat}(h:j<l.length):l.take (j+1)=l.take j++[l[j]]:=by rw[List.take_succ_eq_append_getElem h]
theorem tO {α:Type}{r:α→α→Prop}(tr:∀ a b c,r a b→r b c→r a c){l:List α}{j:Nat}(h:j<l.length)(hp:(l.take j).Pairwise r) :
  (l.take (j+1)).Pairwise r↔∀ (h0:0<j),r (l[j-1]'(by omega)) l[j]:=by
 rw[bX h,List.pairwise_append]
 constructor
 ·intro ⟨_,_,h3⟩ h0
  refine h3 _ ?_ _ (by simp)
  rw[List.mem_iff_getElem]
  exact⟨j-1,by rw[List.length_take];omega,by rw[List.getElem_take]⟩
 ·intro h3
  refine⟨hp,by simp,fun a ha b hb=>?_⟩
  rw[List.mem_singleton] at hb
  subst hb
  obtain⟨i,hi,rfl⟩:=List.mem_iff_getElem.1 ha
  rw[List.length_take] at hi
  rw[List.getElem_take]
  have h0:0<j:=by omega
  by_cases e:i=j-1
  ·subst e;exact h3 h0
  ·refine tr _ _ _ ?_ (h3 h0)
   have:=(List.pairwise_iff_getElem.1 hp) i (j-1) (by rw[List.length_take];omega) (by rw[List.length_take];omega) (by omega)
   rwa [List.getElem_take,List.getElem_take] at this
theorem xy (x y z:LT)(h1:yR x y)(h2:yR y z):yR x z:=xu h1 h2
theorem wO (x y z:HT)(h1:oD x y)(h2:oD y z):oD x z:=xu h1 h2
theorem ux (M:List LT)(x:LT)(s:Int):cnt (M++[x]) s=cnt M s+(if x.1=s then 1 else 0):=by
 unfold cnt
 rw[List.countP_append,List.countP_singleton]
 by_cases h:x.1=s<;>simp[h]
section
variable {D:DT}{p:PT}{now:Int}{P:List HT}{L:List LT}{H:List HT}
theorem bK.nil:bK D p now P []:=⟨by simp,by simp,by simp⟩
theorem bK.take (h:bK D p now P L)(j:Nat):bK D p now P (L.take j):=
 ⟨fun x hx=>h.each x (List.mem_of_mem_take hx),fun x hx=>by
  have h1:=h.Nq x (List.mem_of_mem_take hx)
  have h2:cnt (L.take j) x.1≤cnt L x.1:=(List.take_sublist j L).countP_le
  omega,h.Pn.sublist (List.take_sublist j L)⟩
theorem bK.snoc {j:Nat}(hj:j<L.length)(h:bK D p now P (L.take j)) :
  bK D p now P (L.take (j+1))↔ng D p now P L[j]∧((cnt (L.take j) L[j].1+1:Nat):Int)≤p.1∧∀ (h0:0<j),yR (L[j-1]'(by omega)) L[j]:=by
 have hmem:L[j]∈L.take (j+1):=by rw[bX hj];exact List.mem_append.2 (.inr (List.mem_singleton.2 rfl))
 constructor
 ·intro k
  refine⟨k.each _ hmem,?_,(tO (r:=yR) @xy hj h.Pn).1 k.Pn⟩
  have:=k.Nq _ hmem
  rw[bX hj,ux,if_pos rfl] at this
  exact this
 ·intro ⟨k1,k2,k3⟩
  refine⟨fun x hx=>?_,fun x hx=>?_,(tO (r:=yR) @xy hj h.Pn).2 k3⟩
  ·rw[bX hj] at hx
   rcases List.mem_append.1 hx with hx|hx
   ·exact h.each x hx
   ·rw[List.mem_singleton] at hx;rw[hx];exact k1
  ·rw[bX hj,ux]
   rw[bX hj] at hx
   split
   ·rename_i e;rw[← e];omega
   ·rename_i e
    rcases List.mem_append.1 hx with hx|hx
    ·exact h.Nq x hx
    ·rw[List.mem_singleton] at hx;rw[hx] at e;exact absurd rfl e
theorem cG.nil:cG D now L []:=⟨by simp,by simp⟩
theorem cG.take (h:cG D now L H)(j:Nat):cG D now L (H.take j):=
 ⟨fun x hx=>h.each x (List.mem_of_mem_take hx),h.Pn.sublist (List.take_sublist j H)⟩
theorem cG.snoc {j:Nat}(hj:j<H.length)(h:cG D now L (H.take j)) :
  cG D now L (H.take (j+1))↔vU D now L H[j]∧∀ (h0:0<j),oD (H[j-1]'(by omega)) H[j]:=by
 have hmem:H[j]∈H.take (j+1):=by rw[bX hj];exact List.mem_append.2 (.inr (List.mem_singleton.2 rfl))
 constructor
 ·intro k
  exact⟨k.each _ hmem,(tO (r:=oD) @wO hj h.Pn).1 k.Pn⟩
 ·intro ⟨k1,k3⟩
  refine⟨fun x hx=>?_,(tO (r:=oD) @wO hj h.Pn).2 k3⟩
  rw[bX hj] at hx
  rcases List.mem_append.1 hx with hx|hx
  ·exact h.each x hx
  ·rw[List.mem_singleton] at hx;rw[hx];exact k1
end
theorem Fi {α X Y Z:Type}{u:X→Option (R3 X Y Z)}(del:α→Bool)(st:Nat→Nat→List α→X)(out:Nat→List α→Y)(N:Nat)
  (hstep:∀ i j (l:List α) (h:j<l.length) (hi:i<j),l.length=N→u (st i j l)=some (.next (if del l[j]=true then st i (j+1) l else st (i+1) (j+1) (l.set i l[j]))))
  (hout:∀ i (l:List α),i<l.length→u (st i l.length l)=some (.out (out i l))) :
  ∀ (d i j:Nat) (l:List α) (fuel:Nat),l.length=N→j+d=l.length→i<j→d<fuel →
   ∃ k l',iter fuel u (st i j l)=some (.inl (out k l'))∧k=i+((l.drop j).filter fun x=>!del x).length∧l'.take k=l.take i++(l.drop j).filter (fun x=>!del x)∧l'.length=l.length
 | _,i,j,l,0,_,_,_,hf=>by omega
 | 0,i,j,l,fuel+1,hN,hj,hi,hf=>by
  have e:j=l.length:=by omega
  subst e
  refine⟨i,l,bJ (hout i l (by omega)),by simp,by simp,rfl⟩
 | d+1,i,j,l,fuel+1,hN,hj,hi,hf=>by
  have hlt:j<l.length:=by omega
  have hs:=hstep i j l hlt hi hN
  have hdrop:l.drop j=l[j]::l.drop (j+1):=by rw[List.drop_eq_getElem_cons hlt]
  by_cases hd:del l[j]=true
  ·rw[if_pos hd] at hs
   obtain⟨k,l',h1,h2,h3,h4⟩:=Fi del st out N hstep hout d i (j+1) l fuel hN (by omega) (by omega) (by omega)
   refine⟨k,l',by rw[← h1];exact br hs,?_,?_,h4⟩
   ·rw[hdrop,List.filter_cons,if_neg (by simp[hd])];exact h2
   ·rw[hdrop,List.filter_cons,if_neg (by simp[hd])];exact h3
  ·rw[if_neg hd] at hs
   obtain⟨k,l',h1,h2,h3,h4⟩:=Fi del st out N hstep hout d (i+1) (j+1) (l.set i l[j]) fuel (by rw[List.length_set];exact hN) (by rw[List.length_set];omega) (by omega) (by omega)
   have hdr:(l.set i l[j]).drop (j+1)=l.drop (j+1):=List.drop_set_of_lt (by omega)
   rw[hdr] at h2 h3
   rw[List.length_set] at h4
   have htk:(l.set i l[j]).take (i+1)=l.take i++[l[j]]:=by
    rw[List.take_succ_eq_append_getElem (by rw[List.length_set];omega),List.take_set_of_le (Nat.le_refl i)]
    simp
   refine⟨k,l',by rw[← h1];exact br hs,?_,?_,h4⟩
   ·rw[hdrop,List.filter_cons,if_pos (by simp[hd]),List.length_cons];omega
   ·rw[hdrop,List.filter_cons,if_pos (by simp[hd]),h3,htk];simp
theorem GM {α X Y Z:Type}{u:X→Option (R3 X Y Z)}(del:α→Bool)(st:Nat→Nat→List α→X)(out:Nat→List α→Y)(l:List α)
  (hstep:∀ i j (m:List α) (h:j<m.length) (hi:i<j),m.length=l.length→u (st i j m)=some (.next (if del m[j]=true then st i (j+1) m else st (i+1) (j+1) (m.set i m[j]))))
  (hout:∀ i (m:List α),i<m.length→u (st i m.length m)=some (.out (out i m))) (hl:l.length<aA) (hi:l.findIdx del<l.length) :
  ∃ k l',iter aA u (st (l.findIdx del) (l.findIdx del+1) l)=some (.inl (out k l'))∧k=(l.filter fun x=>!del x).length∧l'.take k=l.filter (fun x=>!del x)∧l'.length=l.length:=by
 obtain⟨k,l',h1,h2,h3,h4⟩:=Fi del st out l.length hstep hout (l.length-(l.findIdx del+1)) (l.findIdx del) (l.findIdx del+1) l aA rfl (by omega) (by omega) (by omega)
 have hat:del l[l.findIdx del]=true:=List.findIdx_getElem (w:=hi)
 have hfirst:(l.take (l.findIdx del)).filter (fun x=>!del x)=l.take (l.findIdx del):=by
  rw[List.filter_eq_self]
  intro x hx
  obtain⟨j,hj,rfl⟩:=List.mem_iff_getElem.1 hx
  rw[List.length_take] at hj
  rw[List.getElem_take]
  have:=List.not_of_lt_findIdx (p:=del) (xs:=l) (i:=j) (by omega)
  simpa using this
 have hfil:l.filter (fun x=>!del x)=l.take (l.findIdx del)++(l.drop (l.findIdx del+1)).filter (fun x=>!del x):=by
  conv=>lhs;rw[← List.take_append_drop (l.findIdx del) l]
  rw[List.filter_append,hfirst,List.drop_eq_getElem_cons hi,List.filter_cons,if_neg (by simp[hat])]
 refine⟨k,l',h1,?_,by rw[h3,hfil],h4⟩
 rw[hfil,List.length_append,List.length_take]
 omega
theorem lt_eq (a b:LT):((decide (a.1=b.1))&&((decide (a.2.1=b.2.1))&&((decide (a.2.2.1=b.2.2.1))&&((decide (a.2.2.2.1=b.2.2.2.1))&&((decide (a.2.2.2.2=b.2.2.2.2))&&true)))))=decide (a=b):=by
 obtain⟨a1,a2,a3,a4,a5⟩:=a
 obtain⟨b1,b2,b3,b4,b5⟩:=b
 rw[Bool.eq_iff_iff]
 simp[Prod.ext_iff]
theorem TF (a b:HT):((decide (a.1=b.1))&&((decide (a.2.1=b.2.1))&&((decide (a.2.2=b.2.2))&&true)))=decide (a=b):=by
 obtain⟨a1,a2,a3⟩:=a
 obtain⟨b1,b2,b3⟩:=b
 rw[Bool.eq_iff_iff]
 simp[Prod.ext_iff]
theorem bh {a b:Nat}(h:a≤b):decide ((a:Int)≤(b:Int))=true:=decide_eq_true (by omega)
def kL (x:LT):Int×Int:=(x.2.1,x.2.2.1)
def kH (x:HT):Int×Int:=(x.1,x.2.1)
def Zj (b c:Int×Int):Prop:=B6 b.1 b.2 c.1 c.2
instance (b c:Int×Int):Decidable (Zj b c):=by unfold Zj;infer_instance
section
variable {α:Type}{k:α→Int×Int}
abbrev kI (k:α→Int×Int)(b:Int×Int)(y:α):Bool:=decide (Zj b (k y))
def Db (k:α→Int×Int)(l:List α)(x:α):List α:=l.take (l.findIdx (kI k (k x)))++x::l.drop (l.findIdx (kI k (k x)))
theorem Dc (l:List α)(x:α):(Db k l x).length=l.length+1:=by
 have:l.findIdx (kI k (k x))≤l.length:=List.findIdx_le_length
 unfold Db
 simp only[List.length_append,List.length_take,List.length_cons,List.length_drop];omega
end
def ur (H:List HT)(now:Int):List HT:=H.filter fun x=>!decide (x.2.2≤now)
def w5 (H:List HT)(x:HT):List HT:=Db kH (H.filter fun y=>!decide (kH y=kH x)) x
def A9 (L:List LT)(x:LT):List LT×Bool:=if wD L x.2.1 x.2.2.1=true∨32≤L.length then (L,false) else (Db kL L x,true)
def EX (L:List LT)(a b:Int):List LT:=L.eraseIdx (L.findIdx (Ee a b))
def kV (L:List LT)(now:Int):List LT:=L.map fun x=>(x.1,(x.2.1,(x.2.2.1,(x.2.2.2.1,now))))
def dL (s:ST)(now:Int):ST:=(s.1,(s.2.1,(now,(s.2.2.2.1,(kV s.2.2.2.2.1 now,ur s.2.2.2.2.2 now)))))
def gw (s:ST)(now:Int):Prop:=bR s∧s.2.2.1≤now∧now≤1073741824
noncomputable instance (s:ST)(now:Int):Decidable (gw s now):=Classical.propDecidable _
noncomputable def settle (s:ST)(now:Int):ST×Bool:=if gw s now then (dL s now,true) else (s,false)
def ju (l:List LT):List Int:=Lib.compact ((l.map (·.2.1)).mergeSort fun x y=>decide (x≤y))
theorem oU (L:List LT)(now:Int):(kV L now).length=L.length:=by unfold kV;rw[List.length_map]
theorem Iq:∀ (l:List Int) (lo hi:Int),l.Pairwise (· < ·)→(∀ x∈l,lo≤x∧x<hi)→(l.length:Int)≤max 0 (hi-lo)
 | [],lo,hi,_,_=>by simp;omega
 | a::l,lo,hi,hp,hb=>by
  obtain⟨h1,h2⟩:=List.pairwise_cons.1 hp
  have ha:=hb a (by simp)
  have:=Iq l (a+1) hi h2 (fun x hx=>⟨by have:=h1 x hx;omega,(hb x (by simp[hx])).2⟩)
  rw[List.length_cons]
  omega
theorem bR.Vt {s:ST}(M:bR s):s.2.2.2.2.2.length≤32:=by
 have hb:∀ x∈s.2.2.2.2.2,(0≤x.1∧x.1<4)∧0≤x.2.1∧x.2.1<8:=fun x hx=>by
  have h:=(M.J7.each x hx).blk
  have:=M.fit.y2
  have:=M.fit.blk
  have h1:=h.2.1
  have h2:=h.2.2
  omega
 have:=Iq (s.2.2.2.2.2.map fun x=>8 * x.1+x.2.1) 0 32 (by
  rw[List.pairwise_map]
  have hp:=M.J7.Pn
  refine (List.pairwise_iff_forall_sublist.2 fun {x y} hs=>?_)
  have hlt:=List.pairwise_iff_forall_sublist.1 hp hs
  have hx:=hb x (hs.subset (by simp))
  have hy:=hb y (hs.subset (by simp))
  unfold oD B6 at hlt
  omega) (fun z hz=>by
  obtain⟨x,hx,rfl⟩:=List.mem_map.1 hz
  have:=hb x hx
  omega)
 rw[List.length_map] at this
 omega
abbrev ET:=Int×(Int×(Int×(Int×(Int×PT))))
def fK (n a b:Int):Prop:=a≤n∧n≤b
instance (n a b:Int):Decidable (fK n a b):=by unfold fK;infer_instance
def fE (k a b c:Int)(p:PT):Prop:=
 if k=0∨k=1 then fK a 0 31∧fK b 0 3∧fK c 0 7
 else if k=2 then fK a 0 3∧fK b 1 4∧fK c 0 0
 else if k=4 then fK a 0 2∧fK b 1 4∧fK c 0 0
 else if k=3∨k=5 then fK a 0 2∧fK b 0 0∧fK c 0 0
 else if k=6 then wh p∧fK a 0 0∧fK b 0 0∧fK c 0 0
 else False
instance (k a b c:Int)(p:PT):Decidable (fE k a b c p):=by unfold fE;infer_instance
def ef (e:ET):Prop:=fK e.2.1 0 1073741824∧(e.1≠6→e.2.2.2.2.2=(0,(0,(0,false))))∧fE e.1 e.2.2.1 e.2.2.2.1 e.2.2.2.2.1 e.2.2.2.2.2
instance (e:ET):Decidable (ef e):=by unfold ef;infer_instance
abbrev cj (P:List HT)(k:Int):HT:=P.getD k.toNat (0,(0,0))
def sW (P:List HT)(out but:Int)(p:HT):Int:=
 if ¬ iJ p out then 1
 else if (List.range P.length).any (fun j=>!decide ((j:Int)=but)&&iL p (P.getD j (0,(0,0))))=true then 11
 else if but = -1∧P.length=3 then 9 else 0
def Hi (busy:List Int)(p q:HT):Bool:=busy.any fun at'=>hasB p at' && !hasB q at'
noncomputable def D3 (P:List HT)(out a n:Int):List HT×Int:=
 if ¬ cv P out then (P,1)
 else if sW P out (-1) (a,(n,0))≠0 then (P,sW P out (-1) (a,(n,0)))
 else (P++[(a,(n,0))],0)
noncomputable def lB (P:List HT)(out k:Int):List HT×Int:=
 if ¬ cv P out then (P,1)
 else if k<0∨(P.length:Int)≤k then (P,5)
 else if (cj P k).2.2=1 then (P,11)
 else (P.set k.toNat ((cj P k).1,((cj P k).2.1,1)),0)
noncomputable def sg (P:List HT)(out k n:Int)(busy:List Int):List HT×Int:=
 if ¬ cv P out then (P,1)
 else if k<0∨(P.length:Int)≤k then (P,5)
 else if sW P out k ((cj P k).1,(n,(cj P k).2.2))≠0 then (P,sW P out k ((cj P k).1,(n,(cj P k).2.2)))
 else if Hi busy (cj P k) ((cj P k).1,(n,(cj P k).2.2))=true then (P,12)
 else (P.set k.toNat ((cj P k).1,(n,(cj P k).2.2)),0)
noncomputable def sD (P:List HT)(out k:Int)(busy:List Int):List HT×Int:=
 if ¬ cv P out then (P,1)
 else if k<0∨(P.length:Int)≤k then (P,5)
 else if (cj P k).2.2=0∨Hi busy (cj P k) (0,(0,0))=true then (P,12)
 else (P.eraseIdx k.toNat,0)
abbrev lP (t:ST)(P:List HT):ST:=(t.1,(t.2.1,(t.2.2.1,(P,(t.2.2.2.2.1,t.2.2.2.2.2)))))
abbrev YQ (t:ST)(L:List LT):ST:=(t.1,(t.2.1,(t.2.2.1,(t.2.2.2.1,(L,t.2.2.2.2.2)))))
abbrev Ka (t:ST)(L:List LT)(H:List HT):ST:=(t.1,(t.2.1,(t.2.2.1,(t.2.2.2.1,(L,H)))))
abbrev NO (t:ST)(p:PT):ST:=(t.1,(p,(t.2.2.1,(t.2.2.2.1,(t.2.2.2.2.1,t.2.2.2.2.2)))))
def I4 (t:ST)(r:List HT×Int):Option ST:=if r.2=0 then some (lP t r.1) else none
def J8 (t:ST)(e:ET):Option ST:=
 if ir t.2.2.2.2.1 e.2.2.2.1 e.2.2.2.2.1 = -1 then none
 else if (t.2.2.2.2.1.getD (ir t.2.2.2.2.1 e.2.2.2.1 e.2.2.2.2.1).toNat (0,(0,(0,(0,0))))).1≠e.2.2.1 then none
 else some (Ka t (EX t.2.2.2.2.1 e.2.2.2.1 e.2.2.2.2.1) (if 0<t.2.1.2.2.1 then w5 t.2.2.2.2.2 (e.2.2.2.1,(e.2.2.2.2.1,e.2.1+t.2.1.2.2.1)) else t.2.2.2.2.2))
noncomputable def CW (t:ST)(e:ET):Option ST:=
 if e.1=0 then (if (A9 t.2.2.2.2.1 (e.2.2.1,(e.2.2.2.1,(e.2.2.2.2.1,(e.2.1,e.2.1))))).2=true then some (YQ t (A9 t.2.2.2.2.1 (e.2.2.1,(e.2.2.2.1,(e.2.2.2.2.1,(e.2.1,e.2.1))))).1) else none)
 else if e.1=1 then J8 t e
 else if e.1=6 then some (NO t e.2.2.2.2.2)
 else if e.1=2 then I4 t (D3 t.2.2.2.1 (og t.1) e.2.2.1 e.2.2.2.1)
 else if e.1=3 then I4 t (lB t.2.2.2.1 (og t.1) e.2.2.1)
 else if e.1=4 then I4 t (sg t.2.2.2.1 (og t.1) e.2.2.1 e.2.2.2.1 (ju t.2.2.2.2.1))
 else I4 t (sD t.2.2.2.1 (og t.1) e.2.2.1 (ju t.2.2.2.2.1))
noncomputable def bG (s:ST)(e:ET):ST×Int:=
 if ¬ bR s∨¬ ef e then (s,1)
 else if ¬ gw s e.2.1 then (s,10)
 else match CW (dL s e.2.1) e with
  | none=>(s,2)
  | some t=>if bR t then (t,0) else (s,2)
noncomputable def pG (s:ST):List ET→ST×Int
 | []=>(s,0)
 | e::l=>if (bG s e).2=0 then pG (bG s e).1 l else (s,(bG s e).2)
noncomputable def dh (s:ST)(l:List ET):ST×Int:=if (pG s l).2=0 then pG s l else (s,(pG s l).2)
theorem xX {s:ST}{e:ET}(h:(bG s e).2≠0):(bG s e).1=s:=by
 unfold bG at h ⊢
 split
 ·rfl
 ·split
  ·rfl
  ·rename_i h1 h2
   rw[if_neg h1,if_neg h2] at h
   split
   ·rfl
   ·rename_i t ht
    rw[ht] at h
    simp only at h
    split
    ·rename_i hm;rw[if_pos hm] at h;exact absurd rfl h
    ·rfl
theorem qO {s:ST}{e:ET}(h:(bG s e).2=0):bR s∧ef e∧gw s e.2.1∧bR (bG s e).1∧CW (dL s e.2.1) e=some (bG s e).1:=by
 unfold bG at h ⊢
 split at h
 ·cases h
 ·rename_i h1
  split at h
  ·cases h
  ·rename_i h2
   rw[if_neg h1,if_neg h2]
   have hM:bR s:=Classical.not_not.1 fun k=>h1 (.inl k)
   have hE:ef e:=Classical.not_not.1 fun k=>h1 (.inr k)
   split at h
   ·cases h
   ·rename_i t ht
    split at h
    ·rename_i hm
     rw[ht]
     show bR s∧ef e∧gw s e.2.1∧bR (if bR t then (t,(0:Int)) else (s,2)).1∧some t=some (if bR t then (t,(0:Int)) else (s,2)).1
     rw[if_pos hm]
     exact⟨hM,hE,Classical.not_not.1 h2,hm,rfl⟩
    ·cases h
theorem Gi {t u:ST}{e:ET}(h:CW t e=some u):u.1=t.1∧u.2.2.1=t.2.2.1:=by
 unfold CW J8 I4 at h
 repeat' split at h
 all_goals first|(cases h;exact⟨rfl,rfl⟩)|cases h
def eg (n:Nat):List Nat:=if h:n<128 then [n] else (n % 128+128)::eg (n / 128)
termination_by n
decreasing_by omega
theorem gM {n:Nat}(h:n<128):eg n=[n]:=by rw[eg,dif_pos h]
theorem gx {n:Nat}(h:¬ n<128):eg n=(n % 128+128)::eg (n / 128):=by rw[eg,dif_neg h]
theorem Lv (n:Nat):1≤(eg n).length:=by
 by_cases h:n<128
 ·rw[gM h];simp
 ·rw[gx h];simp
theorem CH:∀ (k n:Nat),n<128 ^ (k+1)→(eg n).length≤k+1
 | 0,n,h=>by rw[gM (by simpa using h)];simp
 | k+1,n,h=>by
  by_cases h1:n<128
  ·rw[gM h1];simp
  ·rw[gx h1,List.length_cons]
   have:=CH k (n / 128) (by rw[Nat.pow_succ] at h;omega)
   omega
theorem xj {n:Nat}(h:n≤1099511627776):(eg n).length≤6:=CH 5 n (by omega)
def OR:Nat→Nat→List Nat→Option (Nat×Nat)
 | _,_,[]=>none
 | i,acc,c::r=>
  if 128≤c then OR (i+1) (acc+(c-128) * 2 ^ (7 * i)) r
  else if c=0∧0<i then none
  else if 1099511627776<acc+c * 2 ^ (7 * i) then none
  else some (acc+c * 2 ^ (7 * i),i+1)
def qp (l:List Nat):Option (Nat×Nat):=OR 0 0 (l.take 6)
theorem Wn (i:Nat):2 ^ (7 * (i+1))=128 * 2 ^ (7 * i):=by rw[Nat.mul_add,Nat.pow_add];omega
theorem Ql (r:List Nat):∀ (n i acc:Nat),(0<i→0<n)→acc+n * 2 ^ (7 * i)≤1099511627776→OR i acc (eg n++r)=some (acc+n * 2 ^ (7 * i),i+(eg n).length):=by
 intro n
 induction n using Nat.strongRecOn with
 | ind n ih=>
  intro i acc hi hm
  by_cases h:n<128
  ·rw[gM h]
   simp only[List.cons_append,List.nil_append,OR,List.length_singleton]
   rw[if_neg (by omega),if_neg (by intro k;have:=hi k.2;omega),if_neg (by omega)]
  ·rw[gx h]
   simp only[List.cons_append,OR,List.length_cons]
   rw[if_pos (by omega)]
   have e:acc+(n % 128+128-128) * 2 ^ (7 * i)+n / 128 * 2 ^ (7 * (i+1))=acc+n * 2 ^ (7 * i):=by
    rw[Wn,Nat.add_sub_cancel,Nat.add_assoc,← Nat.mul_assoc,← Nat.add_mul]
    congr 2
    omega
   rw[ih (n / 128) (by omega) (i+1) _ (fun _=>by omega) (by rw[e];exact hm),e]
   congr 2
   omega
theorem OZ:∀ (l:List Nat) (i acc v k:Nat),(∀ c∈l,c<256)→OR i acc l=some (v,k) →
  ∃ n r,l=eg n++r∧v=acc+n * 2 ^ (7 * i)∧k=i+(eg n).length∧(0<i→0<n)∧v≤1099511627776
 | [],_,_,_,_,_,h=>by simp[OR] at h
 | c::r,i,acc,v,k,hb,h=>by
  simp only[OR] at h
  split at h
  ·rename_i hc
   obtain⟨n,r',e1,e2,e3,e4,e5⟩:=OZ r (i+1) _ v k (fun c h=>hb c (by simp[h])) h
   have hn:=e4 (by omega)
   have hc2:=hb c (by simp)
   refine⟨(c-128)+128 * n,r',?_,?_,?_,fun _=>by omega,e5⟩
   ·rw[gx (by omega),List.cons_append,e1]
    congr 2
    ·omega
    ·rw[show (c-128+128 * n) / 128=n from by omega]
   ·rw[e2,Wn,Nat.add_mul,Nat.add_assoc]
    congr 2
    rw[Nat.mul_comm 128 n,Nat.mul_assoc]
   ·rw[e3,gx (n:=c-128+128 * n) (by omega),List.length_cons,show (c-128+128 * n) / 128=n from by omega]
    omega
  ·split at h
   ·cases h
   ·split at h
    ·cases h
    ·rename_i h1 h2 h3
     cases h
     refine⟨c,r,?_,rfl,?_,fun hi=>?_,by omega⟩
     ·rw[gM (by omega)];rfl
     ·rw[gM (by omega)];rfl
     ·rcases Nat.eq_zero_or_pos c with h0|h0
      ·exact absurd ⟨h0,hi⟩ h2
      ·exact h0
theorem Oy (n:Nat)(h:n≤1099511627776)(r:List Nat):qp (eg n++r)=some (n,(eg n).length):=by
 unfold qp
 rw[List.take_append,List.take_of_length_le (xj h),Ql _ n 0 0 (fun h=>by omega) (by omega)]
 simp
theorem j7 {l:List Nat}{n k:Nat}(hb:∀ c∈l,c<256)(h:qp l=some (n,k)):n≤1099511627776∧k=(eg n).length∧l=eg n++l.drop k:=by
 obtain⟨m,r,e1,e2,e3,_,e5⟩:=OZ _ 0 0 n k (fun c hc=>hb c (List.mem_of_mem_take hc)) h
 have hm:n=m:=by rw[e2];simp
 subst hm
 refine⟨e5,by omega,?_⟩
 conv=>lhs;rw[← List.take_append_drop 6 l,e1]
 rw[show k=(eg n).length by omega,List.append_assoc]
 congr 1
 conv=>rhs;rw[← List.take_append_drop 6 l,e1,List.append_assoc,List.drop_left' rfl]
def tf:Nat→List Nat→Option (List Nat)
 | _,[]=>some []
 | 0,_::_=>none
 | k+1,c::l=>match qp (c::l) with
  | none=>none
  | some (n,m)=>(tf k ((c::l).drop m)).map (n :: ·)
def flat (ns:List Nat):List Nat:=ns.flatMap eg
theorem I5 (n:Nat)(ns:List Nat):flat (n::ns)=eg n++flat ns:=rfl
theorem nZ:∀ (k:Nat) (l ns:List Nat),(∀ c∈l,c<256)→tf k l=some ns→ns.length≤k∧(∀ n∈ns,n≤1099511627776)∧l=flat ns
 | k,[],ns,_,h=>by
  have:ns=[]:=by cases k<;>(simp[tf] at h;exact h)
  subst this;simp[flat]
 | 0,c::l,ns,_,h=>by simp[tf] at h
 | k+1,c::l,ns,hb,h=>by
  rw[tf] at h
  split at h
  ·cases h
  ·rename_i n m hg
   obtain⟨h1,h2,h3⟩:=j7 hb hg
   rw[Option.map_eq_some_iff] at h
   obtain⟨ms,h4,rfl⟩:=h
   obtain⟨g1,g2,g3⟩:=nZ k _ ms (fun x hx=>hb x (List.mem_of_mem_drop hx)) h4
   refine⟨by simp;exact g1,fun x hx=>?_,?_⟩
   ·rcases List.mem_cons.1 hx with rfl|hx
    ·exact h1
    ·exact g2 x hx
   ·rw[I5,← g3];exact h3
def zz (d:Int):Nat:=if d<0 then (-2 * d-1).toNat else (2 * d).toNat
def qA (k:Nat):Int:=if k % 2=0 then ((k / 2:Nat):Int) else -((k / 2:Nat):Int)-1
theorem V7 (k:Nat):zz (qA k)=k:=by
 unfold qA zz
 split
 ·rw[if_neg (by omega)];omega
 ·rw[if_pos (by omega)];omega
def qR:Int→List Nat→List Nat
 | _,[]=>[]
 | a,x::r=>zz ((x:Int)-a)::qR x r
def kQ:Int→List Nat→Option (List Nat)
 | _,[]=>some []
 | a,k::r=>if k≤549755813888∧0≤a+qA k∧a+qA k<274877906944 then (kQ (a+qA k) r).map ((a+qA k).toNat :: ·) else none
theorem Hs:∀ (a:Int) (ks xs:List Nat),kQ a ks=some xs→ks=qR a xs∧∀ x∈xs,x<274877906944
 | _,[],xs,h=>by
  have:xs=[]:=by simp[kQ] at h;exact h
  subst this;exact⟨rfl,by simp⟩
 | a,k::r,xs,h=>by
  rw[kQ] at h
  split at h
  ·rename_i hc
   rw[Option.map_eq_some_iff] at h
   obtain⟨ys,h1,rfl⟩:=h
   obtain⟨g1,g2⟩:=Hs _ r ys h1
   have e:(((a+qA k).toNat:Nat):Int)=a+qA k:=by omega
   refine⟨?_,fun x hx=>?_⟩
   ·rw[qR,e,← g1,show a+qA k-a=qA k by omega,V7]
   ·rcases List.mem_cons.1 hx with rfl|hx
    ·omega
    ·exact g2 x hx
  ·cases h
def mg (n w:Nat):Nat:=(n * w+7) / 8
def ZN:Nat→Nat→List Nat
 | 0,_=>[]
 | k+1,v=>v % 256::ZN k (v / 256)
def l9:List Nat→Nat
 | []=>0
 | c::r=>c+256 * l9 r
def vW (w:Nat):List Nat→Nat
 | []=>0
 | n::r=>n+2 ^ w * vW w r
def JW (w:Nat):Nat→Nat→List Nat
 | 0,_=>[]
 | n+1,t=>t % 2 ^ w::JW w n (t / 2 ^ w)
theorem DM:∀ (b:List Nat),(∀ c∈b,c<256)→ZN b.length (l9 b)=b
 | [],_=>rfl
 | c::r,h=>by
  have hc:=h c (by simp)
  rw[List.length_cons,l9,ZN]
  congr 1
  ·omega
  ·rw[show (c+256 * l9 r) / 256=l9 r by omega]
   exact DM r (fun x hx=>h x (by simp[hx]))
theorem zx (w:Nat):∀ (n t:Nat),(JW w n t).length=n
 | 0,_=>rfl
 | n+1,t=>by rw[JW,List.length_cons,zx]
theorem Kb (w:Nat):∀ (n t:Nat),∀ x∈JW w n t,x<2 ^ w
 | 0,_,x,h=>by simp[JW] at h
 | n+1,t,x,h=>by
  rw[JW] at h
  rcases List.mem_cons.1 h with rfl|h
  ·exact Nat.mod_lt _ (Nat.two_pow_pos w)
  ·exact Kb w n _ x h
theorem NL (w:Nat):∀ (n t:Nat),t<2 ^ (w * n)→vW w (JW w n t)=t
 | 0,t,h=>by simp at h;subst h;rfl
 | n+1,t,h=>by
  rw[JW,vW,NL w n (t / 2 ^ w) (Nat.div_lt_of_lt_mul (by rw[← Nat.pow_add];rw[Nat.mul_add,Nat.mul_one,Nat.add_comm] at h;exact h)),Nat.mod_add_div]
def GI (w:Nat)(l:List Nat):List Nat:=ZN (mg l.length w) (vW w l)
def mO (w n:Nat)(b:List Nat):Option (List Nat):=if b.length=mg n w∧l9 b<2 ^ (w * n) then some (JW w n (l9 b)) else none
theorem ix {w n:Nat}{b l:List Nat}(hb:∀ c∈b,c<256)(h:mO w n b=some l):GI w l=b∧l.length=n∧∀ x∈l,x<2 ^ w:=by
 unfold mO at h
 split at h
 ·rename_i hc
  cases h
  refine⟨?_,zx w n _,Kb w n _⟩
  unfold GI
  rw[zx,NL w n _ hc.2,← hc.1,DM b hb]
 ·cases h
def yE (p:List Nat):List Nat:=eg p.length++p
def gB (b:List Nat):Option (List Nat×List Nat):=match qp b with
 | none=>none
 | some (n,k)=>if n≤b.length-k then some ((b.drop k).take n,(b.drop k).drop n) else none
theorem dI {b p r:List Nat}(hb:∀ c∈b,c<256)(h:gB b=some (p,r)):b=yE p++r∧p.length≤1099511627776∧(∀ c∈p,c<256)∧∀ c∈r,c<256:=by
 unfold gB at h
 split at h
 ·cases h
 ·rename_i n k hg
  obtain⟨h1,h2,h3⟩:=j7 hb hg
  split at h
  ·rename_i hn
   simp only[Option.some.injEq,Prod.mk.injEq] at h
   obtain⟨rfl,rfl⟩:=h
   have hl:((b.drop k).take n).length=n:=by rw[List.length_take,List.length_drop];omega
   refine⟨?_,by rw[hl];exact h1,fun c hc=>hb c (List.mem_of_mem_drop (List.mem_of_mem_take hc)),fun c hc=>hb c (List.mem_of_mem_drop (List.mem_of_mem_drop hc))⟩
   unfold yE
   rw[hl,List.append_assoc,List.take_append_drop]
   exact h3
  ·cases h
abbrev P5:=List Nat×(List Nat×(List Nat×(List Nat×List Nat)))
def lT (b:List Nat):Option (P5×List Nat):=
 (gB b).bind fun q0=>(gB q0.2).bind fun q1=>(gB q1.2).bind fun q2=>(gB q2.2).bind fun q3=>(gB q3.2).bind fun q4=>
  some ((q0.1,(q1.1,(q2.1,(q3.1,q4.1)))),q4.2)
def Rm (p:P5):List Nat:=yE p.1++(yE p.2.1++(yE p.2.2.1++(yE p.2.2.2.1++yE p.2.2.2.2)))
def aab (p:P5):Prop:=p.1.length≤1099511627776∧p.2.1.length≤1099511627776∧p.2.2.1.length≤1099511627776∧p.2.2.2.1.length≤1099511627776∧p.2.2.2.2.length≤1099511627776
theorem xL {b:List Nat}{p:P5}{r:List Nat}(hb:∀ c∈b,c<256)(h:lT b=some (p,r)) :
  b=Rm p++r∧aab p∧(∀ c∈p.1,c<256)∧(∀ c∈p.2.1,c<256)∧(∀ c∈p.2.2.1,c<256)∧(∀ c∈p.2.2.2.1,c<256)∧∀ c∈p.2.2.2.2,c<256:=by
 unfold lT at h
 simp only[Option.bind_eq_some_iff] at h
 obtain⟨⟨a0,r0⟩,h0,⟨a1,r1⟩,h1,⟨a2,r2⟩,h2,⟨a3,r3⟩,h3,⟨a4,r4⟩,h4,h5⟩:=h
 simp only[Option.some.injEq,Prod.mk.injEq] at h5
 obtain⟨rfl,rfl⟩:=h5
 obtain⟨e0,l0,b0,c0⟩:=dI hb h0
 obtain⟨e1,l1,b1,c1⟩:=dI c0 h1
 obtain⟨e2,l2,b2,c2⟩:=dI c1 h2
 obtain⟨e3,l3,b3,c3⟩:=dI c2 h3
 obtain⟨e4,l4,b4,c4⟩:=dI c3 h4
 refine⟨?_,⟨l0,l1,l2,l3,l4⟩,b0,b1,b2,b3,b4⟩
 rw[e0,e1,e2,e3,e4]
 unfold Rm
 simp only[List.append_assoc]
def Th (s:ST):List Int:=
 [s.1.1.1,s.1.1.2,s.1.2.1.1,s.1.2.1.2,s.1.2.2.1,s.1.2.2.2.1,s.1.2.2.2.2.1,s.1.2.2.2.2.2,s.2.1.1,s.2.1.2.1,s.2.1.2.2.1,(if s.2.1.2.2.2=true then 1 else 0),s.2.2.1,((s.2.2.2.2.1.length:Nat):Int),((s.2.2.2.2.2.length:Nat):Int)]
  ++ s.2.2.2.1.flatMap fun x=>[x.1,x.2.1,x.2.2]
def nums (s:ST):List Nat:=(Th s).map Int.toNat
def O6 (x:LT):Nat:=x.1.toNat * 32+(x.2.1.toNat * 8+x.2.2.1.toNat)
def L9 (x:HT):Nat:=x.1.toNat * 8+x.2.1.toNat
def Ge (s:ST):P5:=(flat (nums s),(GI 10 (s.2.2.2.2.1.map O6),(flat (qR 0 (s.2.2.2.2.1.map fun x=>x.2.2.2.1.toNat)),(GI 5 (s.2.2.2.2.2.map L9),flat (qR 0 (s.2.2.2.2.2.map fun x=>x.2.2.toNat))))))
def encS (s:ST):List Nat:=Rm (Ge s)
def Ad (s:ST):Prop:=∀ x∈s.2.2.2.2.1,x.2.2.2.2=s.2.2.1
def fX:List Nat→List HT
 | a::b::c::r=>((a:Int),((b:Int),(c:Int)))::fX r
 | _=>[]
def mA (now:Int):List Nat→List Nat→List LT
 | x::xs,f::fs=>(((x / 32:Nat):Int),(((x % 32 / 8:Nat):Int),(((x % 8:Nat):Int),((f:Int),now))))::mA now xs fs
 | _,_=>[]
def pJ:List Nat→List Nat→List HT
 | y::ys,t::ts=>(((y / 8:Nat):Int),(((y % 8:Nat):Int),(t:Int)))::pJ ys ts
 | _,_=>[]
abbrev gN (ns:List Nat)(i:Nat):Int:=((ns.getD i 0:Nat):Int)
def kK (ns whose fr which till:List Nat):ST:=
 (((gN ns 0,gN ns 1),((gN ns 2,gN ns 3),(gN ns 4,(gN ns 5,(gN ns 6,gN ns 7))))),((gN ns 8,(gN ns 9,(gN ns 10,decide (ns.getD 11 0=1)))),(gN ns 12,(fX (ns.drop 15),(mA (gN ns 12) whose fr,pJ which till)))))
def gh (w n:Nat)(b:List Nat):Option (List Nat):=if n≤400 then mO w n b else none
def nB (ns:List Nat):Bool:=decide (15≤ns.length)&&(decide ((ns.length-15) % 3=0)&&decide (ns.getD 11 0≤1))
def si (b:List Nat):Option (List Nat):=(tf 400 b).bind (kQ 0)
noncomputable def ofParts (p:P5):Option ST:=
 (tf 400 p.1).bind fun ns=>if nB ns=true then
  (gh 10 (ns.getD 13 0) p.2.1).bind fun whose=>(si p.2.2.1).bind fun fr=>(gh 5 (ns.getD 14 0) p.2.2.2.1).bind fun which=>(si p.2.2.2.2).bind fun till=>
   if fr.length=whose.length∧till.length=which.length∧bR (kK ns whose fr which till) then some (kK ns whose fr which till) else none
 else none
noncomputable def iD (b:List Nat):Option ST:=(lT b).bind fun q=>if q.2=[] then ofParts q.1 else none
theorem toNat_cast {x:Int}(h:0≤x):((x.toNat:Nat):Int)=x:=by omega
theorem om:∀ (n:Nat) (l:List Nat),l.length=3 * n→((fX l).flatMap fun x=>[x.1,x.2.1,x.2.2]).map Int.toNat=l∧(fX l).length=n
 | 0,[],_=>⟨rfl,rfl⟩
 | 0,_::_,h=>by simp at h
 | n+1,[],h=>by simp at h
 | n+1,[a],h=>by simp at h;omega
 | n+1,[a,b],h=>by simp at h;omega
 | n+1,a::b::c::r,h=>by
  obtain⟨h1,h2⟩:=om n r (by simp at h;omega)
  simp only[fX,List.flatMap_cons,List.cons_append,List.nil_append,List.map_cons,h1,Int.toNat_natCast,List.length_cons,h2,and_self]
theorem AY (now:Int):∀ (xs fs:List Nat),fs.length=xs.length→(mA now xs fs).map O6=xs∧(mA now xs fs).map (fun x=>x.2.2.2.1.toNat)=fs∧(mA now xs fs).length=xs.length∧∀ x∈mA now xs fs,x.2.2.2.2=now
 | [],[],_=>by simp[mA]
 | [],_::_,h=>by simp at h
 | _::_,[],h=>by simp at h
 | x::xs,f::fs,h=>by
  obtain⟨h1,h2,h3,h4⟩:=AY now xs fs (by simpa using h)
  refine⟨?_,?_,?_,fun y hy=>?_⟩
  ·simp only[mA,List.map_cons,h1]
   congr 1
   show (((x / 32:Nat):Int)).toNat * 32+((((x % 32 / 8:Nat):Int)).toNat * 8+(((x % 8:Nat):Int)).toNat)=x
   omega
  ·simp only[mA,List.map_cons,h2,Int.toNat_natCast]
  ·simp only[mA,List.length_cons,h3]
  ·simp only[mA] at hy
   rcases List.mem_cons.1 hy with rfl|hy
   ·rfl
   ·exact h4 y hy
theorem zJ:∀ (ys ts:List Nat),ts.length=ys.length→(pJ ys ts).map L9=ys∧(pJ ys ts).map (fun x=>x.2.2.toNat)=ts∧(pJ ys ts).length=ys.length
 | [],[],_=>by simp[pJ]
 | [],_::_,h=>by simp at h
 | _::_,[],h=>by simp at h
 | x::xs,f::fs,h=>by
  obtain⟨h1,h2,h3⟩:=zJ xs fs (by simpa using h)
  refine⟨?_,?_,?_⟩
  ·simp only[pJ,List.map_cons,h1]
   congr 1
   show (((x / 8:Nat):Int)).toNat * 8+(((x % 8:Nat):Int)).toNat=x
   omega
  ·simp only[pJ,List.map_cons,h2,Int.toNat_natCast]
  ·simp only[pJ,List.length_cons,h3]
section
variable {s:ST}
theorem B8 {b l:List Nat}(hb:∀ c∈b,c<256)(h:si b=some l):b=flat (qR 0 l):=by
 unfold si at h
 rw[Option.bind_eq_some_iff] at h
 obtain⟨ks,h1,h2⟩:=h
 obtain⟨_,_,e⟩:=nZ 400 b ks hb h1
 rw[e,(Hs 0 ks l h2).1]
end
theorem C8:∀ (ns:List Nat),15≤ns.length→ns=[ns.getD 0 0,ns.getD 1 0,ns.getD 2 0,ns.getD 3 0,ns.getD 4 0,ns.getD 5 0,ns.getD 6 0,ns.getD 7 0,ns.getD 8 0,ns.getD 9 0,ns.getD 10 0,ns.getD 11 0,ns.getD 12 0,ns.getD 13 0,ns.getD 14 0]++ns.drop 15
 | a0::a1::a2::a3::a4::a5::a6::a7::a8::a9::a10::a11::a12::a13::a14::r,_=>rfl
 | [],h|[_],h|[_,_],h|[_,_,_],h|[_,_,_,_],h|[_,_,_,_,_],h|[_,_,_,_,_,_],h|[_,_,_,_,_,_,_],h|[_,_,_,_,_,_,_,_],h|[_,_,_,_,_,_,_,_,_],h|[_,_,_,_,_,_,_,_,_,_],h|[_,_,_,_,_,_,_,_,_,_,_],h|[_,_,_,_,_,_,_,_,_,_,_,_],h|[_,_,_,_,_,_,_,_,_,_,_,_,_],h|[_,_,_,_,_,_,_,_,_,_,_,_,_,_],h=>by simp at h
theorem MW {p:P5}{s:ST}(h0:∀ c∈p.1,c<256)(h1:∀ c∈p.2.1,c<256)(h2:∀ c∈p.2.2.1,c<256)(h3:∀ c∈p.2.2.2.1,c<256)(h4:∀ c∈p.2.2.2.2,c<256)(h:ofParts p=some s) :
  bR s∧Ad s∧Ge s=p:=by
 unfold ofParts at h
 rw[Option.bind_eq_some_iff] at h
 obtain⟨ns,e0,h⟩:=h
 split at h
 case isFalse=>cases h
 rename_i hg
 simp only[Option.bind_eq_some_iff] at h
 obtain⟨whose,e1,fr,e2,which,e3,till,e4,h⟩:=h
 split at h
 case isFalse=>cases h
 rename_i hc
 obtain⟨hl1,hl2,hM⟩:=hc
 cases h
 unfold nB at hg
 simp only[Bool.and_eq_true,decide_eq_true_eq] at hg
 obtain⟨g1,g2,g3⟩:=hg
 unfold gh at e1 e3
 split at e1
 case isFalse=>cases e1
 split at e3
 case isFalse=>cases e3
 obtain⟨w1,w2,w3⟩:=ix h1 e1
 obtain⟨v1,v2,v3⟩:=ix h3 e3
 obtain⟨n1,n2,n3⟩:=nZ 400 _ ns h0 e0
 have f1:=B8 h2 e2
 have t1:=B8 h4 e4
 obtain⟨z1,z2,z3,z4⟩:=AY (gN ns 12) whose fr hl1
 obtain⟨y1,y2,y3⟩:=zJ which till hl2
 refine⟨hM,z4,?_⟩
 have hnums:nums (kK ns whose fr which till)=ns:=by
  obtain⟨m,hm⟩:∃ m,ns.length-15=3 * m:=⟨(ns.length-15) / 3,by omega⟩
  obtain⟨c1,c2⟩:=om m (ns.drop 15) (by rw[List.length_drop];exact hm)
  conv=>rhs;rw[C8 ns g1]
  unfold nums Th kK
  simp only
  rw[List.map_append,c1,z3,y3,w2,v2]
  congr 1
  have e11:(if decide (ns.getD 11 0=1)=true then (1:Int) else 0).toNat=ns.getD 11 0:=by
   by_cases h:ns.getD 11 0=1
   ·rw[if_pos (decide_eq_true h),h];rfl
   ·rw[if_neg (by simpa using h)]
    show 0=_
    omega
  simp only[List.map_cons,List.map_nil,Int.toNat_natCast,e11]
 unfold Ge
 rw[hnums]
 unfold kK
 simp only
 rw[z1,z2,y1,y2,w1,v1,← n3,← f1,← t1]
theorem OJ {b:List Nat}{s:ST}(hb:∀ c∈b,c<256)(h:iD b=some s):bR s∧Ad s∧encS s=b:=by
 unfold iD at h
 rw[Option.bind_eq_some_iff] at h
 obtain⟨⟨p,r⟩,h1,h2⟩:=h
 split at h2
 ·rename_i hr
  simp only at hr
  subst hr
  obtain⟨e,_,b0,b1,b2,b3,b4⟩:=xL hb h1
  obtain⟨k1,k2,k3⟩:=MW b0 b1 b2 b3 b4 h2
  refine⟨k1,k2,?_⟩
  unfold encS
  rw[k3,e,List.append_nil]
 ·cases h2
def rW (l:List Nat):Bool:=decide (l.length<6) && !(l.any fun c=>decide (c<128))
variable (crc:List Nat→List Nat)
def qK (k:Nat)(body:List Nat):List Nat:=k::(eg body.length++body)
def jo (k:Nat)(body:List Nat):List Nat:=qK k body++crc (qK k body)
def iq:List Nat→Except Nat (Nat×List Nat×Nat)
 | []=>.error 4
 | c::r=>
  if rW r then .error 4
  else match qp r with
   | none=>.error 2
   | some (n,k)=>
    if 1000<n then .error 2
    else if (c::r).length<1+k+n+4 then .error 4
    else if ((c::r).drop (1+k+n)).take 4=crc ((c::r).take (1+k+n)) then .ok (c,(r.drop k).take n,1+k+n+4)
    else .error 3
theorem IJ:∀ (n:Nat),∃ c∈eg n,c<128:=by
 intro n
 induction n using Nat.strongRecOn with
 | ind n ih=>
  by_cases h:n<128
  ·exact⟨n,by rw[gM h];simp,h⟩
  ·obtain⟨c,h1,h2⟩:=ih (n / 128) (by omega)
   exact⟨c,by rw[gx h];exact List.mem_cons_of_mem _ h1,h2⟩
theorem JD (n:Nat)(r:List Nat):rW (eg n++r)=false:=by
 obtain⟨c,h1,h2⟩:=IJ n
 have:(eg n++r).any (fun c=>decide (c<128))=true:=by
  rw[List.any_eq_true]
  exact⟨c,List.mem_append_left _ h1,by simpa using h2⟩
 unfold rW
 rw[this];simp
theorem Dx (k:Nat)(body:List Nat):(qK k body).length=1+(eg body.length).length+body.length:=by
 unfold qK;simp only[List.length_cons,List.length_append];omega
theorem j0 (b:List Nat):(∃ e,iq crc b = .error e∧e≠0) ∨
  ∃ c r n k,b=c::r∧rW r=false∧qp r=some (n,k)∧n≤1000∧1+k+n+4≤b.length∧(b.drop (1+k+n)).take 4=crc (b.take (1+k+n))∧iq crc b = .ok (c,(r.drop k).take n,1+k+n+4):=by
 cases b with
 | nil=>exact .inl ⟨4,rfl,by omega⟩
 | cons c r=>
  simp only[iq]
  cases ho:rW r with
  | true=>exact .inl ⟨4,rfl,by omega⟩
  | false=>
   cases hv:qp r with
   | none=>exact .inl ⟨2,rfl,by omega⟩
   | some q=>
    obtain⟨n,k⟩:=q
    simp only
    by_cases h1:1000<n
    ·exact .inl ⟨2,by rw[if_neg (by simp),if_pos h1],by omega⟩
    by_cases h2:(c::r).length<1+k+n+4
    ·exact .inl ⟨4,by rw[if_neg (by simp),if_neg h1,if_pos h2],by omega⟩
    by_cases h3:((c::r).drop (1+k+n)).take 4=crc ((c::r).take (1+k+n))
    ·exact .inr ⟨c,r,n,k,rfl,ho,hv,by omega,by omega,h3,by rw[if_neg (by simp),if_neg h1,if_neg h2,if_pos h3]⟩
    ·exact .inl ⟨3,by rw[if_neg (by simp),if_neg h1,if_neg h2,if_neg h3],by omega⟩
theorem Nx (hc:∀ l,(crc l).length=4)(k:Nat)(body rest:List Nat)(hb:body.length≤1000) :
  iq crc (jo crc k body++rest) = .ok (k,body,(jo crc k body).length):=by
 have hl:=Dx k body
 have e:jo crc k body++rest=k::(eg body.length++(body++(crc (qK k body)++rest))):=by
  unfold jo qK;simp only[List.cons_append,List.append_assoc]
 have e1:(jo crc k body++rest).take (1+(eg body.length).length+body.length)=qK k body:=by
  unfold jo
  rw[← hl,List.append_assoc,List.take_left' rfl]
 have e2:(jo crc k body++rest).drop (1+(eg body.length).length+body.length)=crc (qK k body)++rest:=by
  unfold jo
  rw[← hl,List.append_assoc,List.drop_left' rfl]
 have hlen:(jo crc k body++rest).length=1+(eg body.length).length+body.length+4+rest.length:=by
  rw[List.length_append];unfold jo;rw[List.length_append,hc,hl]
 rw[e] at e1 e2 hlen ⊢
 unfold iq
 simp only[JD,Oy body.length (by omega),hlen,e1,e2]
 rw[if_neg (by simp),if_neg (by omega),if_neg (by omega),if_pos (by rw[List.take_left' (hc _)])]
 congr 2
 rw[Prod.mk.injEq]
 refine⟨?_,?_⟩
 ·rw[List.drop_left' rfl,List.take_left' rfl]
 ·unfold jo;rw[List.length_append,hc,hl]
end Go.Proofs.Zz
namespace Go.Proofs.Zz
open Go Go.Sy
set_option linter.unusedSimpArgs false
set_option linter.unusedVariables false
def LF:PT:=(0,(0,(0,false)))
def gb (k:Nat)(at':Int):List Nat→Option (ET×List Nat)
 | []=>none
 | n::l=>
  if k=0∨k=1 then some (((k:Int),(at',(((n / 32:Nat):Int),(((n / 8 % 4:Nat):Int),(((n % 8:Nat):Int),LF))))),l)
  else if k=2∨k=4 then some (((k:Int),(at',(((n / 8:Nat):Int),(((n % 8:Nat):Int),(0,LF))))),l)
  else if k=3∨k=5 then some (((k:Int),(at',(((n:Nat):Int),(0,(0,LF))))),l)
  else match l with
   | i::h::p::l'=>if p≤1 then some (((k:Int),(at',(0,(0,(0,(((n:Nat):Int),(((i:Nat):Int),(((h:Nat):Int),decide (p=1))))))))),l') else none
   | _=>none
def Gq:Nat→Int→List Nat→Option (List ET)
 | _,_,[]=>some []
 | 0,_,_::_=>none
 | f+1,at',n::l=>
  if 7≤n % 16 then none
  else match gb (n % 16) (at'+((n / 16:Nat):Int)) l with
   | none=>none
   | some (e,l')=>if ef e then (Gq f e.2.1 l').map (e :: ·) else none
def nu (at':Int)(b:List Nat):Option (List ET):=
 if fK at' 0 1073741824 then (tf 400 b).bind fun ns=>Gq ns.length at' ns else none
theorem wV {k:Nat}{at':Int}{l l':List Nat}{e:ET}(h:gb k at' l=some (e,l')):l'.length<l.length∧e.2.1=at'∧e.1=(k:Int):=by
 unfold gb at h
 split at h
 ·cases h
 ·split at h
  ·cases h;simp
  ·split at h
   ·cases h;simp
   ·split at h
    ·cases h;simp
    ·split at h
     ·split at h
      ·cases h;simp;omega
      ·cases h
     ·cases h
theorem II {k:Nat}{at':Int}{l l':List Nat}{e:ET}(h:gb k at' l=some (e,l')):∃ q,l=q++l':=by
 unfold gb at h
 split at h
 ·cases h
 ·rename_i n r
  split at h
  ·cases h;exact⟨[n],rfl⟩
  ·split at h
   ·cases h;exact⟨[n],rfl⟩
   ·split at h
    ·cases h;exact⟨[n],rfl⟩
    ·split at h
     ·split at h
      ·cases h;exact⟨[n,_,_,_],rfl⟩
      ·cases h
     ·cases h
theorem HR:∀ {f:Nat} {at':Int} {ns:List Nat} {l:List ET},Gq f at' ns=some l→∀ e∈l,ef e
 | 0,_,[],_,h=>by cases h;simp
 | 0,_,_::_,_,h=>by cases h
 | f+1,_,[],_,h=>by cases h;simp
 | f+1,at',n::r,l,h=>by
  unfold Gq at h
  split at h
  ·cases h
  ·cases ht:gb (n % 16) (at'+((n / 16:Nat):Int)) r with
   | none=>rw[ht] at h;cases h
   | some q=>
    obtain⟨e,l'⟩:=q
    rw[ht] at h
    simp only at h
    split at h
    ·rename_i hm
     cases hg:Gq f e.2.1 l' with
     | none=>rw[hg] at h;cases h
     | some l2=>
      rw[hg] at h
      cases h
      intro x hx
      rcases List.mem_cons.1 hx with rfl|hx
      ·exact hm
      ·exact HR hg x hx
    ·cases h
theorem Ia:∀ {f:Nat} {at':Int} {ns:List Nat} {l:List ET},Gq f at' ns=some l→l.length≤ns.length
 | 0,_,[],_,h=>by cases h;simp
 | 0,_,_::_,_,h=>by cases h
 | f+1,_,[],_,h=>by cases h;simp
 | f+1,at',n::r,l,h=>by
  unfold Gq at h
  split at h
  ·cases h
  ·cases ht:gb (n % 16) (at'+((n / 16:Nat):Int)) r with
   | none=>rw[ht] at h;cases h
   | some q=>
    obtain⟨e,l'⟩:=q
    rw[ht] at h
    simp only at h
    split at h
    ·cases hg:Gq f e.2.1 l' with
     | none=>rw[hg] at h;cases h
     | some l2=>
      rw[hg] at h
      cases h
      have:=Ia hg
      have:=(wV ht).1
      simp only[List.length_cons];omega
    ·cases h
theorem vO {at':Int}{b:List Nat}{l:List ET}(hb:∀ c∈b,c<256)(h:nu at' b=some l):fK at' 0 1073741824∧(∀ e∈l,ef e)∧l.length≤400:=by
 unfold nu at h
 split at h
 ·rename_i hr
  cases hv:tf 400 b with
  | none=>rw[hv] at h;cases h
  | some ns=>
   rw[hv] at h
   simp only[Option.bind_some] at h
   have:=(nZ 400 b ns hb hv).1
   have:=Ia h
   exact⟨hr,HR h,by omega⟩
 ·cases h
variable (crc:List Nat→List Nat)
theorem yh {b:List Nat}(hb:∀ c∈b,c<256){k m:Nat}{body:List Nat}(h:iq crc b = .ok (k,body,m)) :
  b=jo crc k body++b.drop m∧m=(jo crc k body++[]).length-(crc (qK k body)).length+4∧body.length≤1000∧m≤b.length∧1≤m∧(∀ c∈body,c<256):=by
 rcases j0 crc b with⟨e,he,_⟩|⟨c,r,n,j,rfl,ho,hv,h1,h2,h3,h4⟩
 ·rw[he] at h;cases h
 ·rw[h4] at h
  simp only[Except.ok.injEq,Prod.mk.injEq] at h
  obtain⟨rfl,rfl,rfl⟩:=h
  have hr:∀ x∈r,x<256:=fun x hx=>hb x (List.mem_cons_of_mem _ hx)
  obtain⟨v1,v2,v3⟩:=j7 hr hv
  rw[List.length_cons] at h2
  have hlen:((r.drop j).take n).length=n:=by rw[List.length_take,List.length_drop];omega
  have ex:(c::r).take (1+j+n)=qK c ((r.drop j).take n):=by
   unfold qK
   rw[hlen,show 1+j+n=(j+n)+1 by omega,List.take_succ_cons]
   congr 1
   conv=>lhs;rw[v3]
   rw[v2,List.take_length_add_append]
  have e1:c::r=qK c ((r.drop j).take n)++(crc (qK c ((r.drop j).take n))++(c::r).drop (1+j+n+4)):=by
   conv=>lhs;rw[← List.take_append_drop (1+j+n) (c::r)]
   rw[ex]
   congr 1
   rw[← ex,← h3]
   conv=>lhs;rw[← List.take_append_drop 4 ((c::r).drop (1+j+n))]
   rw[List.drop_drop]
  refine⟨?_,?_,by rw[hlen];omega,by rw[List.length_cons];omega,by omega,fun x hx=>hr x (List.mem_of_mem_drop (List.mem_of_mem_take hx))⟩
  ·unfold jo;rw[List.append_assoc];exact e1
  ·unfold jo
   rw[List.append_nil,List.length_append,Nat.add_sub_cancel,Dx,hlen,← v2]
theorem Kf (hc:∀ l,(crc l).length=4){b:List Nat}(hb:∀ c∈b,c<256){k m:Nat}{body:List Nat}(h:iq crc b = .ok (k,body,m)):m=(jo crc k body).length:=by
 have:=(yh crc hb h).2.1
 rw[List.append_nil,hc] at this
 have h4:4≤(jo crc k body).length:=by unfold jo;rw[List.length_append,hc];omega
 omega
theorem wL (hc:∀ l,(crc l).length=4){b b':List Nat}(hb:∀ c∈b,c<256){k m:Nat}{body:List Nat}(h:iq crc b = .ok (k,body,m))(h':b.take m=b'.take m):iq crc b' = .ok (k,body,m):=by
 have hm:=Kf crc hc hb h
 obtain⟨e1,_,e2,_⟩:=yh crc hb h
 have e3:b.take m=jo crc k body:=by
  conv=>lhs;rw[e1]
  rw[hm,List.take_left' rfl]
 have e4:b'=jo crc k body++b'.drop m:=by
  conv=>lhs;rw[← List.take_append_drop m b']
  rw[← h',e3]
 rw[e4,Nx crc hc k body _ e2,hm]
noncomputable def dD (b:List Nat)(m:ST×Nat):Option ((ST×Nat)×List ET):=
 match iq crc (b.drop m.2) with
 | .error _=>none
 | .ok x=>if x.1=2 then
   (match nu m.1.2.2.1 x.2.1 with
   | none=>none
   | some l=>if (dh m.1 l).2=0 then some (((dh m.1 l).1,m.2+x.2.2),l) else none)
  else none
inductive Reads (b:List Nat):ST×Nat→ST×Nat→List ET→Prop
 | stop {m}:dD crc b m=none→Reads b m m []
 | step {m m' r l l'}:dD crc b m=some (m',l)→Reads b m' r l'→Reads b m r (l++l')
theorem gH {b:List Nat}{m m':ST×Nat}{l:List ET}(h:dD crc b m=some (m',l)) :
  ∃ body n,iq crc (b.drop m.2) = .ok (2,body,n)∧nu m.1.2.2.1 body=some l∧dh m.1 l=(m'.1,0)∧m'.2=m.2+n:=by
 unfold dD at h
 cases hg:iq crc (b.drop m.2) with
 | error e=>rw[hg] at h;cases h
 | ok x=>
  obtain⟨k,body,n⟩:=x
  rw[hg] at h
  simp only at h
  split at h
  ·rename_i hk
   subst hk
   cases hr:nu m.1.2.2.1 body with
   | none=>rw[hr] at h;cases h
   | some l'=>
    rw[hr] at h
    simp only at h
    split at h
    ·rename_i ha
     cases h
     exact⟨body,n,rfl,hr,by rw[← ha],rfl⟩
    ·cases h
  ·cases h
theorem KQ {b:List Nat}{m m':ST×Nat}{l:List ET}{body:List Nat}{n:Nat}(h1:iq crc (b.drop m.2) = .ok (2,body,n))(h2:nu m.1.2.2.1 body=some l)(h3:dh m.1 l=(m'.1,0))(h4:m'.2=m.2+n) :
  dD crc b m=some (m',l):=by
 unfold dD
 rw[h1]
 simp only[if_true,h2,h3]
 rw[← h4]
theorem mj (hc:∀ l,(crc l).length=4){b:List Nat}(hb:∀ c∈b,c<256){m m':ST×Nat}{l:List ET}(h:dD crc b m=some (m',l)):m.2<m'.2∧m'.2≤b.length∧l.length≤400:=by
 obtain⟨body,n,h1,h2,h3,h4⟩:=gH crc h
 obtain⟨e1,_,_,e4,e5,e6⟩:=yh crc (fun c hc=>hb c (List.mem_of_mem_drop hc)) h1
 rw[List.length_drop] at e4
 have:=(vO e6 h2).2.2
 omega
theorem oo (hc:∀ l,(crc l).length=4){b b':List Nat}(hb:∀ c∈b,c<256){m m':ST×Nat}{l:List ET}(h:dD crc b m=some (m',l))(h':b.take m'.2=b'.take m'.2):dD crc b' m=some (m',l):=by
 obtain⟨body,n,h1,h2,h3,h4⟩:=gH crc h
 refine KQ crc (wL crc hc (fun c hc=>hb c (List.mem_of_mem_drop hc)) h1 ?_) h2 h3 h4
 rw[List.take_drop,List.take_drop,← h4,h']
theorem vH (s:ST)(l:List ET)(h:(dh s l).2=0):(dh s l)=pG s l:=by
 unfold dh at h ⊢
 split
 ·rfl
 ·rename_i hn;rw[if_neg hn] at h;exact absurd h hn
theorem Reads.le (hc:∀ l,(crc l).length=4){b:List Nat}(hb:∀ c∈b,c<256){m r:ST×Nat}{l:List ET}(h:Reads crc b m r l):m.2≤r.2∧(m.2≤b.length→r.2≤b.length)∧l.length≤400 * (r.2-m.2):=by
 induction h with
 | stop _=>exact⟨Nat.le_refl _,fun h=>h,by simp⟩
 | step h1 _ ih=>
  have:=mj crc hc hb h1
  rw[List.length_append]
  refine⟨by omega,fun _=>ih.2.1 (by omega),?_⟩
  have h1:=ih.2.2
  have h2:=ih.1
  omega
theorem Reads.cut (hc:∀ l,(crc l).length=4){b:List Nat}(hb:∀ c∈b,c<256)(k:Nat){m r:ST×Nat}{l:List ET}(h:Reads crc b m r l) :
  ∀ {r' l'},Reads crc (b.take k) m r' l'→r'.2≤r.2∧(∃ q,l=l'++q)∧(r.2≤k→r'=r∧l'=l):=by
 induction h with
 | @stop m h1=>
  intro r' l' h'
  cases h' with
  | stop=>exact⟨Nat.le_refl _,⟨[],rfl⟩,fun _=>⟨rfl,rfl⟩⟩
  | step h2 _=>
   have h3:=mj crc hc (fun c hc=>hb c (List.mem_of_mem_take hc)) h2
   have h4:m.2<(b.take k).length:=by omega
   have:=oo crc hc (b':=b) (fun c hc=>hb c (List.mem_of_mem_take hc)) h2 (by
    rw[List.take_take,Nat.min_eq_left (by have:=h3.2.1;rw[List.length_take] at this;omega)])
   rw[h1] at this;cases this
 | @step m m' r l l2 h1 hR ih=>
  intro r' l' h'
  cases h' with
  | stop h2=>
   refine⟨by have:=(Reads.le crc hc hb hR).1;have:=mj crc hc hb h1;omega,⟨_,rfl⟩,fun hk=>?_⟩
   have hle:=(Reads.le crc hc hb hR).1
   have:=oo crc hc (b':=b.take k) hb h1 (by rw[List.take_take,Nat.min_eq_left (by omega)])
   rw[h2] at this;cases this
  | step h2 h3=>
   have h3':=mj crc hc (fun c hc=>hb c (List.mem_of_mem_take hc)) h2
   have:=oo crc hc (b':=b) (fun c hc=>hb c (List.mem_of_mem_take hc)) h2 (by
    rw[List.take_take,Nat.min_eq_left (by have:=h3'.2.1;rw[List.length_take] at this;omega)])
   rw[h1] at this
   simp only[Option.some.injEq,Prod.mk.injEq] at this
   obtain⟨rfl,rfl⟩:=this
   obtain⟨i1,⟨q,i2⟩,i3⟩:=ih h3
   refine⟨i1,⟨q,by rw[i2,List.append_assoc]⟩,fun hk=>?_⟩
   obtain⟨rfl,rfl⟩:=i3 hk
   exact⟨rfl,rfl⟩
end Go.Proofs.Zz
