/- Itl, It2, M1. -/
import Derived.Test.YtckgffnmfgjehaaGreatFD
import Derived.IntWalk
namespace Go.Sy
open Go
set_option linter.unusedSimpArgs false
set_option linter.unusedVariables false
section
variable {α β γ:Type}{f:α→Option (R3 α β γ)}
theorem Dv {n:Nat}{x x':α}(h:f x=some (.next x')):iter (n+1) f x=iter n f x':=by rw[iter,h]
theorem I0 {n:Nat}{x:α}{y:β}(h:f x=some (.out y)):iter (n+1) f x=some (.inl y):=by rw[iter,h]
theorem On {n:Nat}{x:α}{y:γ}(h:f x=some (.ret y)):iter (n+1) f x=some (.inr y):=by rw[iter,h]
theorem D3:∀ {k n:Nat},k≤n→∀ {x:α} {r:Sum β γ},iter k f x=some r→iter n f x=some r
 | 0,_,_,x,r,h=>by simp[iter] at h
 | k+1,0,hk,_,_,_=>by omega
 | k+1,n+1,hk,x,r,h=>by
  unfold iter at h ⊢
  split at h
  ·exact D3 (by omega) h
  ·exact h
  ·exact h
  ·simp at h
end
theorem iF {x:Int}(h1 : -9223372036854775808≤x)(h2:x≤9223372036854775807):IntKind.wrap .i64 x=x:=IntWalk.i64_in _ ⟨h1,h2⟩
theorem mU {n:Nat}(h:n<2 ^ 64):(BitVec.ofInt 64 (n:Int)).toNat=n:=by
 simp[BitVec.toNat_ofInt];omega
theorem TL {a b:Nat}(ha:a<2 ^ 63)(hb:b<2 ^ 63):aN .and .i64 (a:Int) (b:Int)=((a &&& b:Nat):Int):=by
 have h:a &&& b≤a:=Nat.and_le_left
 show IntKind.wrap .i64 ((BitVec.ofInt 64 (a:Int) &&& BitVec.ofInt 64 (b:Int)).toNat:Int)=_
 rw[BitVec.toNat_and,mU (by omega),mU (by omega),iF (by omega) (by omega)]
theorem Tq {a b:Nat}(ha:a<2 ^ 63)(hb:b<2 ^ 63):aN .xor .i64 (a:Int) (b:Int)=((a ^^^ b:Nat):Int):=by
 have h:a ^^^ b<2 ^ 63:=Nat.xor_lt_two_pow ha hb
 show IntKind.wrap .i64 ((BitVec.ofInt 64 (a:Int) ^^^ BitVec.ofInt 64 (b:Int)).toNat:Int)=_
 rw[BitVec.toNat_xor,mU (by omega),mU (by omega),iF (by omega) (by omega)]
theorem Dc {a m:Nat}(ha:a<2 ^ 63)(hm:m<63):aN .and .i64 (a:Int) (((2 ^ m:Nat):Int)-1)=((a % 2 ^ m:Nat):Int):=by
 have h1:1≤2 ^ m:=Nat.one_le_two_pow
 have h2:2 ^ m≤2 ^ 62:=Nat.pow_le_pow_right (by omega) (by omega)
 have e:((2 ^ m:Nat):Int)-1=((2 ^ m-1:Nat):Int):=by omega
 rw[e,TL ha (by omega),Nat.and_two_pow_sub_one_eq_mod]
theorem fdiv_pow (a m:Nat):Int.fdiv (a:Int) ((2:Int) ^ m)=((a / 2 ^ m:Nat):Int):=by
 rw[show ((2:Int) ^ m)=((2 ^ m:Nat):Int) by simp,Int.fdiv_eq_ediv_of_nonneg _ (Int.natCast_nonneg _)];rfl
variable {α β γ δ:Type}{u:α→Option (R3 α β γ)}
theorem RE {e:Ty}{xs:List e.T}{i:Nat}(h:i<List.length xs):rd e xs i=xs[i]:=by
 unfold rd
 exact (List.getElem_eq_getD _).symm
theorem II (st:Nat→α){n:Nat}{y:β}(hs:∀ j,j<n→u (st j)=some (.next (st (j+1))))(he:u (st n)=some (.out y)) :
  ∀ (k fuel:Nat),k≤n→n-k<fuel→iter fuel u (st k)=some (.inl y)
 | k,0,_,h=>by omega
 | k,fuel+1,hk,h=>by
  rcases Nat.lt_or_ge k n with hlt|hge
  ·rw[Dv (hs k hlt)]
   exact II st hs he (k+1) fuel (by omega) (by omega)
  ·have:k=n:=by omega
   subst this
   exact I0 he
end Go.Sy
namespace Go.Proofs.Zz
open Go Go.Sy
set_option linter.unusedSimpArgs false
set_option linter.unusedVariables false
abbrev LT:=Int×(Int×(Int×(Int×Int)))
abbrev HT:=Int×(Int×Int)
abbrev DT:=(Int×Int)×((Int×Int)×(Int×(Int×(Int×Int))))
abbrev PT:=Int×(Int×(Int×Bool))
abbrev ST:=DT×(PT×(Int×(List HT×(List LT×List HT))))
noncomputable instance:DecidableEq ST:=fun _ _=>Classical.propDecidable _
theorem K7 (j:Nat):decide (0≤(j:Int))=true:=decide_eq_true (Int.natCast_nonneg j)
theorem LC {j n:Nat}(h:j<n):decide ((j:Int)<(n:Int))=true:=decide_eq_true (by omega)
theorem Rk (n:Nat):decide ((n:Int)<(n:Int))=false:=decide_eq_false (by omega)
theorem nx {j n:Nat}(h:j<n)(hn:n≤9223372036854775807):IntKind.wrap .i64 ((j:Int)+1)=((j+1:Nat):Int):=by rw[iF (by omega) (by omega)];omega
theorem NN {l:List LT}{j:Nat}(h:j<l.length):rd (.pair (.int .i64) (.pair (.int .i64) (.pair (.int .i64) (.pair (.int .i64) (.int .i64))))) l j=l[j]:=RE h
def nX (k:Int):Int:=((2 ^ (32-k).toNat:Nat):Int)
def iJ (b k:Int):Prop:=0≤k∧k≤32∧0≤b∧b<4294967296∧b % nX k=0
instance (b k:Int):Decidable (iJ b k):=by unfold iJ;infer_instance
theorem qe (k:Int):1≤nX k:=by unfold nX;have:1≤2 ^ (32-k).toNat:=Nat.one_le_two_pow;omega
theorem AK {k:Int}(h:0≤k):nX k≤4294967296:=by
 unfold nX
 have:2 ^ (32-k).toNat≤2 ^ 32:=Nat.pow_le_pow_right (by omega) (by omega)
 omega
theorem Jr {k:Int}(h0:0≤k)(h1:k≤32):IntKind.wrap .i64 (1 * ((2:Int) ^ ((min (Int.toNat (IntKind.wrap .i64 (32-k))) 64):Nat)))=nX k:=by
 rw[iF (show -9223372036854775808≤32-k by omega) (by omega),Nat.min_eq_left (by omega)]
 have:=AK h0
 have:=qe k
 have e:(1:Int) * ((2:Int) ^ (32-k).toNat)=nX k:=by simp[nX]
 rw[e,iF (by omega) (by omega)]
def bL (b k:Int):Int:=if iJ b k then nX k else 0
theorem ju (b k:Int):0≤bL b k∧bL b k≤4294967296:=by
 unfold bL
 split
 ·rename_i h
  have:=qe k
  have:=AK h.1
  omega
 ·omega
theorem KE {k:Int}(h:0≤k):(4294967296:Int) % nX k=0:=by
 unfold nX
 have:(2 ^ (32-k).toNat:Nat) ∣ 2 ^ 32:=Nat.pow_dvd_pow 2 (by omega)
 have h2:=Nat.mod_eq_zero_of_dvd this
 have:((2 ^ 32 % 2 ^ (32-k).toNat:Nat):Int)=0:=by rw[h2];rfl
 simpa using this
theorem sG {b N m:Int}(hm:0<m)(hb:b % m=0)(hN:N % m=0)(h:b<N):b+m≤N:=by
 obtain⟨x,rfl⟩:=Int.dvd_of_emod_eq_zero hb
 obtain⟨y,rfl⟩:=Int.dvd_of_emod_eq_zero hN
 have:x<y:=by
  rcases Int.lt_or_le x y with h'|h'
  ·exact h'
  ·have:=Int.mul_le_mul_of_nonneg_left h' (Int.le_of_lt hm);omega
 have:=Int.mul_le_mul_of_nonneg_left (show x+1≤y by omega) (Int.le_of_lt hm)
 rw[Int.mul_add,Int.mul_one] at this
 exact this
theorem GB {b k:Int}(h:iJ b k):b+nX k≤4294967296:=
 sG (by have:=qe k;omega) h.2.2.2.2 (KE h.1) h.2.2.2.1
def oB (b k a:Int):Int:=if iJ b k∧b≤a∧a<b+nX k then a-b else -1
theorem xor_zero (a b:Nat):a ^^^ b=0↔a=b:=by
 constructor
 ·intro h
  have:(a ^^^ b) ^^^ b=0 ^^^ b:=by rw[h]
  rwa [Nat.xor_assoc,Nat.xor_self,Nat.xor_zero,Nat.zero_xor] at this
 ·intro h;rw[h,Nat.xor_self]
theorem I1 {n a m:Nat}(hm:0<m)(hn:n % m=0):a / m=n / m↔n≤a∧a<n+m:=by
 obtain⟨x,rfl⟩:=Nat.dvd_of_mod_eq_zero hn
 rw[Nat.mul_div_cancel_left _ hm]
 constructor
 ·intro h
  have h1:=Nat.div_mul_le_self a m
  have h2:=Nat.lt_div_mul_add hm (a:=a)
  rw[h] at h1 h2
  rw[Nat.mul_comm m x]
  omega
 ·intro ⟨h1,h2⟩
  rw[Nat.mul_comm m x] at h1 h2
  rw[Nat.div_eq_iff hm]
  constructor
  ·omega
  ·omega
def ud (b k b' k':Int):Prop:=iJ b k∧iJ b' k'∧((b≤b'∧b'<b+nX k)∨(b'≤b∧b<b'+nX k'))
instance (b k b' k':Int):Decidable (ud b k b' k'):=by unfold ud;infer_instance
theorem xU (b k a:Int):oB b k a ≠ -1↔iJ b k∧b≤a∧a<b+nX k:=by
 unfold oB
 split
 ·rename_i h;constructor
  ·exact fun _=>h
  ·intro _;omega
 ·rename_i h;constructor
  ·exact fun h'=>absurd rfl h'
  ·exact fun h'=>absurd h' h
def Fe (x y:Int):Int:=(x-1) / y+1
def FP (D:DT):Int:=bL D.1.1 D.1.2
def E8 (D:DT):Int:=bL D.2.1.1 D.2.1.2
abbrev lC (D:DT):Int:=D.2.2.1
abbrev CF (D:DT):Int:=D.2.2.2.1
abbrev lQ (D:DT):Int:=D.2.2.2.2.1
abbrev I6 (D:DT):Int:=D.2.2.2.2.2
def dz (D:DT):Int:=Fe (FP D) (E8 D)
def each (D:DT):Int:=(CF D-lC D+1-lQ D) / dz D
def vR (D:DT):Int:=lQ D / I6 D
structure eR (D:DT):Prop where
 x1:1≤FP D
 x2:FP D≤32
 y1:1≤E8 D
 y2:E8 D≤4
 meet:¬ ud D.1.1 D.1.2 D.2.1.1 D.2.1.2
 PJ:1≤lC D
 Uu:lC D≤CF D
 hi:CF D≤65535
 g1:0≤lQ D
 g2:lQ D≤CF D-lC D
 h1:1≤I6 D
 h2:I6 D≤65535
 blk:vR D≤8
 sh:dz D≤CF D-lC D+1-lQ D
noncomputable instance (D:DT):Decidable (eR D):=Classical.propDecidable _
section
variable {D:DT}
theorem eR.E6 (F:eR D):1≤dz D∧dz D≤32:=by
 unfold dz Fe
 have h1:0≤(FP D-1) / E8 D:=Int.ediv_nonneg (by have:=F.x1;omega) (by have:=F.y1;omega)
 have h2:(FP D-1) / E8 D≤FP D-1:=Int.ediv_le_self _ (by have:=F.x1;omega)
 have:=F.x2
 omega
theorem eR.Ak (F:eR D):1≤each D∧dz D * each D≤CF D-lC D+1-lQ D:=by
 have hr:=F.E6
 have hs:=F.sh
 unfold each
 generalize dz D=n at hr hs ⊢
 refine⟨?_,Int.mul_ediv_self_le (by omega)⟩
 exact (Int.le_ediv_iff_mul_le (by omega)).2 (by omega)
def bW (D:DT)(sub:Int):Int:=lC D+sub % dz D * each D
def DE (D:DT)(sub:Int):HT:=(sub / dz D,(bW D sub,bW D sub+each D-1))
def pK (D:DT)(sub:Int):Prop:=eR D∧0≤sub∧sub<FP D
noncomputable instance (sub:Int):Decidable (pK D sub):=Classical.propDecidable _
theorem eR.base (F:eR D){sub:Int}(h0:0≤sub)(h1:sub<FP D) :
  0≤sub / dz D∧sub / dz D<E8 D∧lC D≤bW D sub∧bW D sub+each D-1≤CF D-lQ D∧0≤sub % dz D * each D:=by
 have hr:=F.E6
 have he:=F.Ak
 have hx:=F.x2
 have hy1:=F.y1
 have hy2:=F.y2
 have hxy:FP D≤E8 D * dz D:=by
  unfold dz Fe
  generalize FP D=x at h1 hx ⊢
  generalize E8 D=y at hy1 hy2 ⊢
  have:y=1∨y=2∨y=3∨y=4:=by omega
  rcases this with rfl|rfl|rfl|rfl<;>omega
 unfold bW
 generalize dz D=n at hr he hxy ⊢
 generalize each D=w at he ⊢
 have m0:=Int.emod_nonneg sub (show n≠0 by omega)
 have m1:=Int.emod_lt_of_pos sub (show 0<n by omega)
 have k0:0≤sub % n * w:=Int.mul_nonneg m0 (by omega)
 have k1:(sub % n+1) * w≤n * w:=Int.mul_le_mul_of_nonneg_right (by omega) (by omega)
 rw[Int.add_mul,Int.one_mul] at k1
 refine⟨Int.ediv_nonneg h0 (by omega),Int.ediv_lt_of_lt_mul (by omega) (by omega),by omega,by omega,k0⟩
def PX (D:DT)(at' blk:Int):Prop:=eR D∧(0≤at'∧at'<E8 D)∧0≤blk∧blk<vR D
noncomputable instance (at' blk:Int):Decidable (PX D at' blk):=Classical.propDecidable _
theorem eR.block (F:eR D){blk:Int}(h0:0≤blk)(h1:blk<vR D):0≤blk * I6 D∧blk * I6 D+I6 D≤lQ D:=by
 have hh:=F.h1
 have k1:(blk+1) * I6 D≤vR D * I6 D:=Int.mul_le_mul_of_nonneg_right (by omega) (by omega)
 have k2:vR D * I6 D≤lQ D:=Int.ediv_mul_le _ (by omega)
 rw[Int.add_mul,Int.one_mul] at k1
 exact⟨Int.mul_nonneg h0 (by omega),by omega⟩
end
def hasB (p:HT)(at':Int):Bool:=decide (0≤p.1)&&(decide (p.1≤4)&&(decide (1≤p.2.1)&&(decide (p.2.1≤4)&&(decide (p.1≤at')&&decide (at'<p.1+p.2.1)))))
def R6 (p q:HT):Bool:=decide (p.1<q.1+q.2.1)&&decide (q.1<p.1+p.2.1)
def J4 (p:HT)(out:Int):Prop:=0≤p.1∧1≤p.2.1∧p.1<out∧p.2.1≤out-p.1∧0≤p.2.2∧p.2.2<2
instance (p:HT)(out:Int):Decidable (J4 p out):=by unfold J4;infer_instance
structure HH (l:List HT)(out:Int):Prop where
 WV:0≤out
 WL:out≤4
 len:l.length≤3
 fits:∀ p∈l,J4 p out
 apart:l.Pairwise fun p q=>R6 q p=false
noncomputable instance (l:List HT)(out:Int):Decidable (HH l out):=Classical.propDecidable _
def WX (P:List HT)(at':Int):Bool:=P.any fun p=>hasB p at'
def OB (p:PT):Prop:=(1≤p.1∧p.1≤8)∧(1≤p.2.1∧p.2.1≤1048576)∧0≤p.2.2.1∧p.2.2.1≤1048576
instance (p:PT):Decidable (OB p):=by unfold OB;infer_instance
def Uh (x1 x2 y1 y2:Int):Prop:=x1<y1∨(x1=y1∧x2<y2)
instance (x1 x2 y1 y2:Int):Decidable (Uh x1 x2 y1 y2):=by unfold Uh;infer_instance
def VH (x y:LT):Prop:=Uh x.2.1 x.2.2.1 y.2.1 y.2.2.1
def zO (x y:HT):Prop:=Uh x.1 x.2.1 y.1 y.2.1
instance (x y:LT):Decidable (VH x y):=by unfold VH;infer_instance
instance (x y:HT):Decidable (zO x y):=by unfold zO;infer_instance
def cnt (L:List LT)(sub:Int):Nat:=L.countP fun x=>decide (x.1=sub)
abbrev W3 (a b:Int):LT→Bool:=fun x=>decide (x.2.1=a)&&decide (x.2.2.1=b)
def UB (L:List LT)(a b:Int):Bool:=L.any (W3 a b)
structure LF (D:DT)(p:PT)(now:Int)(P:List HT)(x:LT):Prop where
 sub:pK D x.1
 blk:PX D x.2.1 x.2.2.1
 WU:WX P x.2.1=true
 pair:p.2.2.2=true→x.1 / dz D=x.2.1
 VY:0≤x.2.2.2.1
 VT:x.2.2.2.1≤x.2.2.2.2
 VN:x.2.2.2.2≤now
 idle:now-p.2.1<x.2.2.2.2
structure gT (D:DT)(p:PT)(now:Int)(P:List HT)(L:List LT):Prop where
 each:∀ x∈L,LF D p now P x
 RH:∀ x∈L,((cnt L x.1:Nat):Int)≤p.1
 UD:L.Pairwise VH
structure OM (D:DT)(now:Int)(L:List LT)(x:HT):Prop where
 blk:PX D x.1 x.2.1
 V7:now+1≤x.2.2
 Wa:x.2.2≤now+1048576
 free:UB L x.1 x.2.1=false
structure kW (D:DT)(now:Int)(L:List LT)(H:List HT):Prop where
 each:∀ x∈H,OM D now L x
 UD:H.Pairwise zO
structure Us (s:ST):Prop where
 fit:eR s.1
 W9:OB s.2.1
 WC:0≤s.2.2.1
 Wu:s.2.2.1≤1073741824
 Wi:HH s.2.2.2.1 (E8 s.1)
 Vf:gT s.1 s.2.1 s.2.2.1 s.2.2.2.1 s.2.2.2.2.1
 len:s.2.2.2.2.1.length≤32
 We:kW s.1 s.2.2.1 s.2.2.2.2.1 s.2.2.2.2.2
noncomputable instance (s:ST):Decidable (Us s):=Classical.propDecidable _
noncomputable instance (D:DT)(p:PT)(now:Int)(P:List HT)(L:List LT):Decidable (gT D p now P L):=Classical.propDecidable _
noncomputable instance (D:DT)(now:Int)(L:List LT)(H:List HT):Decidable (kW D now L H):=Classical.propDecidable _
section
variable {D:DT}{p:PT}{now:Int}{P:List HT}{L:List LT}{H:List HT}
theorem gT.nil:gT D p now P []:=⟨by simp,by simp,by simp⟩
theorem gT.take (h:gT D p now P L)(j:Nat):gT D p now P (L.take j):=
 ⟨fun x hx=>h.each x (List.mem_of_mem_take hx),fun x hx=>by
  have h1:=h.RH x (List.mem_of_mem_take hx)
  have h2:cnt (L.take j) x.1≤cnt L x.1:=(List.take_sublist j L).countP_le
  omega,h.UD.sublist (List.take_sublist j L)⟩
theorem kW.nil:kW D now L []:=⟨by simp,by simp⟩
theorem kW.take (h:kW D now L H)(j:Nat):kW D now L (H.take j):=
 ⟨fun x hx=>h.each x (List.mem_of_mem_take hx),h.UD.sublist (List.take_sublist j H)⟩
end
end Go.Proofs.Zz
