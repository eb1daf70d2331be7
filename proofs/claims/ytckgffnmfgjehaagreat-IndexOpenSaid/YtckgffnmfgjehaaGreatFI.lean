/- Itl, It2, M1, Itd, M2, M3, M4, M5, M13, M14, M15, M16, M17. -/
import Derived.Test.YtckgffnmfgjehaaGreatFD
import Derived.IntWalk
import Derived.Sort.OwnSortedInts
import Derived.Shelf.Slices.CompactI
import Derived.Lib.RowBridge
open List renaming length_cons → ae, mem_of_mem_take → ap, length_append → aw, length_take → ba, getElem_of_mem → bi, take_append_drop → bj, mem_map → bm, map_cons → cd, append_assoc → cf, mem_of_mem_drop → da, mem_singleton → dd, mem_cons → dj, length_set → dp, getElem_set_ne → dq, pairwise_iff_getElem → dt, mem_append → du, mem_filter → dv, nodup_cons → dC, getElem_take → dE, getD_eq_getElem?_getD → ee, any_eq_true → eJ, filter_cons → eK, length_drop → eQ, cons_append → fa, getElem_mem → fb, getElem_append_left → fg, getElem?_eq_getElem → fj, length_map → ft, not_of_lt_findIdx → fx, take_succ_eq_append_getElem → gg, pairwise_iff_forall_sublist → gk, findIdx_getElem → h9, mem_iff_getElem → ik, mem_cons_of_mem → il, take_left' → jn, nodup_iff_pairwise_ne → ka, drop_eq_getElem_cons → kb, take_sublist → kh, pairwise_map → km, drop_left' → ly, append_nil → lA, length_singleton → lL, getElem_set_self → lO, take_take → mf
open Classical renaming propDecidable → al, not_not → gl
open Bool renaming and_eq_true → be
open Prod.mk renaming injEq → cn
open Int renaming toNat_natCast → db, mul_le_mul_of_nonneg_right → gn, mul_le_mul_of_nonneg_left → ib, dvd_of_emod_eq_zero → ky, le_trans → ll
open Option renaming bind_eq_some_iff → dk, map_eq_some_iff → lr
open Go.IntKind renaming wrap → eh
open BitVec renaming ofInt → eI
open Nat renaming min_eq_left → im, le_refl → ma, lt_or_ge → ml, mul_comm → my
open Option.some renaming injEq → kn
namespace Go.Sy
open Go
set_option linter.unusedSimpArgs false
set_option linter.unusedVariables false
section
variable {α β γ:Type}{f:α→Option (R3 α β γ)}
theorem bH {n:Nat}{x x':α}(h:f x=some (.next x')):iter (n+1) f x=iter n f x':=by rw[iter,h]
theorem bW {n:Nat}{x:α}{y:β}(h:f x=some (.out y)):iter (n+1) f x=some (.inl y):=by rw[iter,h]
theorem fQ {n:Nat}{x:α}{y:γ}(h:f x=some (.ret y)):iter (n+1) f x=some (.inr y):=by rw[iter,h]
theorem fZ:∀ {k n:Nat},k≤n→∀ {x:α} {r:Sum β γ},iter k f x=some r→iter n f x=some r
 | 0,_,_,x,r,h=>by simp[iter] at h
 | k+1,0,hk,_,_,_=>by omega
 | k+1,n+1,hk,x,r,h=>by
  unfold iter at h ⊢
  split at h
  ·exact fZ (by omega) h
  ·exact h
  ·exact h
  ·simp at h
theorem jZ (I:α→Prop)(m:α→Nat)(Q:Sum β γ→Prop)
  (step:∀ x,I x→(∃ x',f x=some (.next x')∧I x'∧m x'<m x)∨(∃ y,f x=some (.out y)∧Q (.inl y))∨∃ y,f x=some (.ret y)∧Q (.inr y)) :
  ∀ (n:Nat) (x:α),I x→m x<n→∃ r,iter n f x=some r∧Q r
 | 0,_,_,h=>by omega
 | n+1,x,hI,hm=>by
  rcases step x hI with⟨x',h1,h2,h3⟩|⟨y,h1,h2⟩|⟨y,h1,h2⟩
  ·rw[bH h1];exact jZ I m Q step n x' h2 (by omega)
  ·exact⟨_,bW h1,h2⟩
  ·exact⟨_,fQ h1,h2⟩
end
theorem bY {x:Int}(h1 : -9223372036854775808≤x)(h2:x≤9223372036854775807):eh .i64 x=x:=IntWalk.i64_in _ ⟨h1,h2⟩
theorem dw {n:Nat}(h:n<2 ^ 64):(eI 64 (n:Int)).toNat=n:=by
 simp[BitVec.toNat_ofInt];omega
theorem VV {a b:Nat}(ha:a<2 ^ 63)(hb:b<2 ^ 63):aG .and .i64 (a:Int) (b:Int)=((a &&& b:Nat):Int):=by
 have h:a &&& b≤a:=Nat.and_le_left
 show eh .i64 ((eI 64 (a:Int) &&& eI 64 (b:Int)).toNat:Int)=_
 rw[BitVec.toNat_and,dw (by omega),dw (by omega),bY (by omega) (by omega)]
theorem acB {a b:Nat}(ha:a<2 ^ 63)(hb:b<2 ^ 63):aG .or .i64 (a:Int) (b:Int)=((a ||| b:Nat):Int):=by
 have h:a ||| b<2 ^ 63:=Nat.or_lt_two_pow ha hb
 show eh .i64 ((eI 64 (a:Int) ||| eI 64 (b:Int)).toNat:Int)=_
 rw[BitVec.toNat_or,dw (by omega),dw (by omega),bY (by omega) (by omega)]
theorem Vj {a b:Nat}(ha:a<2 ^ 63)(hb:b<2 ^ 63):aG .xor .i64 (a:Int) (b:Int)=((a ^^^ b:Nat):Int):=by
 have h:a ^^^ b<2 ^ 63:=Nat.xor_lt_two_pow ha hb
 show eh .i64 ((eI 64 (a:Int) ^^^ eI 64 (b:Int)).toNat:Int)=_
 rw[BitVec.toNat_xor,dw (by omega),dw (by omega),bY (by omega) (by omega)]
theorem jS {a m:Nat}(ha:a<2 ^ 63)(hm:m<63):aG .and .i64 (a:Int) (((2 ^ m:Nat):Int)-1)=((a % 2 ^ m:Nat):Int):=by
 have h1:1≤2 ^ m:=Nat.one_le_two_pow
 have h2:2 ^ m≤2 ^ 62:=Nat.pow_le_pow_right (by omega) (by omega)
 have e:((2 ^ m:Nat):Int)-1=((2 ^ m-1:Nat):Int):=by omega
 rw[e,VV ha (by omega),Nat.and_two_pow_sub_one_eq_mod]
theorem fdiv_pow (a m:Nat):Int.fdiv (a:Int) ((2:Int) ^ m)=((a / 2 ^ m:Nat):Int):=by
 rw[show ((2:Int) ^ m)=((2 ^ m:Nat):Int) by simp,Int.fdiv_eq_ediv_of_nonneg _ (Int.natCast_nonneg _)];rfl
variable {α β γ δ:Type}{u:α→Option (R3 α β γ)}
theorem uc {e:Ty}{xs:List e.T}{i:Nat}(h:i<List.length xs):rd e xs i=xs[i]:=by
 unfold rd
 exact (List.getElem_eq_getD _).symm
theorem lE (st:Nat→α){n:Nat}{y:β}(hs:∀ j,j<n→u (st j)=some (.next (st (j+1))))(he:u (st n)=some (.out y)) :
  ∀ (k fuel:Nat),k≤n→n-k<fuel→iter fuel u (st k)=some (.inl y)
 | k,0,_,h=>by omega
 | k,fuel+1,hk,h=>by
  rcases ml k n with hlt|hge
  ·rw[bH (hs k hlt)]
   exact lE st hs he (k+1) fuel (by omega) (by omega)
  ·have:k=n:=by omega
   subst this
   exact bW he
theorem qz (st:Nat→α){n:Nat}{y:γ}(hs:∀ j,j<n→u (st j)=some (.next (st (j+1))))(he:u (st n)=some (.ret y)) :
  ∀ (k fuel:Nat),k≤n→n-k<fuel→iter fuel u (st k)=some (.inr y)
 | k,0,_,h=>by omega
 | k,fuel+1,hk,h=>by
  rcases ml k n with hlt|hge
  ·rw[bH (hs k hlt)]
   exact qz st hs he (k+1) fuel (by omega) (by omega)
  ·have:k=n:=by omega
   subst this
   exact fQ he
theorem Qw (st:Nat→α)(p:Nat→Bool){n:Nat}{y:β}{z:γ}(hs:∀ j,j<n→u (st j)=cond (p j) (some (.ret z)) (some (.next (st (j+1)))))(he:u (st n)=some (.out y)) :
  ∀ (k fuel:Nat),k≤n→n-k<fuel→iter fuel u (st k)=some (cond ((List.range' k (n-k)).any p) (.inr z) (.inl y))
 | k,0,_,h=>by omega
 | k,fuel+1,hk,h=>by
  rcases ml k n with hlt|hge
  ·have e:n-k=(n-(k+1))+1:=by omega
   rw[e,List.range'_succ,List.any_cons]
   have h1:=hs k hlt
   cases hp:p k with
   | true=>rw[hp] at h1;rw[fQ h1];rfl
   | false=>
    rw[hp] at h1
    rw[bH h1,Qw st p hs he (k+1) fuel (by omega) (by omega)]
    rfl
  ·have:k=n:=by omega
   subst this
   rw[Nat.sub_self,bW he];rfl
theorem iz (l:List δ)(q:δ→Bool)(st:Nat→α)(r:Nat→γ){y:β}(hs:∀ j (h:j<l.length),u (st j)=cond (q l[j]) (some (.ret (r j))) (some (.next (st (j+1)))))(he:u (st l.length)=some (.out y)){fuel:Nat}(hf:l.length<fuel) :
  iter fuel u (st 0)=some (if l.findIdx q<l.length then .inr (r (l.findIdx q)) else .inl y):=by
 by_cases hlt:l.findIdx q<l.length
 ·rw[if_pos hlt]
  refine qz st (n:=l.findIdx q) (fun j hj=>?_) ?_ 0 fuel (Nat.zero_le _) (by omega)
  ·rw[hs j (by omega)]
   have:q (l[j]'(by omega))=false:=by simpa using fx hj
   rw[this];rfl
  ·rw[hs _ hlt]
   have:q (l[l.findIdx q]'hlt)=true:=h9
   rw[this];rfl
 ·rw[if_neg hlt]
  refine lE st (n:=l.length) (fun j hj=>?_) he 0 fuel (Nat.zero_le _) (by omega)
  rw[hs j hj]
  have:q (l[j]'(by omega))=false:=by simpa using fx (p:=q) (xs:=l) (i:=j) (by omega)
  rw[this];rfl
end Go.Sy
namespace Go.Proofs.Zz
open Go Go.Sy
set_option linter.unusedSimpArgs false
set_option linter.unusedVariables false
abbrev LT:=Int×(Int×(Int×(Int×Int)))
abbrev HT:=Int×(Int×Int)
abbrev DT:=(Int×Int)×((Int×Int)×(Int×(Int×(Int×Int))))
abbrev PT:=Int×(Int×(Int×Bool))
abbrev ST:=DT×(PT×(Int×(List HT×(List LT×List HT))))
noncomputable instance:DecidableEq ST:=fun _ _=>al _
abbrev Sz {α:Type}(l:List α):Prop:=l.length≤9223372036854775807
theorem eL (j:Nat):decide (0≤(j:Int))=true:=decide_eq_true (Int.natCast_nonneg j)
theorem gp {j n:Nat}(h:j<n):decide ((j:Int)<(n:Int))=true:=decide_eq_true (by omega)
theorem ow (n:Nat):decide ((n:Int)<(n:Int))=false:=decide_eq_false (by omega)
theorem nx {j n:Nat}(h:j<n)(hn:n≤9223372036854775807):eh .i64 ((j:Int)+1)=((j+1:Nat):Int):=by rw[bY (by omega) (by omega)];omega
theorem N8 {l:List LT}{j:Nat}(h:j<l.length):rd (.pair (.int .i64) (.pair (.int .i64) (.pair (.int .i64) (.pair (.int .i64) (.int .i64))))) l j=l[j]:=uc h
theorem JZ {l:List HT}{j:Nat}(h:j<l.length):rd (.pair (.int .i64) (.pair (.int .i64) (.int .i64))) l j=l[j]:=uc h
theorem rdI {l:List Int}{j:Nat}(h:j<l.length):rd (.int .i64) l j=l[j]:=uc h
theorem rdB {l:List Int}{j:Nat}(h:j<l.length):rd (.int .u8) l j=l[j]:=uc h
theorem uH (p q:Prop)[Decidable p][Decidable q]:(decide p&&decide q)=decide (p∧q):=by simp
def sO (k:Int):Int:=((2 ^ (32-k).toNat:Nat):Int)
def lQ (b k:Int):Prop:=0≤k∧k≤32∧0≤b∧b<4294967296∧b % sO k=0
instance (b k:Int):Decidable (lQ b k):=by unfold lQ;infer_instance
theorem u6 (k:Int):1≤sO k:=by unfold sO;have:1≤2 ^ (32-k).toNat:=Nat.one_le_two_pow;omega
theorem H7 {k:Int}(h:0≤k):sO k≤4294967296:=by
 unfold sO
 have:2 ^ (32-k).toNat≤2 ^ 32:=Nat.pow_le_pow_right (by omega) (by omega)
 omega
theorem Qt {k:Int}(h0:0≤k)(h1:k≤32):eh .i64 (1 * ((2:Int) ^ ((min (Int.toNat (eh .i64 (32-k))) 64):Nat)))=sO k:=by
 rw[bY (show -9223372036854775808≤32-k by omega) (by omega),im (by omega)]
 have:=H7 h0
 have:=u6 k
 have e:(1:Int) * ((2:Int) ^ (32-k).toNat)=sO k:=by simp[sO]
 rw[e,bY (by omega) (by omega)]
def b8 (b k:Int):Int:=if lQ b k then sO k else 0
theorem mo (b k:Int):0≤b8 b k∧b8 b k≤4294967296:=by
 unfold b8
 split
 ·rename_i h
  have:=u6 k
  have:=H7 h.1
  omega
 ·omega
theorem Tr {k:Int}(h:0≤k):(4294967296:Int) % sO k=0:=by
 unfold sO
 have:(2 ^ (32-k).toNat:Nat) ∣ 2 ^ 32:=Nat.pow_dvd_pow 2 (by omega)
 have h2:=Nat.mod_eq_zero_of_dvd this
 have:((2 ^ 32 % 2 ^ (32-k).toNat:Nat):Int)=0:=by rw[h2];rfl
 simpa using this
theorem x4 {b N m:Int}(hm:0<m)(hb:b % m=0)(hN:N % m=0)(h:b<N):b+m≤N:=by
 obtain⟨x,rfl⟩:=ky hb
 obtain⟨y,rfl⟩:=ky hN
 have:x<y:=by
  rcases Int.lt_or_le x y with h'|h'
  ·exact h'
  ·have:=ib h' (Int.le_of_lt hm);omega
 have:=ib (show x+1≤y by omega) (Int.le_of_lt hm)
 rw[Int.mul_add,Int.mul_one] at this
 exact this
theorem NF {b k:Int}(h:lQ b k):b+sO k≤4294967296:=
 x4 (by have:=u6 k;omega) h.2.2.2.2 (Tr h.1) h.2.2.2.1
def sM (b k a:Int):Int:=if lQ b k∧b≤a∧a<b+sO k then a-b else -1
theorem xor_zero (a b:Nat):a ^^^ b=0↔a=b:=by
 constructor
 ·intro h
  have:(a ^^^ b) ^^^ b=0 ^^^ b:=by rw[h]
  rwa [Nat.xor_assoc,Nat.xor_self,Nat.xor_zero,Nat.zero_xor] at this
 ·intro h;rw[h,Nat.xor_self]
theorem MY {n a m:Nat}(hm:0<m)(hn:n % m=0):a / m=n / m↔n≤a∧a<n+m:=by
 obtain⟨x,rfl⟩:=Nat.dvd_of_mod_eq_zero hn
 rw[Nat.mul_div_cancel_left _ hm]
 constructor
 ·intro h
  have h1:=Nat.div_mul_le_self a m
  have h2:=Nat.lt_div_mul_add hm (a:=a)
  rw[h] at h1 h2
  rw[my m x]
  omega
 ·intro ⟨h1,h2⟩
  rw[my m x] at h1 h2
  rw[Nat.div_eq_iff hm]
  constructor
  ·omega
  ·omega
def zH (b k b' k':Int):Prop:=lQ b k∧lQ b' k'∧((b≤b'∧b'<b+sO k)∨(b'≤b∧b<b'+sO k'))
instance (b k b' k':Int):Decidable (zH b k b' k'):=by unfold zH;infer_instance
theorem Fl (b k a:Int):sM b k a ≠ -1↔lQ b k∧b≤a∧a<b+sO k:=by
 unfold sM
 split
 ·rename_i h;constructor
  ·exact fun _=>h
  ·intro _;omega
 ·rename_i h;constructor
  ·exact fun h'=>absurd rfl h'
  ·exact fun h'=>absurd h' h
def Lg (x y:Int):Int:=(x-1) / y+1
def Mx (D:DT):Int:=b8 D.1.1 D.1.2
def o6 (D:DT):Int:=b8 D.2.1.1 D.2.1.2
abbrev Hg (D:DT):Int:=D.2.2.1
abbrev CV (D:DT):Int:=D.2.2.2.1
abbrev jq (D:DT):Int:=D.2.2.2.2.1
abbrev FA (D:DT):Int:=D.2.2.2.2.2
def pG (D:DT):Int:=Lg (Mx D) (o6 D)
def each (D:DT):Int:=(CV D-Hg D+1-jq D) / pG D
def zT (D:DT):Int:=jq D / FA D
structure iL (D:DT):Prop where
 x1:1≤Mx D
 x2:Mx D≤32
 y1:1≤o6 D
 y2:o6 D≤4
 meet:¬ zH D.1.1 D.1.2 D.2.1.1 D.2.1.2
 ZK:1≤Hg D
 lo2:Hg D≤CV D
 hi:CV D≤65535
 g1:0≤jq D
 g2:jq D≤CV D-Hg D
 h1:1≤FA D
 h2:FA D≤65535
 blk:zT D≤8
 sh:pG D≤CV D-Hg D+1-jq D
noncomputable instance (D:DT):Decidable (iL D):=al _
section
variable {D:DT}
theorem iL.Tj (F:iL D):1≤pG D∧pG D≤32:=by
 unfold pG Lg
 have h1:0≤(Mx D-1) / o6 D:=Int.ediv_nonneg (by have:=F.x1;omega) (by have:=F.y1;omega)
 have h2:(Mx D-1) / o6 D≤Mx D-1:=Int.ediv_le_self _ (by have:=F.x1;omega)
 have:=F.x2
 omega
theorem iL.Q1 (F:iL D):1≤each D∧pG D * each D≤CV D-Hg D+1-jq D:=by
 have hr:=F.Tj
 have hs:=F.sh
 unfold each
 generalize pG D=n at hr hs ⊢
 refine⟨?_,Int.mul_ediv_self_le (by omega)⟩
 exact (Int.le_ediv_iff_mul_le (by omega)).2 (by omega)
def jz (D:DT)(sub:Int):Int:=Hg D+sub % pG D * each D
def Rk (D:DT)(sub:Int):HT:=(sub / pG D,(jz D sub,jz D sub+each D-1))
def Cs (D:DT)(sub:Int):Prop:=iL D∧0≤sub∧sub<Mx D
noncomputable instance (sub:Int):Decidable (Cs D sub):=al _
theorem iL.base (F:iL D){sub:Int}(h0:0≤sub)(h1:sub<Mx D) :
  0≤sub / pG D∧sub / pG D<o6 D∧Hg D≤jz D sub∧jz D sub+each D-1≤CV D-jq D∧0≤sub % pG D * each D:=by
 have hr:=F.Tj
 have he:=F.Q1
 have hx:=F.x2
 have hy1:=F.y1
 have hy2:=F.y2
 have hxy:Mx D≤o6 D * pG D:=by
  unfold pG Lg
  generalize Mx D=x at h1 hx ⊢
  generalize o6 D=y at hy1 hy2 ⊢
  have:y=1∨y=2∨y=3∨y=4:=by omega
  rcases this with rfl|rfl|rfl|rfl<;>omega
 unfold jz
 generalize pG D=n at hr he hxy ⊢
 generalize each D=w at he ⊢
 have m0:=Int.emod_nonneg sub (show n≠0 by omega)
 have m1:=Int.emod_lt_of_pos sub (show 0<n by omega)
 have k0:0≤sub % n * w:=Int.mul_nonneg m0 (by omega)
 have k1:(sub % n+1) * w≤n * w:=gn (by omega) (by omega)
 rw[Int.add_mul,Int.one_mul] at k1
 refine⟨Int.ediv_nonneg h0 (by omega),Int.ediv_lt_of_lt_mul (by omega) (by omega),by omega,by omega,k0⟩
def sn (D:DT)(at' blk:Int):Prop:=iL D∧(0≤at'∧at'<o6 D)∧0≤blk∧blk<zT D
noncomputable instance (at' blk:Int):Decidable (sn D at' blk):=al _
def ZW (D:DT)(at' blk:Int):HT:=(at',(CV D-jq D+1+blk * FA D,CV D-jq D+1+blk * FA D+FA D-1))
theorem iL.block (F:iL D){blk:Int}(h0:0≤blk)(h1:blk<zT D):0≤blk * FA D∧blk * FA D+FA D≤jq D:=by
 have hh:=F.h1
 have k1:(blk+1) * FA D≤zT D * FA D:=gn (by omega) (by omega)
 have k2:zT D * FA D≤jq D:=Int.ediv_mul_le _ (by omega)
 rw[Int.add_mul,Int.one_mul] at k1
 exact⟨Int.mul_nonneg h0 (by omega),by omega⟩
end
def hasB (p:HT)(at':Int):Bool:=decide (0≤p.1)&&(decide (p.1≤4)&&(decide (1≤p.2.1)&&(decide (p.2.1≤4)&&(decide (p.1≤at')&&decide (at'<p.1+p.2.1)))))
def iS (p q:HT):Bool:=decide (p.1<q.1+q.2.1)&&decide (q.1<p.1+p.2.1)
def iR (p:HT)(out:Int):Prop:=0≤p.1∧1≤p.2.1∧p.1<out∧p.2.1≤out-p.1∧0≤p.2.2∧p.2.2<2
instance (p:HT)(out:Int):Decidable (iR p out):=by unfold iR;infer_instance
structure cF (l:List HT)(out:Int):Prop where
 ZS:0≤out
 X7:out≤4
 len:l.length≤3
 fits:∀ p∈l,iR p out
 apart:l.Pairwise fun p q=>iS q p=false
noncomputable instance (l:List HT)(out:Int):Decidable (cF l out):=al _
def Au (P:List HT)(at':Int):Int:=if P.findIdx (fun p=>hasB p at')<P.length then ((P.findIdx (fun p=>hasB p at'):Nat):Int) else -1
def inB (P:List HT)(at':Int):Bool:=P.any fun p=>hasB p at'
theorem ri {α:Type}(l:List α)(q:α→Bool):((if l.findIdx q<l.length then ((l.findIdx q:Nat):Int) else -1) = -1)↔l.any q=false:=by
 have e:l.findIdx q<l.length↔∃ x,x∈l∧q x=true:=List.findIdx_lt_length
 split
 ·rename_i h
  have:l.any q=true:=by rw[eJ];exact e.1 h
  rw[this];constructor
  ·intro h;omega
  ·intro h;cases h
 ·rename_i h
  have:l.any q=false:=by
   cases hb:l.any q with
   | false=>rfl
   | true=>rw[eJ] at hb;exact absurd (e.2 hb) h
  rw[this];simp
theorem tg (P:List HT)(at':Int):(Au P at' = -1)↔inB P at'=false:=ri P _
def x6 (p:PT):Prop:=(1≤p.1∧p.1≤8)∧(1≤p.2.1∧p.2.1≤1048576)∧0≤p.2.2.1∧p.2.2.1≤1048576
instance (p:PT):Decidable (x6 p):=by unfold x6;infer_instance
def vm (x1 x2 y1 y2:Int):Prop:=x1<y1∨(x1=y1∧x2<y2)
instance (x1 x2 y1 y2:Int):Decidable (vm x1 x2 y1 y2):=by unfold vm;infer_instance
def ov (x y:LT):Prop:=vm x.2.1 x.2.2.1 y.2.1 y.2.2.1
def p8 (x y:HT):Prop:=vm x.1 x.2.1 y.1 y.2.1
instance (x y:LT):Decidable (ov x y):=by unfold ov;infer_instance
instance (x y:HT):Decidable (p8 x y):=by unfold p8;infer_instance
theorem zJ {a b c d e f:Int}(h1:vm a b c d)(h2:vm c d e f):vm a b e f:=by unfold vm at *;omega
def cnt (L:List LT)(sub:Int):Nat:=L.countP fun x=>decide (x.1=sub)
abbrev tL (a b:Int):LT→Bool:=fun x=>decide (x.2.1=a)&&decide (x.2.2.1=b)
def gT (L:List LT)(a b:Int):Int:=if L.findIdx (tL a b)<L.length then ((L.findIdx (tL a b):Nat):Int) else -1
def mA (L:List LT)(a b:Int):Bool:=L.any (tL a b)
theorem dY (L:List LT)(a b:Int):(gT L a b = -1)↔mA L a b=false:=ri L _
structure nJ (D:DT)(p:PT)(now:Int)(P:List HT)(x:LT):Prop where
 sub:Cs D x.1
 blk:sn D x.2.1 x.2.2.1
 ZR:inB P x.2.1=true
 pair:p.2.2.2=true→x.1 / pG D=x.2.1
 UX:0≤x.2.2.2.1
 Vt:x.2.2.2.1≤x.2.2.2.2
 UI:x.2.2.2.2≤now
 idle:now-p.2.1<x.2.2.2.2
structure bT (D:DT)(p:PT)(now:Int)(P:List HT)(L:List LT):Prop where
 each:∀ x∈L,nJ D p now P x
 JG:∀ x∈L,((cnt L x.1:Nat):Int)≤p.1
 Gr:L.Pairwise ov
structure vp (D:DT)(now:Int)(L:List LT)(x:HT):Prop where
 blk:sn D x.1 x.2.1
 abh:now+1≤x.2.2
 VO:x.2.2≤now+1048576
 free:mA L x.1 x.2.1=false
structure cK (D:DT)(now:Int)(L:List LT)(H:List HT):Prop where
 each:∀ x∈H,vp D now L x
 Gr:H.Pairwise p8
structure bS (s:ST):Prop where
 fit:iL s.1
 pol:x6 s.2.1
 Uv:0≤s.2.2.1
 acv:s.2.2.1≤1073741824
 Jv:cF s.2.2.2.1 (o6 s.1)
 o8:bT s.1 s.2.1 s.2.2.1 s.2.2.2.1 s.2.2.2.2.1
 len:s.2.2.2.2.1.length≤32
 DG:cK s.1 s.2.2.1 s.2.2.2.2.1 s.2.2.2.2.2
noncomputable instance (s:ST):Decidable (bS s):=al _
noncomputable instance (D:DT)(p:PT)(now:Int)(P:List HT)(L:List LT):Decidable (bT D p now P L):=al _
noncomputable instance (D:DT)(now:Int)(L:List LT)(H:List HT):Decidable (cK D now L H):=al _
theorem bC {α:Type}{l:List α}{j:Nat}(h:j<l.length):l.take (j+1)=l.take j++[l[j]]:=by rw[gg h]
theorem uL {α:Type}{r:α→α→Prop}(tr:∀ a b c,r a b→r b c→r a c){l:List α}{j:Nat}(h:j<l.length)(hp:(l.take j).Pairwise r) :
  (l.take (j+1)).Pairwise r↔∀ (h0:0<j),r (l[j-1]'(by omega)) l[j]:=by
 rw[bC h,List.pairwise_append]
 constructor
 ·intro ⟨_,_,h3⟩ h0
  refine h3 _ ?_ _ (by simp)
  rw[ik]
  exact⟨j-1,by rw[ba];omega,by rw[dE]⟩
 ·intro h3
  refine⟨hp,by simp,fun a ha b hb=>?_⟩
  rw[dd] at hb
  subst hb
  obtain⟨i,hi,rfl⟩:=ik.1 ha
  rw[ba] at hi
  rw[dE]
  have h0:0<j:=by omega
  by_cases e:i=j-1
  ·subst e;exact h3 h0
  ·refine tr _ _ _ ?_ (h3 h0)
   have:=(dt.1 hp) i (j-1) (by rw[ba];omega) (by rw[ba];omega) (by omega)
   rwa [dE,dE] at this
theorem yq (x y z:LT)(h1:ov x y)(h2:ov y z):ov x z:=zJ h1 h2
theorem zg (x y z:HT)(h1:p8 x y)(h2:p8 y z):p8 x z:=zJ h1 h2
theorem xC (M:List LT)(x:LT)(s:Int):cnt (M++[x]) s=cnt M s+(if x.1=s then 1 else 0):=by
 unfold cnt
 rw[List.countP_append,List.countP_singleton]
 by_cases h:x.1=s<;>simp[h]
section
variable {D:DT}{p:PT}{now:Int}{P:List HT}{L:List LT}{H:List HT}
theorem bT.nil:bT D p now P []:=⟨by simp,by simp,by simp⟩
theorem bT.take (h:bT D p now P L)(j:Nat):bT D p now P (L.take j):=
 ⟨fun x hx=>h.each x (ap hx),fun x hx=>by
  have h1:=h.JG x (ap hx)
  have h2:cnt (L.take j) x.1≤cnt L x.1:=(kh j L).countP_le
  omega,h.Gr.sublist (kh j L)⟩
theorem bT.snoc {j:Nat}(hj:j<L.length)(h:bT D p now P (L.take j)) :
  bT D p now P (L.take (j+1))↔nJ D p now P L[j]∧((cnt (L.take j) L[j].1+1:Nat):Int)≤p.1∧∀ (h0:0<j),ov (L[j-1]'(by omega)) L[j]:=by
 have hmem:L[j]∈L.take (j+1):=by rw[bC hj];exact du.2 (.inr (dd.2 rfl))
 constructor
 ·intro k
  refine⟨k.each _ hmem,?_,(uL (r:=ov) @yq hj h.Gr).1 k.Gr⟩
  have:=k.JG _ hmem
  rw[bC hj,xC,if_pos rfl] at this
  exact this
 ·intro ⟨k1,k2,k3⟩
  refine⟨fun x hx=>?_,fun x hx=>?_,(uL (r:=ov) @yq hj h.Gr).2 k3⟩
  ·rw[bC hj] at hx
   rcases du.1 hx with hx|hx
   ·exact h.each x hx
   ·rw[dd] at hx;rw[hx];exact k1
  ·rw[bC hj,xC]
   rw[bC hj] at hx
   split
   ·rename_i e;rw[← e];omega
   ·rename_i e
    rcases du.1 hx with hx|hx
    ·exact h.JG x hx
    ·rw[dd] at hx;rw[hx] at e;exact absurd rfl e
theorem cK.nil:cK D now L []:=⟨by simp,by simp⟩
theorem cK.take (h:cK D now L H)(j:Nat):cK D now L (H.take j):=
 ⟨fun x hx=>h.each x (ap hx),h.Gr.sublist (kh j H)⟩
theorem cK.snoc {j:Nat}(hj:j<H.length)(h:cK D now L (H.take j)) :
  cK D now L (H.take (j+1))↔vp D now L H[j]∧∀ (h0:0<j),p8 (H[j-1]'(by omega)) H[j]:=by
 have hmem:H[j]∈H.take (j+1):=by rw[bC hj];exact du.2 (.inr (dd.2 rfl))
 constructor
 ·intro k
  exact⟨k.each _ hmem,(uL (r:=p8) @zg hj h.Gr).1 k.Gr⟩
 ·intro ⟨k1,k3⟩
  refine⟨fun x hx=>?_,(uL (r:=p8) @zg hj h.Gr).2 k3⟩
  rw[bC hj] at hx
  rcases du.1 hx with hx|hx
  ·exact h.each x hx
  ·rw[dd] at hx;rw[hx];exact k1
end
theorem Io {α X Y Z:Type}{u:X→Option (R3 X Y Z)}(del:α→Bool)(st:Nat→Nat→List α→X)(out:Nat→List α→Y)(N:Nat)
  (hstep:∀ i j (l:List α) (h:j<l.length) (hi:i<j),l.length=N→u (st i j l)=some (.next (if del l[j]=true then st i (j+1) l else st (i+1) (j+1) (l.set i l[j]))))
  (hout:∀ i (l:List α),i<l.length→u (st i l.length l)=some (.out (out i l))) :
  ∀ (d i j:Nat) (l:List α) (fuel:Nat),l.length=N→j+d=l.length→i<j→d<fuel →
   ∃ k l',iter fuel u (st i j l)=some (.inl (out k l'))∧k=i+((l.drop j).filter fun x=>!del x).length∧l'.take k=l.take i++(l.drop j).filter (fun x=>!del x)∧l'.length=l.length
 | _,i,j,l,0,_,_,_,hf=>by omega
 | 0,i,j,l,fuel+1,hN,hj,hi,hf=>by
  have e:j=l.length:=by omega
  subst e
  refine⟨i,l,bW (hout i l (by omega)),by simp,by simp,rfl⟩
 | d+1,i,j,l,fuel+1,hN,hj,hi,hf=>by
  have hlt:j<l.length:=by omega
  have hs:=hstep i j l hlt hi hN
  have hdrop:l.drop j=l[j]::l.drop (j+1):=by rw[kb hlt]
  by_cases hd:del l[j]=true
  ·rw[if_pos hd] at hs
   obtain⟨k,l',h1,h2,h3,h4⟩:=Io del st out N hstep hout d i (j+1) l fuel hN (by omega) (by omega) (by omega)
   refine⟨k,l',by rw[← h1];exact bH hs,?_,?_,h4⟩
   ·rw[hdrop,eK,if_neg (by simp[hd])];exact h2
   ·rw[hdrop,eK,if_neg (by simp[hd])];exact h3
  ·rw[if_neg hd] at hs
   obtain⟨k,l',h1,h2,h3,h4⟩:=Io del st out N hstep hout d (i+1) (j+1) (l.set i l[j]) fuel (by rw[dp];exact hN) (by rw[dp];omega) (by omega) (by omega)
   have hdr:(l.set i l[j]).drop (j+1)=l.drop (j+1):=List.drop_set_of_lt (by omega)
   rw[hdr] at h2 h3
   rw[dp] at h4
   have htk:(l.set i l[j]).take (i+1)=l.take i++[l[j]]:=by
    rw[gg (by rw[dp];omega),List.take_set_of_le (ma i)]
    simp
   refine⟨k,l',by rw[← h1];exact bH hs,?_,?_,h4⟩
   ·rw[hdrop,eK,if_pos (by simp[hd]),ae];omega
   ·rw[hdrop,eK,if_pos (by simp[hd]),h3,htk];simp
theorem JC {α X Y Z:Type}{u:X→Option (R3 X Y Z)}(del:α→Bool)(st:Nat→Nat→List α→X)(out:Nat→List α→Y)(l:List α)
  (hstep:∀ i j (m:List α) (h:j<m.length) (hi:i<j),m.length=l.length→u (st i j m)=some (.next (if del m[j]=true then st i (j+1) m else st (i+1) (j+1) (m.set i m[j]))))
  (hout:∀ i (m:List α),i<m.length→u (st i m.length m)=some (.out (out i m))) (hl:l.length<az) (hi:l.findIdx del<l.length) :
  ∃ k l',iter az u (st (l.findIdx del) (l.findIdx del+1) l)=some (.inl (out k l'))∧k=(l.filter fun x=>!del x).length∧l'.take k=l.filter (fun x=>!del x)∧l'.length=l.length:=by
 obtain⟨k,l',h1,h2,h3,h4⟩:=Io del st out l.length hstep hout (l.length-(l.findIdx del+1)) (l.findIdx del) (l.findIdx del+1) l az rfl (by omega) (by omega) (by omega)
 have hat:del l[l.findIdx del]=true:=h9 (w:=hi)
 have hfirst:(l.take (l.findIdx del)).filter (fun x=>!del x)=l.take (l.findIdx del):=by
  rw[List.filter_eq_self]
  intro x hx
  obtain⟨j,hj,rfl⟩:=ik.1 hx
  rw[ba] at hj
  rw[dE]
  have:=fx (p:=del) (xs:=l) (i:=j) (by omega)
  simpa using this
 have hfil:l.filter (fun x=>!del x)=l.take (l.findIdx del)++(l.drop (l.findIdx del+1)).filter (fun x=>!del x):=by
  conv=>lhs;rw[← bj (l.findIdx del) l]
  rw[List.filter_append,hfirst,kb hi,eK,if_neg (by simp[hat])]
 refine⟨k,l',h1,?_,by rw[h3,hfil],h4⟩
 rw[hfil,aw,ba]
 omega
theorem bu {a b:Nat}(h:a≤b):decide ((a:Int)≤(b:Int))=true:=decide_eq_true (by omega)
def kL (x:LT):Int×Int:=(x.2.1,x.2.2.1)
def kH (x:HT):Int×Int:=(x.1,x.2.1)
def ltP (b c:Int×Int):Prop:=vm b.1 b.2 c.1 c.2
instance (b c:Int×Int):Decidable (ltP b c):=by unfold ltP;infer_instance
section
variable {α:Type}{k:α→Int×Int}
abbrev lC (k:α→Int×Int)(b:Int×Int)(y:α):Bool:=decide (ltP b (k y))
def uh (k:α→Int×Int)(l:List α)(x:α):List α:=l.take (l.findIdx (lC k (k x)))++x::l.drop (l.findIdx (lC k (k x)))
theorem DO (l:List α)(x:α):(uh k l x).length=l.length+1:=by
 have:l.findIdx (lC k (k x))≤l.length:=List.findIdx_le_length
 unfold uh
 simp only[aw,ba,ae,eQ];omega
theorem Ln (l:List α)(x:α):(uh k l x).Perm (x::l):=by
 unfold uh
 refine List.perm_middle.trans (List.Perm.cons x ?_)
 rw[bj]
theorem vJ {l:List α}{x y:α}:y∈uh k l x↔y=x∨y∈l:=by
 rw[(Ln (k:=k) l x).mem_iff,dj]
end
def vV (H:List HT)(now:Int):List HT:=H.filter fun x=>!decide (x.2.2≤now)
def zk (H:List HT)(x:HT):List HT:=uh kH (H.filter fun y=>!decide (kH y=kH x)) x
def yg (L:List LT)(x:LT):List LT×Bool:=if mA L x.2.1 x.2.2.1=true∨32≤L.length then (L,false) else (uh kL L x,true)
def xz (L:List LT)(a b:Int):List LT:=L.eraseIdx (L.findIdx (tL a b))
def fS (L:List LT)(now:Int):List LT:=L.map fun x=>(x.1,(x.2.1,(x.2.2.1,(x.2.2.2.1,now))))
def cW (s:ST)(now:Int):ST:=(s.1,(s.2.1,(now,(s.2.2.2.1,(fS s.2.2.2.2.1 now,vV s.2.2.2.2.2 now)))))
def fK (s:ST)(now:Int):Prop:=bS s∧s.2.2.1≤now∧now≤1073741824
noncomputable instance (s:ST)(now:Int):Decidable (fK s now):=al _
noncomputable def settle (s:ST)(now:Int):ST×Bool:=if fK s now then (cW s now,true) else (s,false)
def jr (l:List LT):List Int:=Lib.compact ((l.map (·.2.1)).mergeSort fun x y=>decide (x≤y))
theorem mh (L:List LT)(now:Int):(fS L now).length=L.length:=by unfold fS;rw[ft]
theorem Qk (L:List LT)(now s:Int):cnt (fS L now) s=cnt L s:=by
 unfold cnt fS
 rw[List.countP_map];rfl
theorem MZ (L:List LT)(now a b:Int):mA (fS L now) a b=mA L a b:=by
 unfold mA fS
 rw[List.any_map];rfl
theorem HY {s:ST}{now:Int}(h:fK s now):bS (cW s now):=by
 obtain⟨M,h1,h2⟩:=h
 have hid:=M.pol.2.1
 refine⟨M.fit,M.pol,ll M.Uv h1,h2,M.Jv,⟨fun x hx=>?_,fun x hx=>?_,?_⟩,?_,⟨fun x hx=>?_,?_⟩⟩
 ·obtain⟨y,hy,rfl⟩:=bm.1 hx
  have:=M.o8.each y hy
  exact⟨this.sub,this.blk,this.ZR,this.pair,this.UX,by have a:=this.Vt;have b:=this.UI;exact ll a (ll b h1),Int.le_refl _,by show now-s.2.1.2.1<now;omega⟩
 ·obtain⟨y,hy,rfl⟩:=bm.1 hx
  show ((cnt (fS s.2.2.2.2.1 now) y.1:Nat):Int)≤s.2.1.1
  rw[Qk]
  exact M.o8.JG y hy
 ·exact List.Pairwise.map _ (fun _ _ h=>h) M.o8.Gr
 ·show (fS s.2.2.2.2.1 now).length≤32
  rw[mh];exact M.len
 ·have hx':x∈s.2.2.2.2.2.filter fun x=>!decide (x.2.2≤now):=hx
  rw[dv] at hx'
  obtain⟨hx1,hx2⟩:=hx'
  have:=M.DG.each x hx1
  have hlt:¬ x.2.2≤now:=by simpa using hx2
  refine⟨this.blk,by show now+1≤x.2.2;omega,ll this.VO (by show s.2.2.1+1048576≤now+1048576;omega),?_⟩
  show mA (fS s.2.2.2.2.1 now) x.1 x.2.1=false
  rw[MZ];exact this.free
 ·exact M.DG.Gr.sublist List.filter_sublist
theorem Kx:∀ (l:List Int) (lo hi:Int),l.Pairwise (· < ·)→(∀ x∈l,lo≤x∧x<hi)→(l.length:Int)≤max 0 (hi-lo)
 | [],lo,hi,_,_=>by simp;omega
 | a::l,lo,hi,hp,hb=>by
  obtain⟨h1,h2⟩:=List.pairwise_cons.1 hp
  have ha:=hb a (by simp)
  have:=Kx l (a+1) hi h2 (fun x hx=>⟨by have:=h1 x hx;omega,(hb x (by simp[hx])).2⟩)
  rw[ae]
  omega
theorem bS.aaK {s:ST}(M:bS s):s.2.2.2.2.2.length≤32:=by
 have hb:∀ x∈s.2.2.2.2.2,(0≤x.1∧x.1<4)∧0≤x.2.1∧x.2.1<8:=fun x hx=>by
  have h:=(M.DG.each x hx).blk
  have:=M.fit.y2
  have:=M.fit.blk
  have h1:=h.2.1
  have h2:=h.2.2
  omega
 have:=Kx (s.2.2.2.2.2.map fun x=>8 * x.1+x.2.1) 0 32 (by
  rw[km]
  have hp:=M.DG.Gr
  refine (gk.2 fun {x y} hs=>?_)
  have hlt:=gk.1 hp hs
  have hx:=hb x (hs.subset (by simp))
  have hy:=hb y (hs.subset (by simp))
  unfold p8 vm at hlt
  omega) (fun z hz=>by
  obtain⟨x,hx,rfl⟩:=bm.1 hz
  have:=hb x hx
  omega)
 rw[ft] at this
 omega
abbrev ET:=Int×(Int×(Int×(Int×(Int×PT))))
def fX (n a b:Int):Prop:=a≤n∧n≤b
instance (n a b:Int):Decidable (fX n a b):=by unfold fX;infer_instance
def fL (k a b c:Int)(p:PT):Prop:=
 if k=0∨k=1 then fX a 0 31∧fX b 0 3∧fX c 0 7
 else if k=2 then fX a 0 3∧fX b 1 4∧fX c 0 0
 else if k=4 then fX a 0 2∧fX b 1 4∧fX c 0 0
 else if k=3∨k=5 then fX a 0 2∧fX b 0 0∧fX c 0 0
 else if k=6 then x6 p∧fX a 0 0∧fX b 0 0∧fX c 0 0
 else False
instance (k a b c:Int)(p:PT):Decidable (fL k a b c p):=by unfold fL;infer_instance
def eE (e:ET):Prop:=fX e.2.1 0 1073741824∧(e.1≠6→e.2.2.2.2.2=(0,(0,(0,false))))∧fL e.1 e.2.2.1 e.2.2.2.1 e.2.2.2.2.1 e.2.2.2.2.2
instance (e:ET):Decidable (eE e):=by unfold eE;infer_instance
abbrev cq (P:List HT)(k:Int):HT:=P.getD k.toNat (0,(0,0))
def tf (P:List HT)(out but:Int)(p:HT):Int:=
 if ¬ iR p out then 1
 else if (List.range P.length).any (fun j=>!decide ((j:Int)=but)&&iS p (P.getD j (0,(0,0))))=true then 11
 else if but = -1∧P.length=3 then 9 else 0
def JM (busy:List Int)(p q:HT):Bool:=busy.any fun at'=>hasB p at' && !hasB q at'
noncomputable def EQ (P:List HT)(out a n:Int):List HT×Int:=
 if ¬ cF P out then (P,1)
 else if tf P out (-1) (a,(n,0))≠0 then (P,tf P out (-1) (a,(n,0)))
 else (P++[(a,(n,0))],0)
noncomputable def nw (P:List HT)(out k:Int):List HT×Int:=
 if ¬ cF P out then (P,1)
 else if k<0∨(P.length:Int)≤k then (P,5)
 else if (cq P k).2.2=1 then (P,11)
 else (P.set k.toNat ((cq P k).1,((cq P k).2.1,1)),0)
noncomputable def tv (P:List HT)(out k n:Int)(busy:List Int):List HT×Int:=
 if ¬ cF P out then (P,1)
 else if k<0∨(P.length:Int)≤k then (P,5)
 else if tf P out k ((cq P k).1,(n,(cq P k).2.2))≠0 then (P,tf P out k ((cq P k).1,(n,(cq P k).2.2)))
 else if JM busy (cq P k) ((cq P k).1,(n,(cq P k).2.2))=true then (P,12)
 else (P.set k.toNat ((cq P k).1,(n,(cq P k).2.2)),0)
noncomputable def s9 (P:List HT)(out k:Int)(busy:List Int):List HT×Int:=
 if ¬ cF P out then (P,1)
 else if k<0∨(P.length:Int)≤k then (P,5)
 else if (cq P k).2.2=0∨JM busy (cq P k) (0,(0,0))=true then (P,12)
 else (P.eraseIdx k.toNat,0)
abbrev mK (t:ST)(P:List HT):ST:=(t.1,(t.2.1,(t.2.2.1,(P,(t.2.2.2.2.1,t.2.2.2.2.2)))))
abbrev abG (t:ST)(L:List LT):ST:=(t.1,(t.2.1,(t.2.2.1,(t.2.2.2.1,(L,t.2.2.2.2.2)))))
abbrev Nl (t:ST)(L:List LT)(H:List HT):ST:=(t.1,(t.2.1,(t.2.2.1,(t.2.2.2.1,(L,H)))))
abbrev Oa (t:ST)(p:PT):ST:=(t.1,(p,(t.2.2.1,(t.2.2.2.1,(t.2.2.2.2.1,t.2.2.2.2.2)))))
def Gx (t:ST)(r:List HT×Int):Option ST:=if r.2=0 then some (mK t r.1) else none
def J0 (t:ST)(e:ET):Option ST:=
 if gT t.2.2.2.2.1 e.2.2.2.1 e.2.2.2.2.1 = -1 then none
 else if (t.2.2.2.2.1.getD (gT t.2.2.2.2.1 e.2.2.2.1 e.2.2.2.2.1).toNat (0,(0,(0,(0,0))))).1≠e.2.2.1 then none
 else some (Nl t (xz t.2.2.2.2.1 e.2.2.2.1 e.2.2.2.2.1) (if 0<t.2.1.2.2.1 then zk t.2.2.2.2.2 (e.2.2.2.1,(e.2.2.2.2.1,e.2.1+t.2.1.2.2.1)) else t.2.2.2.2.2))
noncomputable def zh (t:ST)(e:ET):Option ST:=
 if e.1=0 then (if (yg t.2.2.2.2.1 (e.2.2.1,(e.2.2.2.1,(e.2.2.2.2.1,(e.2.1,e.2.1))))).2=true then some (abG t (yg t.2.2.2.2.1 (e.2.2.1,(e.2.2.2.1,(e.2.2.2.2.1,(e.2.1,e.2.1))))).1) else none)
 else if e.1=1 then J0 t e
 else if e.1=6 then some (Oa t e.2.2.2.2.2)
 else if e.1=2 then Gx t (EQ t.2.2.2.1 (o6 t.1) e.2.2.1 e.2.2.2.1)
 else if e.1=3 then Gx t (nw t.2.2.2.1 (o6 t.1) e.2.2.1)
 else if e.1=4 then Gx t (tv t.2.2.2.1 (o6 t.1) e.2.2.1 e.2.2.2.1 (jr t.2.2.2.2.1))
 else Gx t (s9 t.2.2.2.1 (o6 t.1) e.2.2.1 (jr t.2.2.2.2.1))
noncomputable def bp (s:ST)(e:ET):ST×Int:=
 if ¬ bS s∨¬ eE e then (s,1)
 else if ¬ fK s e.2.1 then (s,10)
 else match zh (cW s e.2.1) e with
  | none=>(s,2)
  | some t=>if bS t then (t,0) else (s,2)
noncomputable def mU (s:ST):List ET→ST×Int
 | []=>(s,0)
 | e::l=>if (bp s e).2=0 then mU (bp s e).1 l else (s,(bp s e).2)
noncomputable def dV (s:ST)(l:List ET):ST×Int:=if (mU s l).2=0 then mU s l else (s,(mU s l).2)
theorem zD {s:ST}{e:ET}(h:(bp s e).2≠0):(bp s e).1=s:=by
 unfold bp at h ⊢
 split
 ·rfl
 ·split
  ·rfl
  ·rename_i h1 h2
   rw[if_neg h1,if_neg h2] at h
   split
   ·rfl
   ·rename_i t ht
    rw[ht] at h
    simp only at h
    split
    ·rename_i hm;rw[if_pos hm] at h;exact absurd rfl h
    ·rfl
theorem nL {s:ST}{e:ET}(h:(bp s e).2=0):bS s∧eE e∧fK s e.2.1∧bS (bp s e).1∧zh (cW s e.2.1) e=some (bp s e).1:=by
 unfold bp at h ⊢
 split at h
 ·cases h
 ·rename_i h1
  split at h
  ·cases h
  ·rename_i h2
   rw[if_neg h1,if_neg h2]
   have hM:bS s:=gl.1 fun k=>h1 (.inl k)
   have hE:eE e:=gl.1 fun k=>h1 (.inr k)
   split at h
   ·cases h
   ·rename_i t ht
    split at h
    ·rename_i hm
     rw[ht]
     show bS s∧eE e∧fK s e.2.1∧bS (if bS t then (t,(0:Int)) else (s,2)).1∧some t=some (if bS t then (t,(0:Int)) else (s,2)).1
     rw[if_pos hm]
     exact⟨hM,hE,gl.1 h2,hm,rfl⟩
    ·cases h
theorem Ig {t u:ST}{e:ET}(h:zh t e=some u):u.1=t.1∧u.2.2.1=t.2.2.1:=by
 unfold zh J0 Gx at h
 repeat' split at h
 all_goals first|(cases h;exact⟨rfl,rfl⟩)|cases h
def eC (n:Nat):List Nat:=if h:n<128 then [n] else (n % 128+128)::eC (n / 128)
termination_by n
decreasing_by omega
theorem iu {n:Nat}(h:n<128):eC n=[n]:=by rw[eC,dif_pos h]
theorem gQ {n:Nat}(h:¬ n<128):eC n=(n % 128+128)::eC (n / 128):=by rw[eC,dif_neg h]
theorem MB (n:Nat):1≤(eC n).length:=by
 by_cases h:n<128
 ·rw[iu h];simp
 ·rw[gQ h];simp
theorem Dv:∀ (k n:Nat),n<128 ^ (k+1)→(eC n).length≤k+1
 | 0,n,h=>by rw[iu (by simpa using h)];simp
 | k+1,n,h=>by
  by_cases h1:n<128
  ·rw[iu h1];simp
  ·rw[gQ h1,ae]
   have:=Dv k (n / 128) (by rw[Nat.pow_succ] at h;omega)
   omega
theorem yR {n:Nat}(h:n≤1099511627776):(eC n).length≤6:=Dv 5 n (by omega)
def Ol:Nat→Nat→List Nat→Option (Nat×Nat)
 | _,_,[]=>none
 | i,acc,c::r=>
  if 128≤c then Ol (i+1) (acc+(c-128) * 2 ^ (7 * i)) r
  else if c=0∧0<i then none
  else if 1099511627776<acc+c * 2 ^ (7 * i) then none
  else some (acc+c * 2 ^ (7 * i),i+1)
def qO (l:List Nat):Option (Nat×Nat):=Ol 0 0 (l.take 6)
theorem XB (i:Nat):2 ^ (7 * (i+1))=128 * 2 ^ (7 * i):=by rw[Nat.mul_add,Nat.pow_add];omega
theorem TE (r:List Nat):∀ (n i acc:Nat),(0<i→0<n)→acc+n * 2 ^ (7 * i)≤1099511627776→Ol i acc (eC n++r)=some (acc+n * 2 ^ (7 * i),i+(eC n).length):=by
 intro n
 induction n using Nat.strongRecOn with
 | ind n ih=>
  intro i acc hi hm
  by_cases h:n<128
  ·rw[iu h]
   simp only[fa,List.nil_append,Ol,lL]
   rw[if_neg (by omega),if_neg (by intro k;have:=hi k.2;omega),if_neg (by omega)]
  ·rw[gQ h]
   simp only[fa,Ol,ae]
   rw[if_pos (by omega)]
   have e:acc+(n % 128+128-128) * 2 ^ (7 * i)+n / 128 * 2 ^ (7 * (i+1))=acc+n * 2 ^ (7 * i):=by
    rw[XB,Nat.add_sub_cancel,Nat.add_assoc,← Nat.mul_assoc,← Nat.add_mul]
    congr 2
    omega
   rw[ih (n / 128) (by omega) (i+1) _ (fun _=>by omega) (by rw[e];exact hm),e]
   congr 2
   omega
theorem PC:∀ (l:List Nat) (i acc v k:Nat),(∀ c∈l,c<256)→Ol i acc l=some (v,k) →
  ∃ n r,l=eC n++r∧v=acc+n * 2 ^ (7 * i)∧k=i+(eC n).length∧(0<i→0<n)∧v≤1099511627776
 | [],_,_,_,_,_,h=>by simp[Ol] at h
 | c::r,i,acc,v,k,hb,h=>by
  simp only[Ol] at h
  split at h
  ·rename_i hc
   obtain⟨n,r',e1,e2,e3,e4,e5⟩:=PC r (i+1) _ v k (fun c h=>hb c (by simp[h])) h
   have hn:=e4 (by omega)
   have hc2:=hb c (by simp)
   refine⟨(c-128)+128 * n,r',?_,?_,?_,fun _=>by omega,e5⟩
   ·rw[gQ (by omega),fa,e1]
    congr 2
    ·omega
    ·rw[show (c-128+128 * n) / 128=n from by omega]
   ·rw[e2,XB,Nat.add_mul,Nat.add_assoc]
    congr 2
    rw[my 128 n,Nat.mul_assoc]
   ·rw[e3,gQ (n:=c-128+128 * n) (by omega),ae,show (c-128+128 * n) / 128=n from by omega]
    omega
  ·split at h
   ·cases h
   ·split at h
    ·cases h
    ·rename_i h1 h2 h3
     cases h
     refine⟨c,r,?_,rfl,?_,fun hi=>?_,by omega⟩
     ·rw[iu (by omega)];rfl
     ·rw[iu (by omega)];rfl
     ·rcases Nat.eq_zero_or_pos c with h0|h0
      ·exact absurd ⟨h0,hi⟩ h2
      ·exact h0
theorem QD (n:Nat)(h:n≤1099511627776)(r:List Nat):qO (eC n++r)=some (n,(eC n).length):=by
 unfold qO
 rw[List.take_append,List.take_of_length_le (yR h),TE _ n 0 0 (fun h=>by omega) (by omega)]
 simp
theorem j6 {l:List Nat}{n k:Nat}(hb:∀ c∈l,c<256)(h:qO l=some (n,k)):n≤1099511627776∧k=(eC n).length∧l=eC n++l.drop k:=by
 obtain⟨m,r,e1,e2,e3,_,e5⟩:=PC _ 0 0 n k (fun c hc=>hb c (ap hc)) h
 have hm:n=m:=by rw[e2];simp
 subst hm
 refine⟨e5,by omega,?_⟩
 conv=>lhs;rw[← bj 6 l,e1]
 rw[show k=(eC n).length by omega,cf]
 congr 1
 conv=>rhs;rw[← bj 6 l,e1,cf,ly rfl]
def uJ:Nat→List Nat→Option (List Nat)
 | _,[]=>some []
 | 0,_::_=>none
 | k+1,c::l=>match qO (c::l) with
  | none=>none
  | some (n,m)=>(uJ k ((c::l).drop m)).map (n :: ·)
def flat (ns:List Nat):List Nat:=ns.flatMap eC
theorem LP (n:Nat)(ns:List Nat):flat (n::ns)=eC n++flat ns:=rfl
theorem oG:∀ (k:Nat) (l ns:List Nat),(∀ c∈l,c<256)→uJ k l=some ns→ns.length≤k∧(∀ n∈ns,n≤1099511627776)∧l=flat ns
 | k,[],ns,_,h=>by
  have:ns=[]:=by cases k<;>(simp[uJ] at h;exact h)
  subst this;simp[flat]
 | 0,c::l,ns,_,h=>by simp[uJ] at h
 | k+1,c::l,ns,hb,h=>by
  rw[uJ] at h
  split at h
  ·cases h
  ·rename_i n m hg
   obtain⟨h1,h2,h3⟩:=j6 hb hg
   rw[lr] at h
   obtain⟨ms,h4,rfl⟩:=h
   obtain⟨g1,g2,g3⟩:=oG k _ ms (fun x hx=>hb x (da hx)) h4
   refine⟨by simp;exact g1,fun x hx=>?_,?_⟩
   ·rcases dj.1 hx with rfl|hx
    ·exact h1
    ·exact g2 x hx
   ·rw[LP,← g3];exact h3
def zz (d:Int):Nat:=if d<0 then (-2 * d-1).toNat else (2 * d).toNat
def rN (k:Nat):Int:=if k % 2=0 then ((k / 2:Nat):Int) else -((k / 2:Nat):Int)-1
theorem WM (k:Nat):zz (rN k)=k:=by
 unfold rN zz
 split
 ·rw[if_neg (by omega)];omega
 ·rw[if_pos (by omega)];omega
def rW:Int→List Nat→List Nat
 | _,[]=>[]
 | a,x::r=>zz ((x:Int)-a)::rW x r
def lM:Int→List Nat→Option (List Nat)
 | _,[]=>some []
 | a,k::r=>if k≤549755813888∧0≤a+rN k∧a+rN k<274877906944 then (lM (a+rN k) r).map ((a+rN k).toNat :: ·) else none
theorem Jm:∀ (a:Int) (ks xs:List Nat),lM a ks=some xs→ks=rW a xs∧∀ x∈xs,x<274877906944
 | _,[],xs,h=>by
  have:xs=[]:=by simp[lM] at h;exact h
  subst this;exact⟨rfl,by simp⟩
 | a,k::r,xs,h=>by
  rw[lM] at h
  split at h
  ·rename_i hc
   rw[lr] at h
   obtain⟨ys,h1,rfl⟩:=h
   obtain⟨g1,g2⟩:=Jm _ r ys h1
   have e:(((a+rN k).toNat:Nat):Int)=a+rN k:=by omega
   refine⟨?_,fun x hx=>?_⟩
   ·rw[rW,e,← g1,show a+rN k-a=rN k by omega,WM]
   ·rcases dj.1 hx with rfl|hx
    ·omega
    ·exact g2 x hx
  ·cases h
def nC (n w:Nat):Nat:=(n * w+7) / 8
def dig:Nat→Nat→List Nat
 | 0,_=>[]
 | k+1,v=>v % 256::dig k (v / 256)
def mC:List Nat→Nat
 | []=>0
 | c::r=>c+256 * mC r
def vW (w:Nat):List Nat→Nat
 | []=>0
 | n::r=>n+2 ^ w * vW w r
def Mv (w:Nat):Nat→Nat→List Nat
 | 0,_=>[]
 | n+1,t=>t % 2 ^ w::Mv w n (t / 2 ^ w)
theorem DL:∀ (b:List Nat),(∀ c∈b,c<256)→dig b.length (mC b)=b
 | [],_=>rfl
 | c::r,h=>by
  have hc:=h c (by simp)
  rw[ae,mC,dig]
  congr 1
  ·omega
  ·rw[show (c+256 * mC r) / 256=mC r by omega]
   exact DL r (fun x hx=>h x (by simp[hx]))
theorem BS (w:Nat):∀ (n t:Nat),(Mv w n t).length=n
 | 0,_=>rfl
 | n+1,t=>by rw[Mv,ae,BS]
theorem P3 (w:Nat):∀ (n t:Nat),∀ x∈Mv w n t,x<2 ^ w
 | 0,_,x,h=>by simp[Mv] at h
 | n+1,t,x,h=>by
  rw[Mv] at h
  rcases dj.1 h with rfl|h
  ·exact Nat.mod_lt _ (Nat.two_pow_pos w)
  ·exact P3 w n _ x h
theorem Nd (w:Nat):∀ (n t:Nat),t<2 ^ (w * n)→vW w (Mv w n t)=t
 | 0,t,h=>by simp at h;subst h;rfl
 | n+1,t,h=>by
  rw[Mv,vW,Nd w n (t / 2 ^ w) (Nat.div_lt_of_lt_mul (by rw[← Nat.pow_add];rw[Nat.mul_add,Nat.mul_one,Nat.add_comm] at h;exact h)),Nat.mod_add_div]
def KC (w:Nat)(l:List Nat):List Nat:=dig (nC l.length w) (vW w l)
def nG (w n:Nat)(b:List Nat):Option (List Nat):=if b.length=nC n w∧mC b<2 ^ (w * n) then some (Mv w n (mC b)) else none
theorem iV {w n:Nat}{b l:List Nat}(hb:∀ c∈b,c<256)(h:nG w n b=some l):KC w l=b∧l.length=n∧∀ x∈l,x<2 ^ w:=by
 unfold nG at h
 split at h
 ·rename_i hc
  cases h
  refine⟨?_,BS w n _,P3 w n _⟩
  unfold KC
  rw[BS,Nd w n _ hc.2,← hc.1,DL b hb]
 ·cases h
def Ch (p:List Nat):List Nat:=eC p.length++p
def iy (b:List Nat):Option (List Nat×List Nat):=match qO b with
 | none=>none
 | some (n,k)=>if n≤b.length-k then some ((b.drop k).take n,(b.drop k).drop n) else none
theorem dW {b p r:List Nat}(hb:∀ c∈b,c<256)(h:iy b=some (p,r)):b=Ch p++r∧p.length≤1099511627776∧(∀ c∈p,c<256)∧∀ c∈r,c<256:=by
 unfold iy at h
 split at h
 ·cases h
 ·rename_i n k hg
  obtain⟨h1,h2,h3⟩:=j6 hb hg
  split at h
  ·rename_i hn
   simp only[kn,cn] at h
   obtain⟨rfl,rfl⟩:=h
   have hl:((b.drop k).take n).length=n:=by rw[ba,eQ];omega
   refine⟨?_,by rw[hl];exact h1,fun c hc=>hb c (da (ap hc)),fun c hc=>hb c (da (da hc))⟩
   unfold Ch
   rw[hl,cf,bj]
   exact h3
  ·cases h
abbrev P5:=List Nat×(List Nat×(List Nat×(List Nat×List Nat)))
def mM (b:List Nat):Option (P5×List Nat):=
 (iy b).bind fun q0=>(iy q0.2).bind fun q1=>(iy q1.2).bind fun q2=>(iy q2.2).bind fun q3=>(iy q3.2).bind fun q4=>
  some ((q0.1,(q1.1,(q2.1,(q3.1,q4.1)))),q4.2)
def SV (p:P5):List Nat:=Ch p.1++(Ch p.2.1++(Ch p.2.2.1++(Ch p.2.2.2.1++Ch p.2.2.2.2)))
def acZ (p:P5):Prop:=p.1.length≤1099511627776∧p.2.1.length≤1099511627776∧p.2.2.1.length≤1099511627776∧p.2.2.2.1.length≤1099511627776∧p.2.2.2.2.length≤1099511627776
theorem zF {b:List Nat}{p:P5}{r:List Nat}(hb:∀ c∈b,c<256)(h:mM b=some (p,r)) :
  b=SV p++r∧acZ p∧(∀ c∈p.1,c<256)∧(∀ c∈p.2.1,c<256)∧(∀ c∈p.2.2.1,c<256)∧(∀ c∈p.2.2.2.1,c<256)∧∀ c∈p.2.2.2.2,c<256:=by
 unfold mM at h
 simp only[dk] at h
 obtain⟨⟨a0,r0⟩,h0,⟨a1,r1⟩,h1,⟨a2,r2⟩,h2,⟨a3,r3⟩,h3,⟨a4,r4⟩,h4,h5⟩:=h
 simp only[kn,cn] at h5
 obtain⟨rfl,rfl⟩:=h5
 obtain⟨e0,l0,b0,c0⟩:=dW hb h0
 obtain⟨e1,l1,b1,c1⟩:=dW c0 h1
 obtain⟨e2,l2,b2,c2⟩:=dW c1 h2
 obtain⟨e3,l3,b3,c3⟩:=dW c2 h3
 obtain⟨e4,l4,b4,c4⟩:=dW c3 h4
 refine⟨?_,⟨l0,l1,l2,l3,l4⟩,b0,b1,b2,b3,b4⟩
 rw[e0,e1,e2,e3,e4]
 unfold SV
 simp only[cf]
def UJ (s:ST):List Int:=
 [s.1.1.1,s.1.1.2,s.1.2.1.1,s.1.2.1.2,s.1.2.2.1,s.1.2.2.2.1,s.1.2.2.2.2.1,s.1.2.2.2.2.2,s.2.1.1,s.2.1.2.1,s.2.1.2.2.1,(if s.2.1.2.2.2=true then 1 else 0),s.2.2.1,((s.2.2.2.2.1.length:Nat):Int),((s.2.2.2.2.2.length:Nat):Int)]
  ++ s.2.2.2.1.flatMap fun x=>[x.1,x.2.1,x.2.2]
def nums (s:ST):List Nat:=(UJ s).map Int.toNat
def QZ (x:LT):Nat:=x.1.toNat * 32+(x.2.1.toNat * 8+x.2.2.1.toNat)
def OL (x:HT):Nat:=x.1.toNat * 8+x.2.1.toNat
def F5 (s:ST):P5:=(flat (nums s),(KC 10 (s.2.2.2.2.1.map QZ),(flat (rW 0 (s.2.2.2.2.1.map fun x=>x.2.2.2.1.toNat)),(KC 5 (s.2.2.2.2.2.map OL),flat (rW 0 (s.2.2.2.2.2.map fun x=>x.2.2.toNat))))))
def encS (s:ST):List Nat:=SV (F5 s)
def Cb (s:ST):Prop:=∀ x∈s.2.2.2.2.1,x.2.2.2.2=s.2.2.1
def gu:List Nat→List HT
 | a::b::c::r=>((a:Int),((b:Int),(c:Int)))::gu r
 | _=>[]
def nE (now:Int):List Nat→List Nat→List LT
 | x::xs,f::fs=>(((x / 32:Nat):Int),(((x % 32 / 8:Nat):Int),(((x % 8:Nat):Int),((f:Int),now))))::nE now xs fs
 | _,_=>[]
def qs:List Nat→List Nat→List HT
 | y::ys,t::ts=>(((y / 8:Nat):Int),(((y % 8:Nat):Int),(t:Int)))::qs ys ts
 | _,_=>[]
abbrev gN (ns:List Nat)(i:Nat):Int:=((ns.getD i 0:Nat):Int)
def jX (ns whose fr which till:List Nat):ST:=
 (((gN ns 0,gN ns 1),((gN ns 2,gN ns 3),(gN ns 4,(gN ns 5,(gN ns 6,gN ns 7))))),((gN ns 8,(gN ns 9,(gN ns 10,decide (ns.getD 11 0=1)))),(gN ns 12,(gu (ns.drop 15),(nE (gN ns 12) whose fr,qs which till)))))
def gK (w n:Nat)(b:List Nat):Option (List Nat):=if n≤400 then nG w n b else none
def oy (ns:List Nat):Bool:=decide (15≤ns.length)&&(decide ((ns.length-15) % 3=0)&&decide (ns.getD 11 0≤1))
def s7 (b:List Nat):Option (List Nat):=(uJ 400 b).bind (lM 0)
noncomputable def ofParts (p:P5):Option ST:=
 (uJ 400 p.1).bind fun ns=>if oy ns=true then
  (gK 10 (ns.getD 13 0) p.2.1).bind fun whose=>(s7 p.2.2.1).bind fun fr=>(gK 5 (ns.getD 14 0) p.2.2.2.1).bind fun which=>(s7 p.2.2.2.2).bind fun till=>
   if fr.length=whose.length∧till.length=which.length∧bS (jX ns whose fr which till) then some (jX ns whose fr which till) else none
 else none
noncomputable def jD (b:List Nat):Option ST:=(mM b).bind fun q=>if q.2=[] then ofParts q.1 else none
theorem toNat_cast {x:Int}(h:0≤x):((x.toNat:Nat):Int)=x:=by omega
theorem o7:∀ (n:Nat) (l:List Nat),l.length=3 * n→((gu l).flatMap fun x=>[x.1,x.2.1,x.2.2]).map Int.toNat=l∧(gu l).length=n
 | 0,[],_=>⟨rfl,rfl⟩
 | 0,_::_,h=>by simp at h
 | n+1,[],h=>by simp at h
 | n+1,[a],h=>by simp at h;omega
 | n+1,[a,b],h=>by simp at h;omega
 | n+1,a::b::c::r,h=>by
  obtain⟨h1,h2⟩:=o7 n r (by simp at h;omega)
  simp only[gu,List.flatMap_cons,fa,List.nil_append,cd,h1,db,ae,h2,and_self]
theorem A7 (now:Int):∀ (xs fs:List Nat),fs.length=xs.length→(nE now xs fs).map QZ=xs∧(nE now xs fs).map (fun x=>x.2.2.2.1.toNat)=fs∧(nE now xs fs).length=xs.length∧∀ x∈nE now xs fs,x.2.2.2.2=now
 | [],[],_=>by simp[nE]
 | [],_::_,h=>by simp at h
 | _::_,[],h=>by simp at h
 | x::xs,f::fs,h=>by
  obtain⟨h1,h2,h3,h4⟩:=A7 now xs fs (by simpa using h)
  refine⟨?_,?_,?_,fun y hy=>?_⟩
  ·simp only[nE,cd,h1]
   congr 1
   show (((x / 32:Nat):Int)).toNat * 32+((((x % 32 / 8:Nat):Int)).toNat * 8+(((x % 8:Nat):Int)).toNat)=x
   omega
  ·simp only[nE,cd,h2,db]
  ·simp only[nE,ae,h3]
  ·simp only[nE] at hy
   rcases dj.1 hy with rfl|hy
   ·rfl
   ·exact h4 y hy
theorem AE:∀ (ys ts:List Nat),ts.length=ys.length→(qs ys ts).map OL=ys∧(qs ys ts).map (fun x=>x.2.2.toNat)=ts∧(qs ys ts).length=ys.length
 | [],[],_=>by simp[qs]
 | [],_::_,h=>by simp at h
 | _::_,[],h=>by simp at h
 | x::xs,f::fs,h=>by
  obtain⟨h1,h2,h3⟩:=AE xs fs (by simpa using h)
  refine⟨?_,?_,?_⟩
  ·simp only[qs,cd,h1]
   congr 1
   show (((x / 8:Nat):Int)).toNat * 8+(((x % 8:Nat):Int)).toNat=x
   omega
  ·simp only[qs,cd,h2,db]
  ·simp only[qs,ae,h3]
section
variable {s:ST}
theorem DM {b l:List Nat}(hb:∀ c∈b,c<256)(h:s7 b=some l):b=flat (rW 0 l):=by
 unfold s7 at h
 rw[dk] at h
 obtain⟨ks,h1,h2⟩:=h
 obtain⟨_,_,e⟩:=oG 400 b ks hb h1
 rw[e,(Jm 0 ks l h2).1]
end
theorem Et:∀ (ns:List Nat),15≤ns.length→ns=[ns.getD 0 0,ns.getD 1 0,ns.getD 2 0,ns.getD 3 0,ns.getD 4 0,ns.getD 5 0,ns.getD 6 0,ns.getD 7 0,ns.getD 8 0,ns.getD 9 0,ns.getD 10 0,ns.getD 11 0,ns.getD 12 0,ns.getD 13 0,ns.getD 14 0]++ns.drop 15
 | a0::a1::a2::a3::a4::a5::a6::a7::a8::a9::a10::a11::a12::a13::a14::r,_=>rfl
 | [],h|[_],h|[_,_],h|[_,_,_],h|[_,_,_,_],h|[_,_,_,_,_],h|[_,_,_,_,_,_],h|[_,_,_,_,_,_,_],h|[_,_,_,_,_,_,_,_],h|[_,_,_,_,_,_,_,_,_],h|[_,_,_,_,_,_,_,_,_,_],h|[_,_,_,_,_,_,_,_,_,_,_],h|[_,_,_,_,_,_,_,_,_,_,_,_],h|[_,_,_,_,_,_,_,_,_,_,_,_,_],h|[_,_,_,_,_,_,_,_,_,_,_,_,_,_],h=>by simp at h
theorem O1 {p:P5}{s:ST}(h0:∀ c∈p.1,c<256)(h1:∀ c∈p.2.1,c<256)(h2:∀ c∈p.2.2.1,c<256)(h3:∀ c∈p.2.2.2.1,c<256)(h4:∀ c∈p.2.2.2.2,c<256)(h:ofParts p=some s) :
  bS s∧Cb s∧F5 s=p:=by
 unfold ofParts at h
 rw[dk] at h
 obtain⟨ns,e0,h⟩:=h
 split at h
 case isFalse=>cases h
 rename_i hg
 simp only[dk] at h
 obtain⟨whose,e1,fr,e2,which,e3,till,e4,h⟩:=h
 split at h
 case isFalse=>cases h
 rename_i hc
 obtain⟨hl1,hl2,hM⟩:=hc
 cases h
 unfold oy at hg
 simp only[be,decide_eq_true_eq] at hg
 obtain⟨g1,g2,g3⟩:=hg
 unfold gK at e1 e3
 split at e1
 case isFalse=>cases e1
 split at e3
 case isFalse=>cases e3
 obtain⟨w1,w2,w3⟩:=iV h1 e1
 obtain⟨v1,v2,v3⟩:=iV h3 e3
 obtain⟨n1,n2,n3⟩:=oG 400 _ ns h0 e0
 have f1:=DM h2 e2
 have t1:=DM h4 e4
 obtain⟨z1,z2,z3,z4⟩:=A7 (gN ns 12) whose fr hl1
 obtain⟨y1,y2,y3⟩:=AE which till hl2
 refine⟨hM,z4,?_⟩
 have hnums:nums (jX ns whose fr which till)=ns:=by
  obtain⟨m,hm⟩:∃ m,ns.length-15=3 * m:=⟨(ns.length-15) / 3,by omega⟩
  obtain⟨c1,c2⟩:=o7 m (ns.drop 15) (by rw[eQ];exact hm)
  conv=>rhs;rw[Et ns g1]
  unfold nums UJ jX
  simp only
  rw[List.map_append,c1,z3,y3,w2,v2]
  congr 1
  have e11:(if decide (ns.getD 11 0=1)=true then (1:Int) else 0).toNat=ns.getD 11 0:=by
   by_cases h:ns.getD 11 0=1
   ·rw[if_pos (decide_eq_true h),h];rfl
   ·rw[if_neg (by simpa using h)]
    show 0=_
    omega
  simp only[cd,List.map_nil,db,e11]
 unfold F5
 rw[hnums]
 unfold jX
 simp only
 rw[z1,z2,y1,y2,w1,v1,← n3,← f1,← t1]
theorem QU {b:List Nat}{s:ST}(hb:∀ c∈b,c<256)(h:jD b=some s):bS s∧Cb s∧encS s=b:=by
 unfold jD at h
 rw[dk] at h
 obtain⟨⟨p,r⟩,h1,h2⟩:=h
 split at h2
 ·rename_i hr
  simp only at hr
  subst hr
  obtain⟨e,_,b0,b1,b2,b3,b4⟩:=zF hb h1
  obtain⟨k1,k2,k3⟩:=O1 b0 b1 b2 b3 b4 h2
  refine⟨k1,k2,?_⟩
  unfold encS
  rw[k3,e,lA]
 ·cases h2
def tQ (l:List Nat):Bool:=decide (l.length<6) && !(l.any fun c=>decide (c<128))
variable (crc:List Nat→List Nat)
def sF (k:Nat)(body:List Nat):List Nat:=k::(eC body.length++body)
def jG (k:Nat)(body:List Nat):List Nat:=sF k body++crc (sF k body)
def jc:List Nat→Except Nat (Nat×List Nat×Nat)
 | []=>.error 4
 | c::r=>
  if tQ r then .error 4
  else match qO r with
   | none=>.error 2
   | some (n,k)=>
    if 1000<n then .error 2
    else if (c::r).length<1+k+n+4 then .error 4
    else if ((c::r).drop (1+k+n)).take 4=crc ((c::r).take (1+k+n)) then .ok (c,(r.drop k).take n,1+k+n+4)
    else .error 3
theorem KJ:∀ (n:Nat),∃ c∈eC n,c<128:=by
 intro n
 induction n using Nat.strongRecOn with
 | ind n ih=>
  by_cases h:n<128
  ·exact⟨n,by rw[iu h];simp,h⟩
  ·obtain⟨c,h1,h2⟩:=ih (n / 128) (by omega)
   exact⟨c,by rw[gQ h];exact il _ h1,h2⟩
theorem KL (n:Nat)(r:List Nat):tQ (eC n++r)=false:=by
 obtain⟨c,h1,h2⟩:=KJ n
 have:(eC n++r).any (fun c=>decide (c<128))=true:=by
  rw[eJ]
  exact⟨c,List.mem_append_left _ h1,by simpa using h2⟩
 unfold tQ
 rw[this];simp
theorem EP (k:Nat)(body:List Nat):(sF k body).length=1+(eC body.length).length+body.length:=by
 unfold sF;simp only[ae,aw];omega
theorem lF (b:List Nat):(∃ e,jc crc b = .error e∧e≠0) ∨
  ∃ c r n k,b=c::r∧tQ r=false∧qO r=some (n,k)∧n≤1000∧1+k+n+4≤b.length∧(b.drop (1+k+n)).take 4=crc (b.take (1+k+n))∧jc crc b = .ok (c,(r.drop k).take n,1+k+n+4):=by
 cases b with
 | nil=>exact .inl ⟨4,rfl,by omega⟩
 | cons c r=>
  simp only[jc]
  cases ho:tQ r with
  | true=>exact .inl ⟨4,rfl,by omega⟩
  | false=>
   cases hv:qO r with
   | none=>exact .inl ⟨2,rfl,by omega⟩
   | some q=>
    obtain⟨n,k⟩:=q
    simp only
    by_cases h1:1000<n
    ·exact .inl ⟨2,by rw[if_neg (by simp),if_pos h1],by omega⟩
    by_cases h2:(c::r).length<1+k+n+4
    ·exact .inl ⟨4,by rw[if_neg (by simp),if_neg h1,if_pos h2],by omega⟩
    by_cases h3:((c::r).drop (1+k+n)).take 4=crc ((c::r).take (1+k+n))
    ·exact .inr ⟨c,r,n,k,rfl,ho,hv,by omega,by omega,h3,by rw[if_neg (by simp),if_neg h1,if_neg h2,if_pos h3]⟩
    ·exact .inl ⟨3,by rw[if_neg (by simp),if_neg h1,if_neg h2,if_neg h3],by omega⟩
theorem PW (hc:∀ l,(crc l).length=4)(k:Nat)(body rest:List Nat)(hb:body.length≤1000) :
  jc crc (jG crc k body++rest) = .ok (k,body,(jG crc k body).length):=by
 have hl:=EP k body
 have e:jG crc k body++rest=k::(eC body.length++(body++(crc (sF k body)++rest))):=by
  unfold jG sF;simp only[fa,cf]
 have e1:(jG crc k body++rest).take (1+(eC body.length).length+body.length)=sF k body:=by
  unfold jG
  rw[← hl,cf,jn rfl]
 have e2:(jG crc k body++rest).drop (1+(eC body.length).length+body.length)=crc (sF k body)++rest:=by
  unfold jG
  rw[← hl,cf,ly rfl]
 have hlen:(jG crc k body++rest).length=1+(eC body.length).length+body.length+4+rest.length:=by
  rw[aw];unfold jG;rw[aw,hc,hl]
 rw[e] at e1 e2 hlen ⊢
 unfold jc
 simp only[KL,QD body.length (by omega),hlen,e1,e2]
 rw[if_neg (by simp),if_neg (by omega),if_neg (by omega),if_pos (by rw[jn (hc _)])]
 congr 2
 rw[cn]
 refine⟨?_,?_⟩
 ·rw[ly rfl,jn rfl]
 ·unfold jG;rw[aw,hc,hl]
end Go.Proofs.Zz
namespace Go.Proofs.Zz
open Go Go.Sy
set_option linter.unusedSimpArgs false
set_option linter.unusedVariables false
def N9:PT:=(0,(0,(0,false)))
def gv (k:Nat)(at':Int):List Nat→Option (ET×List Nat)
 | []=>none
 | n::l=>
  if k=0∨k=1 then some (((k:Int),(at',(((n / 32:Nat):Int),(((n / 8 % 4:Nat):Int),(((n % 8:Nat):Int),N9))))),l)
  else if k=2∨k=4 then some (((k:Int),(at',(((n / 8:Nat):Int),(((n % 8:Nat):Int),(0,N9))))),l)
  else if k=3∨k=5 then some (((k:Int),(at',(((n:Nat):Int),(0,(0,N9))))),l)
  else match l with
   | i::h::p::l'=>if p≤1 then some (((k:Int),(at',(0,(0,(0,(((n:Nat):Int),(((i:Nat):Int),(((h:Nat):Int),decide (p=1))))))))),l') else none
   | _=>none
def Jx:Nat→Int→List Nat→Option (List ET)
 | _,_,[]=>some []
 | 0,_,_::_=>none
 | f+1,at',n::l=>
  if 7≤n % 16 then none
  else match gv (n % 16) (at'+((n / 16:Nat):Int)) l with
   | none=>none
   | some (e,l')=>if eE e then (Jx f e.2.1 l').map (e :: ·) else none
def om (at':Int)(b:List Nat):Option (List ET):=
 if fX at' 0 1073741824 then (uJ 400 b).bind fun ns=>Jx ns.length at' ns else none
theorem zo {k:Nat}{at':Int}{l l':List Nat}{e:ET}(h:gv k at' l=some (e,l')):l'.length<l.length∧e.2.1=at'∧e.1=(k:Int):=by
 unfold gv at h
 split at h
 ·cases h
 ·split at h
  ·cases h;simp
  ·split at h
   ·cases h;simp
   ·split at h
    ·cases h;simp
    ·split at h
     ·split at h
      ·cases h;simp;omega
      ·cases h
     ·cases h
theorem K0 {k:Nat}{at':Int}{l l':List Nat}{e:ET}(h:gv k at' l=some (e,l')):∃ q,l=q++l':=by
 unfold gv at h
 split at h
 ·cases h
 ·rename_i n r
  split at h
  ·cases h;exact⟨[n],rfl⟩
  ·split at h
   ·cases h;exact⟨[n],rfl⟩
   ·split at h
    ·cases h;exact⟨[n],rfl⟩
    ·split at h
     ·split at h
      ·cases h;exact⟨[n,_,_,_],rfl⟩
      ·cases h
     ·cases h
theorem I3:∀ {f:Nat} {at':Int} {ns:List Nat} {l:List ET},Jx f at' ns=some l→∀ e∈l,eE e
 | 0,_,[],_,h=>by cases h;simp
 | 0,_,_::_,_,h=>by cases h
 | f+1,_,[],_,h=>by cases h;simp
 | f+1,at',n::r,l,h=>by
  unfold Jx at h
  split at h
  ·cases h
  ·cases ht:gv (n % 16) (at'+((n / 16:Nat):Int)) r with
   | none=>rw[ht] at h;cases h
   | some q=>
    obtain⟨e,l'⟩:=q
    rw[ht] at h
    simp only at h
    split at h
    ·rename_i hm
     cases hg:Jx f e.2.1 l' with
     | none=>rw[hg] at h;cases h
     | some l2=>
      rw[hg] at h
      cases h
      intro x hx
      rcases dj.1 hx with rfl|hx
      ·exact hm
      ·exact I3 hg x hx
    ·cases h
theorem JS:∀ {f:Nat} {at':Int} {ns:List Nat} {l:List ET},Jx f at' ns=some l→l.length≤ns.length
 | 0,_,[],_,h=>by cases h;simp
 | 0,_,_::_,_,h=>by cases h
 | f+1,_,[],_,h=>by cases h;simp
 | f+1,at',n::r,l,h=>by
  unfold Jx at h
  split at h
  ·cases h
  ·cases ht:gv (n % 16) (at'+((n / 16:Nat):Int)) r with
   | none=>rw[ht] at h;cases h
   | some q=>
    obtain⟨e,l'⟩:=q
    rw[ht] at h
    simp only at h
    split at h
    ·cases hg:Jx f e.2.1 l' with
     | none=>rw[hg] at h;cases h
     | some l2=>
      rw[hg] at h
      cases h
      have:=JS hg
      have:=(zo ht).1
      simp only[ae];omega
    ·cases h
theorem wh {at':Int}{b:List Nat}{l:List ET}(hb:∀ c∈b,c<256)(h:om at' b=some l):fX at' 0 1073741824∧(∀ e∈l,eE e)∧l.length≤400:=by
 unfold om at h
 split at h
 ·rename_i hr
  cases hv:uJ 400 b with
  | none=>rw[hv] at h;cases h
  | some ns=>
   rw[hv] at h
   simp only[Option.bind_some] at h
   have:=(oG 400 b ns hb hv).1
   have:=JS h
   exact⟨hr,I3 h,by omega⟩
 ·cases h
variable (crc:List Nat→List Nat)
theorem Ar {b:List Nat}(hb:∀ c∈b,c<256){k m:Nat}{body:List Nat}(h:jc crc b = .ok (k,body,m)) :
  b=jG crc k body++b.drop m∧m=(jG crc k body++[]).length-(crc (sF k body)).length+4∧body.length≤1000∧m≤b.length∧1≤m∧(∀ c∈body,c<256):=by
 rcases lF crc b with⟨e,he,_⟩|⟨c,r,n,j,rfl,ho,hv,h1,h2,h3,h4⟩
 ·rw[he] at h;cases h
 ·rw[h4] at h
  simp only[Except.ok.injEq,cn] at h
  obtain⟨rfl,rfl,rfl⟩:=h
  have hr:∀ x∈r,x<256:=fun x hx=>hb x (il _ hx)
  obtain⟨v1,v2,v3⟩:=j6 hr hv
  rw[ae] at h2
  have hlen:((r.drop j).take n).length=n:=by rw[ba,eQ];omega
  have ex:(c::r).take (1+j+n)=sF c ((r.drop j).take n):=by
   unfold sF
   rw[hlen,show 1+j+n=(j+n)+1 by omega,List.take_succ_cons]
   congr 1
   conv=>lhs;rw[v3]
   rw[v2,List.take_length_add_append]
  have e1:c::r=sF c ((r.drop j).take n)++(crc (sF c ((r.drop j).take n))++(c::r).drop (1+j+n+4)):=by
   conv=>lhs;rw[← bj (1+j+n) (c::r)]
   rw[ex]
   congr 1
   rw[← ex,← h3]
   conv=>lhs;rw[← bj 4 ((c::r).drop (1+j+n))]
   rw[List.drop_drop]
  refine⟨?_,?_,by rw[hlen];omega,by rw[ae];omega,by omega,fun x hx=>hr x (da (ap hx))⟩
  ·unfold jG;rw[cf];exact e1
  ·unfold jG
   rw[lA,aw,Nat.add_sub_cancel,EP,hlen,← v2]
theorem Pt (hc:∀ l,(crc l).length=4){b:List Nat}(hb:∀ c∈b,c<256){k m:Nat}{body:List Nat}(h:jc crc b = .ok (k,body,m)):m=(jG crc k body).length:=by
 have:=(Ar crc hb h).2.1
 rw[lA,hc] at this
 have h4:4≤(jG crc k body).length:=by unfold jG;rw[aw,hc];omega
 omega
theorem Ll (hc:∀ l,(crc l).length=4){b b':List Nat}(hb:∀ c∈b,c<256){k m:Nat}{body:List Nat}(h:jc crc b = .ok (k,body,m))(h':b.take m=b'.take m):jc crc b' = .ok (k,body,m):=by
 have hm:=Pt crc hc hb h
 obtain⟨e1,_,e2,_⟩:=Ar crc hb h
 have e3:b.take m=jG crc k body:=by
  conv=>lhs;rw[e1]
  rw[hm,jn rfl]
 have e4:b'=jG crc k body++b'.drop m:=by
  conv=>lhs;rw[← bj m b']
  rw[← h',e3]
 rw[e4,PW crc hc k body _ e2,hm]
noncomputable def dO (b:List Nat)(m:ST×Nat):Option ((ST×Nat)×List ET):=
 match jc crc (b.drop m.2) with
 | .error _=>none
 | .ok x=>if x.1=2 then
   (match om m.1.2.2.1 x.2.1 with
   | none=>none
   | some l=>if (dV m.1 l).2=0 then some (((dV m.1 l).1,m.2+x.2.2),l) else none)
  else none
inductive Reads (b:List Nat):ST×Nat→ST×Nat→List ET→Prop
 | stop {m}:dO crc b m=none→Reads b m m []
 | step {m m' r l l'}:dO crc b m=some (m',l)→Reads b m' r l'→Reads b m r (l++l')
theorem ij {b:List Nat}{m m':ST×Nat}{l:List ET}(h:dO crc b m=some (m',l)) :
  ∃ body n,jc crc (b.drop m.2) = .ok (2,body,n)∧om m.1.2.2.1 body=some l∧dV m.1 l=(m'.1,0)∧m'.2=m.2+n:=by
 unfold dO at h
 cases hg:jc crc (b.drop m.2) with
 | error e=>rw[hg] at h;cases h
 | ok x=>
  obtain⟨k,body,n⟩:=x
  rw[hg] at h
  simp only at h
  split at h
  ·rename_i hk
   subst hk
   cases hr:om m.1.2.2.1 body with
   | none=>rw[hr] at h;cases h
   | some l'=>
    rw[hr] at h
    simp only at h
    split at h
    ·rename_i ha
     cases h
     exact⟨body,n,rfl,hr,by rw[← ha],rfl⟩
    ·cases h
  ·cases h
theorem NZ {b:List Nat}{m m':ST×Nat}{l:List ET}{body:List Nat}{n:Nat}(h1:jc crc (b.drop m.2) = .ok (2,body,n))(h2:om m.1.2.2.1 body=some l)(h3:dV m.1 l=(m'.1,0))(h4:m'.2=m.2+n) :
  dO crc b m=some (m',l):=by
 unfold dO
 rw[h1]
 simp only[if_true,h2,h3]
 rw[← h4]
theorem nA (hc:∀ l,(crc l).length=4){b:List Nat}(hb:∀ c∈b,c<256){m m':ST×Nat}{l:List ET}(h:dO crc b m=some (m',l)):m.2<m'.2∧m'.2≤b.length∧l.length≤400:=by
 obtain⟨body,n,h1,h2,h3,h4⟩:=ij crc h
 obtain⟨e1,_,_,e4,e5,e6⟩:=Ar crc (fun c hc=>hb c (da hc)) h1
 rw[eQ] at e4
 have:=(wh e6 h2).2.2
 omega
theorem oI (hc:∀ l,(crc l).length=4){b b':List Nat}(hb:∀ c∈b,c<256){m m':ST×Nat}{l:List ET}(h:dO crc b m=some (m',l))(h':b.take m'.2=b'.take m'.2):dO crc b' m=some (m',l):=by
 obtain⟨body,n,h1,h2,h3,h4⟩:=ij crc h
 refine NZ crc (Ll crc hc (fun c hc=>hb c (da hc)) h1 ?_) h2 h3 h4
 rw[List.take_drop,List.take_drop,← h4,h']
theorem xG (s:ST)(l:List ET)(h:(dV s l).2=0):(dV s l)=mU s l:=by
 unfold dV at h ⊢
 split
 ·rfl
 ·rename_i hn;rw[if_neg hn] at h;exact absurd h hn
theorem Reads.le (hc:∀ l,(crc l).length=4){b:List Nat}(hb:∀ c∈b,c<256){m r:ST×Nat}{l:List ET}(h:Reads crc b m r l):m.2≤r.2∧(m.2≤b.length→r.2≤b.length)∧l.length≤400 * (r.2-m.2):=by
 induction h with
 | stop _=>exact⟨ma _,fun h=>h,by simp⟩
 | step h1 _ ih=>
  have:=nA crc hc hb h1
  rw[aw]
  refine⟨by omega,fun _=>ih.2.1 (by omega),?_⟩
  have h1:=ih.2.2
  have h2:=ih.1
  omega
theorem Reads.cut (hc:∀ l,(crc l).length=4){b:List Nat}(hb:∀ c∈b,c<256)(k:Nat){m r:ST×Nat}{l:List ET}(h:Reads crc b m r l) :
  ∀ {r' l'},Reads crc (b.take k) m r' l'→r'.2≤r.2∧(∃ q,l=l'++q)∧(r.2≤k→r'=r∧l'=l):=by
 induction h with
 | @stop m h1=>
  intro r' l' h'
  cases h' with
  | stop=>exact⟨ma _,⟨[],rfl⟩,fun _=>⟨rfl,rfl⟩⟩
  | step h2 _=>
   have h3:=nA crc hc (fun c hc=>hb c (ap hc)) h2
   have h4:m.2<(b.take k).length:=by omega
   have:=oI crc hc (b':=b) (fun c hc=>hb c (ap hc)) h2 (by
    rw[mf,im (by have:=h3.2.1;rw[ba] at this;omega)])
   rw[h1] at this;cases this
 | @step m m' r l l2 h1 hR ih=>
  intro r' l' h'
  cases h' with
  | stop h2=>
   refine⟨by have:=(Reads.le crc hc hb hR).1;have:=nA crc hc hb h1;omega,⟨_,rfl⟩,fun hk=>?_⟩
   have hle:=(Reads.le crc hc hb hR).1
   have:=oI crc hc (b':=b.take k) hb h1 (by rw[mf,im (by omega)])
   rw[h2] at this;cases this
  | step h2 h3=>
   have h3':=nA crc hc (fun c hc=>hb c (ap hc)) h2
   have:=oI crc hc (b':=b) (fun c hc=>hb c (ap hc)) h2 (by
    rw[mf,im (by have:=h3'.2.1;rw[ba] at this;omega)])
   rw[h1] at this
   simp only[kn,cn] at this
   obtain⟨rfl,rfl⟩:=this
   obtain⟨i1,⟨q,i2⟩,i3⟩:=ih h3
   refine⟨i1,⟨q,by rw[i2,cf]⟩,fun hk=>?_⟩
   obtain⟨rfl,rfl⟩:=i3 hk
   exact⟨rfl,rfl⟩
end Go.Proofs.Zz
namespace Go.Proofs.Zz
open Go Go.Sy
set_option linter.unusedSimpArgs false
set_option linter.unusedVariables false
abbrev QT:=Int×(Int×(Int×Int))
abbrev BT:=List LT×List (K3×Int)
def iJ (x:LT):K3:=(x.1,(x.2.1,x.2.2.1))
def q4 (x:LT):QT:=(x.1,(x.2.1,(x.2.2.1,x.2.2.2.1)))
def kq (q:QT):K3:=(q.1,(q.2.1,q.2.2.1))
theorem tc (x:LT):kq (q4 x)=iJ x:=rfl
theorem dR (x y:K3):k3 x y=decide (x=y):=by
 obtain⟨a,b,c⟩:=x
 obtain⟨d,e,f⟩:=y
 rw[Bool.eq_iff_iff]
 simp[k3,Prod.ext_iff]
theorem gO:∀ (o:List (K3×Int)) (k:K3),bg o k=true↔k∈o.map (·.1)
 | [],k=>by simp[bg]
 | p::o,k=>by
  have ih:=gO o k
  rw[cd,dj,← ih]
  simp only[bg,dR]
  by_cases h:k=p.1
  ·simp[h]
  ·simp[h]
theorem nS:∀ (o:List (K3×Int)) (x k:K3) (v:Int),bg (cU o x v) k=(decide (k=x)||bg o k)
 | [],x,k,v=>by simp only[cU,bg,dR];cases decide (k=x)<;>rfl
 | p::o,x,k,v=>by
  simp only[cU,dR]
  by_cases h:x=p.1
  ·rw[decide_eq_true h]
   simp only[cond_true,bg,dR,h]
   cases decide (k=p.1)<;>rfl
  ·rw[decide_eq_false h]
   simp only[cond_false,bg,dR,nS o x k v]
   cases decide (k=p.1)<;>cases decide (k=x)<;>rfl
theorem r6:∀ (o:List (K3×Int)) (x k:K3) (v:Int),aM (cU o x v) k=if k=x then v else aM o k
 | [],x,k,v=>by
  simp only[cU,aM,dR]
  by_cases h:k=x<;>simp[h]
 | p::o,x,k,v=>by
  simp only[cU,dR]
  by_cases h:x=p.1
  ·rw[decide_eq_true h]
   simp only[cond_true,aM,dR]
   by_cases h2:k=x
   ·simp[h2]
   ·rw[decide_eq_false h2,decide_eq_false (show ¬ k=p.1 by rw[← h];exact h2),if_neg h2];rfl
  ·rw[decide_eq_false h]
   simp only[cond_false,aM,dR,r6 o x k v]
   by_cases h2:k=p.1
   ·have h4:¬ k=x:=fun h3=>h (h3.symm.trans h2)
    rw[decide_eq_true h2];simp only[cond_true,if_neg h4]
   ·rw[decide_eq_false h2];rfl
theorem xf:∀ (o:List (K3×Int)) (x:K3) (v:Int),(o.map (·.1)).Nodup→((cU o x v).map (·.1)).Nodup
 | [],x,v,_=>by simp[cU]
 | p::o,x,v,h=>by
  rw[cd,dC] at h
  simp only[cU,dR]
  by_cases h2:x=p.1
  ·rw[decide_eq_true h2,cond_true,cd,dC,h2];exact h
  ·rw[decide_eq_false h2,cond_false,cd,dC]
   refine⟨fun h3=>?_,xf o x v h.2⟩
   rw[← gO,nS,Bool.or_eq_true,gO] at h3
   rcases h3 with h3|h3
   ·exact h2 (of_decide_eq_true h3).symm
   ·exact h.1 h3
theorem nR:∀ (o:List (K3×Int)) (x k:K3),(o.map (·.1)).Nodup→bg (dN o x) k=(!decide (k=x)&&bg o k)
 | [],x,k,_=>by simp[dN,bg]
 | p::o,x,k,h=>by
  rw[cd,dC] at h
  simp only[dN,dR]
  by_cases h2:x=p.1
  ·rw[decide_eq_true h2]
   simp only[cond_true,bg,dR]
   by_cases h3:k=x
   ·rw[decide_eq_true h3]
    have:bg o k=false:=by
     cases h4:bg o k with
     | false=>rfl
     | true=>exact absurd ((gO o k).1 h4) (by rw[h3,h2];exact h.1)
    rw[this];rfl
   ·rw[decide_eq_false h3,decide_eq_false (show ¬ k=p.1 by rw[← h2];exact h3)];rfl
  ·rw[decide_eq_false h2]
   simp only[cond_false,bg,dR,nR o x k h.2]
   by_cases h3:k=p.1
   ·rw[decide_eq_true h3,decide_eq_false (show ¬ k=x by rw[h3];exact fun h4=>h2 h4.symm)];rfl
   ·rw[decide_eq_false h3];rfl
theorem r7:∀ (o:List (K3×Int)) (x k:K3),k≠x→aM (dN o x) k=aM o k
 | [],x,k,_=>by simp[dN,aM]
 | p::o,x,k,h=>by
  simp only[dN,dR]
  by_cases h2:x=p.1
  ·rw[decide_eq_true h2]
   simp only[cond_true,aM,dR]
   rw[decide_eq_false (show ¬ k=p.1 by rw[← h2];exact h)];rfl
  ·rw[decide_eq_false h2]
   simp only[cond_false,aM,dR,r7 o x k h]
theorem xw:∀ (o:List (K3×Int)) (x:K3),(o.map (·.1)).Nodup→((dN o x).map (·.1)).Nodup
 | [],x,_=>by simp[dN]
 | p::o,x,h=>by
  have h0:=h
  rw[cd,dC] at h
  simp only[dN,dR]
  by_cases h2:x=p.1
  ·rw[decide_eq_true h2,cond_true];exact h.2
  ·rw[decide_eq_false h2,cond_false,cd,dC]
   refine⟨fun h3=>?_,xw o x h.2⟩
   rw[← gO,nR _ _ _ h.2,be,gO] at h3
   exact h.1 h3.2
def zL:LT:=(0,(0,(0,(0,0))))
def EI (h:List LT)(i:Nat)(t:Int):List LT:=h.set i ((h.getD i zL).1,((h.getD i zL).2.1,((h.getD i zL).2.2.1,((h.getD i zL).2.2.2.1,t))))
def Gc (b:BT)(x:LT):BT:=(b.1++[x],cU b.2 (iJ x) ((b.1.length:Nat):Int))
def oF (b:BT)(k:K3)(at':Int):BT:=if bg b.2 k=true then (EI b.1 (aM b.2 k).toNat at',dN b.2 k) else b
def Open (b:BT)(q:QT):Prop:=∃ x∈b.1,x.2.2.2.2 = -1∧q4 x=q
structure Good (b:BT):Prop where
 nod:(b.2.map (·.1)).Nodup
 has:∀ k,bg b.2 k=true→∃ i,∃ hi:i<b.1.length,aM b.2 k=(i:Int)∧iJ b.1[i]=k∧b.1[i].2.2.2.2 = -1
 Mz:∀ i (hi:i<b.1.length),b.1[i].2.2.2.2 = -1→bg b.2 (iJ b.1[i])=true∧aM b.2 (iJ b.1[i])=(i:Int)
theorem NX:Good ([],[]):=⟨by simp,fun k h=>by simp[bg] at h,fun i hi=>absurd hi (by simp)⟩
theorem Good.key {b:BT}(h:Good b)(k:K3):bg b.2 k=true↔∃ q,Open b q∧kq q=k:=by
 constructor
 ·intro hk
  obtain⟨i,hi,_,h2,h3⟩:=h.has k hk
  exact⟨q4 b.1[i],⟨_,fb hi,h3,rfl⟩,h2⟩
 ·rintro ⟨q,⟨x,hx,h1,h2⟩,h3⟩
  obtain⟨i,hi,e⟩:=bi hx
  have:=(h.Mz i hi (by rw[e];exact h1)).1
  rw[e] at this
  rw[← h3,← h2];exact this
theorem DX {b:BT}{x:LT}(h:Good b)(hn:bg b.2 (iJ x)=false)(hx:x.2.2.2.2 = -1):Good (Gc b x)∧∀ q,Open (Gc b x) q↔Open b q∨q=q4 x:=by
 refine⟨⟨xf _ _ _ h.nod,?_,?_⟩,?_⟩
 ·intro k hk
  show ∃ i,∃ hi:i<(b.1++[x]).length,aM (cU b.2 (iJ x) ((b.1.length:Nat):Int)) k=(i:Int)∧iJ (b.1++[x])[i]=k∧(b.1++[x])[i].2.2.2.2 = -1
  change bg (cU b.2 (iJ x) ((b.1.length:Nat):Int)) k=true at hk
  rw[r6]
  rw[nS] at hk
  by_cases e:k=iJ x
  ·rw[if_pos e]
   refine⟨b.1.length,by simp,rfl,?_,?_⟩
   ·simp[e]
   ·simp[hx]
  ·rw[if_neg e]
   rw[decide_eq_false e,Bool.false_or] at hk
   obtain⟨i,hi,h1,h2,h3⟩:=h.has k hk
   refine⟨i,by simp;omega,h1,?_,?_⟩
   ·rw[fg hi];exact h2
   ·rw[fg hi];exact h3
 ·intro i hi
  change i<(b.1++[x]).length at hi
  show (b.1++[x])[i].2.2.2.2 = -1→bg (cU b.2 (iJ x) ((b.1.length:Nat):Int)) (iJ (b.1++[x])[i])=true∧aM (cU b.2 (iJ x) ((b.1.length:Nat):Int)) (iJ (b.1++[x])[i])=(i:Int)
  rw[r6,nS]
  rw[aw,lL] at hi
  by_cases e:i<b.1.length
  ·rw[fg e]
   intro h1
   obtain⟨h2,h3⟩:=h.Mz i e h1
   have:¬ iJ b.1[i]=iJ x:=fun h4=>by rw[h4,hn] at h2;cases h2
   rw[if_neg this,decide_eq_false this,h2,h3]
   exact⟨rfl,rfl⟩
  ·have:i=b.1.length:=by omega
   subst this
   intro _
   simp
 ·intro q
  unfold Open Gc
  simp only[du,dd]
  constructor
  ·rintro ⟨y,hy|hy,h1,h2⟩
   ·exact .inl ⟨y,hy,h1,h2⟩
   ·exact .inr (by rw[← h2,hy])
  ·rintro (⟨y,hy,h1,h2⟩|h1)
   ·exact⟨y,.inl hy,h1,h2⟩
   ·exact⟨x,.inr rfl,hx,h1.symm⟩
theorem CM (b:BT)(k:K3)(a:Int):(oF b k a).1.length=b.1.length:=by
 unfold oF
 split
 ·show (EI b.1 _ a).length=_
  unfold EI;rw[dp]
 ·rfl
theorem vk {h:List LT}{i:Nat}(hi:i<h.length)(t:Int):EI h i t=h.set i (h[i].1,(h[i].2.1,(h[i].2.2.1,(h[i].2.2.2.1,t)))):=by
 unfold EI
 rw[ee,fj hi];rfl
theorem Fj {b:BT}{k:K3}{a:Int}(h:Good b)(ha:a ≠ -1):Good (oF b k a)∧∀ q,Open (oF b k a) q↔Open b q∧kq q≠k:=by
 unfold oF
 by_cases hk:bg b.2 k=true
 case neg=>
  rw[if_neg hk]
  refine⟨h,fun q=>⟨fun hq=>⟨hq,fun e=>hk ((h.key k).2 ⟨q,hq,e⟩)⟩,fun hq=>hq.1⟩⟩
 rw[if_pos hk]
 obtain⟨i,hi,h1,h2,h3⟩:=h.has k hk
 rw[h1,db,vk hi]
 have uniq:∀ j (hj:j<b.1.length),b.1[j].2.2.2.2 = -1→iJ b.1[j]=k→j=i:=by
  intro j hj h4 h5
  have:=(h.Mz j hj h4).2
  rw[h5,h1] at this;omega
 refine⟨⟨xw _ _ h.nod,?_,?_⟩,?_⟩
 ·intro k' hk'
  change bg (dN b.2 k) k'=true at hk'
  rw[nR _ _ _ h.nod,be] at hk'
  have hne:k'≠k:=fun e=>by rw[e,decide_eq_true rfl] at hk';cases hk'.1
  obtain⟨j,hj,h4,h5,h6⟩:=h.has k' hk'.2
  have hij:i≠j:=fun e=>by subst e;exact hne (h5.symm.trans h2)
  refine⟨j,by simp;exact hj,?_,?_,?_⟩
  ·show aM (dN b.2 k) k'=_
   rw[r7 _ _ _ hne];exact h4
  ·simp only[dq hij];exact h5
  ·simp only[dq hij];exact h6
 ·intro j hj h4
  change j<(b.1.set i _).length at hj
  rw[dp] at hj
  by_cases hij:i=j
  ·subst hij
   simp at h4
   exact absurd h4 ha
  ·simp only[dq hij] at h4 ⊢
   obtain⟨h5,h6⟩:=h.Mz j hj h4
   have hne:iJ b.1[j]≠k:=fun e=>hij (uniq j hj h4 e).symm
   rw[nR _ _ _ h.nod,r7 _ _ _ hne,h5,h6,decide_eq_false hne]
   exact⟨rfl,rfl⟩
 ·intro q
  constructor
  ·rintro ⟨x,hx,h4,h5⟩
   obtain⟨j,hj,e⟩:=bi hx
   change j<(b.1.set i _).length at hj
   rw[dp] at hj
   by_cases hij:i=j
   ·subst hij
    simp only[lO] at e
    rw[← e] at h4
    exact absurd h4 ha
   ·simp only[dq hij] at e
    refine⟨⟨x,by rw[← e];exact fb _,h4,h5⟩,fun h6=>hij ?_⟩
    rw[← h5,tc,← e] at h6
    exact (uniq j hj (by rw[e];exact h4) h6).symm
  ·rintro ⟨⟨x,hx,h4,h5⟩,h6⟩
   obtain⟨j,hj,e⟩:=bi hx
   have hij:i≠j:=fun e2=>by subst e2;exact h6 (by rw[← h5,tc,← e];exact h2)
   refine⟨x,?_,h4,h5⟩
   show x∈b.1.set i _
   have:(b.1.set i (b.1[i].1,(b.1[i].2.1,(b.1[i].2.2.1,(b.1[i].2.2.2.1,a)))))[j]'(by rw[dp];exact hj)=x:=by rw[dq hij];exact e
   rw[← this];exact fb _
def Cx (L:List LT)(x:LT):Bool:=L.any fun y=>k3 (iJ x) (iJ y)&&decide (x.2.2.2.1=y.2.2.2.1)
theorem DE (L:List LT)(x:LT):Cx L x=true↔q4 x∈L.map q4:=by
 unfold Cx
 rw[eJ,bm]
 constructor
 ·rintro ⟨y,hy,h⟩
  rw[dR,be,decide_eq_true_eq,decide_eq_true_eq] at h
  refine⟨y,hy,?_⟩
  have:=h.1;unfold iJ at this;simp only[cn] at this
  unfold q4;rw[this.1,this.2.1,this.2.2,h.2]
 ·rintro ⟨y,hy,h⟩
  refine⟨y,hy,?_⟩
  unfold q4 at h;simp only[cn] at h
  rw[dR,be,decide_eq_true_eq,decide_eq_true_eq]
  unfold iJ
  rw[h.1,h.2.1,h.2.2.1,h.2.2.2];exact⟨rfl,rfl⟩
def bh (L:List LT)(now:Int)(b:BT):Nat→BT
 | 0=>b
 | j+1=>if ((bh L now b j).1.getD j zL).2.2.2.2 = -1∧Cx L ((bh L now b j).1.getD j zL)=false then oF (bh L now b j) (iJ ((bh L now b j).1.getD j zL)) now else bh L now b j
theorem fF (L:List LT)(now:Int)(b:BT):∀ j,(bh L now b j).1.length=b.1.length
 | 0=>rfl
 | j+1=>by
  unfold bh
  split
  ·rw[CM,fF L now b j]
  ·exact fF L now b j
theorem oO {L:List LT}{now:Int}{b:BT}(h:Good b)(hn:now ≠ -1):∀ j,j≤b.1.length→Good (bh L now b j)∧(∀ q,Open (bh L now b j) q→Open b q)∧(∀ q,Open b q→q∈L.map q4→Open (bh L now b j) q) ∧
  (∀ i (hi:i<(bh L now b j).1.length),i<j→(bh L now b j).1[i].2.2.2.2 = -1→q4 (bh L now b j).1[i]∈L.map q4)
 | 0,_=>⟨h,fun q hq=>hq,fun q hq _=>hq,fun i hi hj=>absurd hj (Nat.not_lt_zero _)⟩
 | j+1,hj=>by
  obtain⟨h1,h2,h3,h4⟩:=oO (L:=L) (now:=now) h hn j (by omega)
  have hl:=fF L now b j
  have hjl:j<(bh L now b j).1.length:=by omega
  have eD:(bh L now b j).1.getD j zL=(bh L now b j).1[j]:=by rw[ee,fj hjl];rfl
  have hS:bh L now b (j+1)=if (bh L now b j).1[j].2.2.2.2 = -1∧Cx L (bh L now b j).1[j]=false then oF (bh L now b j) (iJ (bh L now b j).1[j]) now else bh L now b j:=by
   show (if _ then _ else _)=_
   simp only[eD]
  rw[hS]
  clear hS eD
  generalize hc:bh L now b j=c at *
  split
  ·rename_i hif
   obtain⟨g1,g2⟩:=Fj (k:=iJ c.1[j]) (a:=now) h1 hn
   have hnot:q4 c.1[j]∉L.map q4:=fun hm=>by rw[← DE,hif.2] at hm;cases hm
   have hopen:∀ q,Open c q→kq q=iJ c.1[j]→q=q4 c.1[j]:=by
    rintro q ⟨x,hx,e1,e2⟩ e3
    obtain⟨i,hi,e⟩:=bi hx
    have a1:=(h1.Mz i hi (by rw[e];exact e1)).2
    have a2:=(h1.Mz j hjl hif.1).2
    rw[e,← tc,e2,e3,a2] at a1
    have:j=i:=by omega
    subst this
    rw[← e2,e]
   refine⟨g1,fun q hq=>h2 q ((g2 q).1 hq).1,fun q hq hm=>(g2 q).2 ⟨h3 q hq hm,fun e=>hnot (hopen q (h3 q hq hm) e ▸ hm)⟩,?_⟩
   intro i hi hij ho
   have hi':i<c.1.length:=by rw[CM] at hi;exact hi
   have:=(g2 _).1 ⟨_,fb hi,ho,rfl⟩
   by_cases e:i=j
   ·subst e
    exfalso
    obtain⟨_,m1,m2⟩:=h1.has _ (h1.Mz i hjl hif.1).1
    have ev:=(h1.Mz i hjl hif.1)
    have:(oF c (iJ c.1[i]) now).1[i].2.2.2.2=now:=by
     unfold oF
     simp only[if_pos ev.1,ev.2,db,vk hjl,lO]
    rw[this] at ho
    exact hn ho
   ·have hop:=h1.Mz
    obtain⟨x,hx,e1,e2⟩:=this.1
    have e3:(oF c (iJ c.1[j]) now).1[i]=c.1[i]:=by
     have ev:=(h1.Mz j hjl hif.1)
     unfold oF
     simp only[if_pos ev.1,ev.2,db,vk hjl,dq (fun k=>e k.symm)]
    rw[e3] at ho ⊢
    exact h4 i hi' (by omega) ho
  ·rename_i hif
   refine⟨h1,h2,h3,fun i hi hij ho=>?_⟩
   by_cases e:i=j
   ·subst e
    rw[← DE]
    cases hh:Cx L c.1[i] with
    | true=>rfl
    | false=>exact absurd ⟨ho,hh⟩ hif
   ·exact h4 i hi (by omega) ho
def Of (y:LT):LT:=(y.1,(y.2.1,(y.2.2.1,(y.2.2.2.1,-1))))
def jE (b:BT)(y:LT):BT:=if bg b.2 (iJ y)=true then b else Gc b (Of y)
def ez (L:List LT)(b:BT):BT:=L.foldl jE b
theorem xM:∀ (L:List LT) (b:BT),(ez L b).1.length≤b.1.length+L.length
 | [],b=>by simp[ez]
 | y::L,b=>by
  have:=xM L (jE b y)
  have h2:(jE b y).1.length≤b.1.length+1:=by
   unfold jE
   split
   ·omega
   ·simp[Gc]
  show (ez L (jE b y)).1.length≤_
  rw[ae];omega
theorem yE {L:List LT}(hs:L.Pairwise ov):∀ (M:List LT) (b:BT),(∀ y∈M,y∈L)→Good b→(∀ q,Open b q→q∈L.map q4) →
  Good (ez M b)∧(∀ q,Open b q→Open (ez M b) q)∧(∀ q,Open (ez M b) q→q∈L.map q4)∧(∀ y∈M,Open (ez M b) (q4 y))
 | [],b,_,h,h2=>⟨h,fun q hq=>hq,h2,fun y hy=>by cases hy⟩
 | y::M,b,hM,h,h2=>by
  have hyL:=hM y (List.mem_cons_self ..)
  have step:Good (jE b y)∧(∀ q,Open b q→Open (jE b y) q)∧(∀ q,Open (jE b y) q→q∈L.map q4)∧Open (jE b y) (q4 y):=by
   unfold jE
   by_cases hk:bg b.2 (iJ y)=true
   ·rw[if_pos hk]
    refine⟨h,fun q hq=>hq,h2,?_⟩
    obtain⟨q,hq,e⟩:=(h.key _).1 hk
    obtain⟨y',hy',e'⟩:=bm.1 (h2 q hq)
    have:y'=y:=by
     rw[← e',tc] at e
     have hkk:kL y'=kL y:=by unfold iJ at e;simp only[cn] at e;unfold kL;rw[e.2.1,e.2.2]
     obtain⟨i,hi,ei⟩:=bi hy'
     obtain⟨j,hj,ej⟩:=bi hyL
     have pw:=dt.1 hs
     rcases Nat.lt_trichotomy i j with hl|hl|hl
     ·have:=pw i j hi hj hl
      rw[ei,ej] at this
      unfold ov vm at this;unfold kL at hkk;simp only[cn] at hkk;omega
     ·subst hl;rw[← ei,ej]
     ·have:=pw j i hj hi hl
      rw[ei,ej] at this
      unfold ov vm at this;unfold kL at hkk;simp only[cn] at hkk;omega
    subst this
    rw[e'];exact hq
   ·rw[if_neg hk]
    obtain⟨g1,g2⟩:=DX (x:=Of y) h (by cases hh:bg b.2 (iJ (Of y)) with|false=>rfl|true=>exact absurd hh hk) rfl
    refine⟨g1,fun q hq=>(g2 q).2 (.inl hq),fun q hq=>?_,(g2 _).2 (.inr rfl)⟩
    rcases (g2 q).1 hq with hq|hq
    ·exact h2 q hq
    ·rw[hq];exact bm.2 ⟨y,hyL,rfl⟩
  obtain⟨s1,s2,s3,s4⟩:=step
  obtain⟨r1,r2,r3,r4⟩:=yE hs M (jE b y) (fun z hz=>hM z (il _ hz)) s1 s3
  refine⟨r1,fun q hq=>r2 q (s2 q hq),r3,fun z hz=>?_⟩
  rcases dj.1 hz with e|hz
  ·subst e;exact r2 _ s4
  ·exact r4 z hz
def oL (b:BT)(s:ST):BT:=ez s.2.2.2.2.1 (bh s.2.2.2.2.1 s.2.2.1 b b.1.length)
def Told (b:BT)(L:List LT):Prop:=Good b∧∀ q,Open b q↔q∈L.map q4
theorem we {b:BT}{s:ST}(h:Good b)(hM:bS s):Told (oL b s) s.2.2.2.2.1:=by
 have hn:s.2.2.1 ≠ -1:=fun e=>by have:=hM.Uv;omega
 obtain⟨h1,h2,h3,h4⟩:=oO (L:=s.2.2.2.2.1) h hn b.1.length (ma _)
 have hl:=fF s.2.2.2.2.1 s.2.2.1 b b.1.length
 obtain⟨g1,g2,g3,g4⟩:=yE hM.o8.Gr s.2.2.2.2.1 _ (fun y hy=>hy) h1 (by
  rintro q ⟨x,hx,e1,e2⟩
  obtain⟨i,hi,e⟩:=bi hx
  have:=h4 i hi (by omega) (by rw[e];exact e1)
  rw[e,e2] at this;exact this)
 refine⟨g1,fun q=>⟨g3 q,fun hq=>?_⟩⟩
 obtain⟨y,hy,e⟩:=bm.1 hq
 rw[← e];exact g4 y hy
theorem za {b:BT}{s:ST}(hM:bS s):(oL b s).1.length≤b.1.length+32:=by
 have:=xM s.2.2.2.2.1 (bh s.2.2.2.2.1 s.2.2.1 b b.1.length)
 rw[fF] at this
 have h:=hM.len
 unfold oL;omega
def bZ (b:BT)(e:ET):BT:=
 if e.1=0 then Gc b (e.2.2.1,(e.2.2.2.1,(e.2.2.2.2.1,(e.2.1,-1))))
 else if e.1=1 then oF b (e.2.2.1,(e.2.2.2.1,e.2.2.2.2.1)) e.2.1 else b
theorem Yv (L:List LT)(n:Int):(fS L n).map q4=L.map q4:=by
 unfold fS;rw[List.map_map];rfl
theorem Xu {L:List LT}{a b:Int}:mA L a b=true↔∃ q∈L.map q4,q.2.1=a∧q.2.2.1=b:=by
 unfold mA
 rw[eJ]
 constructor
 ·rintro ⟨x,hx,h⟩
  simp only[tL,be,decide_eq_true_eq] at h
  exact⟨q4 x,bm.2 ⟨x,hx,rfl⟩,h.1,h.2⟩
 ·rintro ⟨q,hq,h1,h2⟩
  obtain⟨x,hx,e⟩:=bm.1 hq
  subst e
  exact⟨x,hx,by simp only[tL,be,decide_eq_true_eq];exact⟨h1,h2⟩⟩
theorem Ap:∀ {L:List LT},L.Pairwise ov→∀ (a b:Int) (y:LT),y∈xz L a b↔y∈L∧¬ (y.2.1=a∧y.2.2.1=b)
 | [],_,a,b,y=>by simp[xz]
 | x::L,hs,a,b,y=>by
  rw[List.pairwise_cons] at hs
  have ih:=Ap hs.2 a b y
  unfold xz at ih ⊢
  rw[List.findIdx_cons]
  by_cases hx:x.2.1=a∧x.2.2.1=b
  ·have:tL a b x=true:=by simp only[tL,be,decide_eq_true_eq];exact hx
   rw[this]
   simp only[cond_true,List.eraseIdx_cons_zero,dj]
   constructor
   ·intro hy
    refine⟨.inr hy,fun h=>?_⟩
    have:=hs.1 y hy
    unfold ov vm at this;omega
   ·rintro ⟨e|hy,h⟩
    ·subst e;exact absurd hx h
    ·exact hy
  ·have:tL a b x=false:=by
    cases h:tL a b x with
    | false=>rfl
    | true=>simp only[tL,be,decide_eq_true_eq] at h;exact absurd h hx
   rw[this]
   simp only[cond_false,List.eraseIdx_cons_succ,dj,ih]
   constructor
   ·rintro (e|⟨h1,h2⟩)
    ·subst e;exact⟨.inl rfl,hx⟩
    ·exact⟨.inr h1,h2⟩
   ·rintro ⟨e|h1,h2⟩
    ·exact .inl e
    ·exact .inr ⟨h1,h2⟩
theorem vT {b:BT}{s t:ST}{e:ET}(h:Told b s.2.2.2.2.1)(ha:bp s e=(t,0)):Told (bZ b e) t.2.2.2.2.1:=by
 obtain⟨hM,hE,hC,hMt,hmk⟩:=nL (s:=s) (e:=e) (by rw[ha])
 rw[ha] at hmk
 have hset:=HY hC
 generalize hu:cW s e.2.1=u at hmk hset
 have huL:u.2.2.2.2.1.map q4=s.2.2.2.2.1.map q4:=by rw[← hu];exact Yv _ _
 have h':Told b u.2.2.2.2.1:=⟨h.1,fun q=>by rw[h.2 q,huL]⟩
 clear h huL
 obtain⟨hg,ho⟩:=h'
 unfold zh at hmk
 unfold bZ
 by_cases e0:e.1=0
 ·rw[if_pos e0] at hmk ⊢
  split at hmk
  case isFalse=>cases hmk
  rename_i hp
  cases hmk
  unfold yg at hp ⊢
  split at hp
  case isTrue=>cases hp
  rename_i hno
  rw[if_neg hno]
  have hnl:mA u.2.2.2.2.1 e.2.2.2.1 e.2.2.2.2.1≠true:=fun k=>hno (.inl k)
  obtain⟨g1,g2⟩:=DX (x:=(e.2.2.1,(e.2.2.2.1,(e.2.2.2.2.1,(e.2.1,-1))))) hg (by
   cases hh:bg b.2 (iJ (e.2.2.1,(e.2.2.2.1,(e.2.2.2.2.1,(e.2.1,-1))))) with
   | false=>rfl
   | true=>
    obtain⟨q,hq,eq⟩:=(hg.key _).1 hh
    refine absurd (Xu.2 ⟨q,(ho q).1 hq,?_,?_⟩) hnl
    ·have:=congrArg (·.2.1) eq;exact this
    ·have:=congrArg (·.2.2) eq;exact this) rfl
  refine⟨g1,fun q=>?_⟩
  rw[g2 q,ho q]
  show _↔q∈(uh kL u.2.2.2.2.1 _).map q4
  rw[bm,bm]
  constructor
  ·rintro (⟨y,hy,e1⟩|e1)
   ·exact⟨y,vJ.2 (.inr hy),e1⟩
   ·exact⟨_,vJ.2 (.inl rfl),e1.symm⟩
  ·rintro ⟨y,hy,e1⟩
   rcases vJ.1 hy with hy|hy
   ·subst hy;exact .inr e1.symm
   ·exact .inl ⟨y,hy,e1⟩
 rw[if_neg e0] at hmk ⊢
 by_cases e1:e.1=1
 ·rw[if_pos e1] at hmk ⊢
  unfold J0 at hmk
  split at hmk
  ·cases hmk
  rename_i hf
  split at hmk
  ·cases hmk
  rename_i hsub
  cases hmk
  have hsrt:=hset.o8.Gr
  have hat:e.2.1 ≠ -1:=fun k=>by have:=hE.1.1;omega
  obtain⟨g1,g2⟩:=Fj (k:=(e.2.2.1,(e.2.2.2.1,e.2.2.2.2.1))) hg hat
  refine⟨g1,fun q=>?_⟩
  rw[g2 q,ho q]
  show _↔q∈(xz u.2.2.2.2.1 e.2.2.2.1 e.2.2.2.2.1).map q4
  unfold gT at hf hsub
  split at hf
  case isFalse=>exact absurd rfl hf
  rename_i hi
  rw[if_pos hi,db] at hsub
  have hsub:=gl.1 hsub
  rw[ee,fj hi] at hsub
  have his:=h9 (p:=tL e.2.2.2.1 e.2.2.2.2.1) (xs:=u.2.2.2.2.1) (w:=hi)
  simp only[tL,be,decide_eq_true_eq] at his
  have hmem:=fb hi
  generalize (u.2.2.2.2.1)[List.findIdx (tL e.2.2.2.1 e.2.2.2.2.1) u.2.2.2.2.1]=z at hsub hmem his
  have uniq:∀ y∈u.2.2.2.2.1,y.2.1=e.2.2.2.1∧y.2.2.1=e.2.2.2.2.1→y=z:=by
   intro y hy hk
   obtain⟨i,hi,ei⟩:=bi hy
   obtain⟨j,hj,ej⟩:=bi hmem
   have pw:=dt.1 hsrt
   rcases Nat.lt_trichotomy i j with hl|hl|hl
   ·have:=pw i j hi hj hl
    rw[ei,ej] at this
    unfold ov vm at this;omega
   ·subst hl;rw[← ei,ej]
   ·have:=pw j i hj hi hl
    rw[ei,ej] at this
    unfold ov vm at this;omega
  rw[bm,bm]
  constructor
  ·rintro ⟨⟨y,hy,e2⟩,e3⟩
   refine⟨y,(Ap hsrt _ _ y).2 ⟨hy,fun hk=>e3 ?_⟩,e2⟩
   have:=uniq y hy hk
   rw[← e2,tc]
   unfold iJ
   rw[hk.1,hk.2,this]
   have hs2:z.1=e.2.2.1:=hsub
   rw[hs2]
  ·rintro ⟨y,hy,e2⟩
   obtain⟨hy,hk⟩:=(Ap hsrt _ _ y).1 hy
   refine⟨⟨y,hy,e2⟩,fun e3=>hk ?_⟩
   rw[← e2,tc] at e3
   unfold iJ at e3
   simp only[cn] at e3
   exact e3.2
 rw[if_neg e1] at hmk ⊢
 have:t.2.2.2.2.1=u.2.2.2.2.1:=by
  unfold Gx at hmk
  repeat' split at hmk
  all_goals first|(cases hmk;rfl)|cases hmk
 rw[this]
 exact⟨hg,ho⟩
theorem tW:∀ {l:List ET} {b:BT} {s t:ST},Told b s.2.2.2.2.1→mU s l=(t,0)→Told (l.foldl bZ b) t.2.2.2.2.1
 | [],b,s,t,h,hg=>by cases hg;exact h
 | e::l,b,s,t,h,hg=>by
  unfold mU at hg
  split at hg
  ·rename_i he
   have h1:Told (bZ b e) (bp s e).1.2.2.2.2.1:=vT h (show bp s e=((bp s e).1,0) by rw[← he])
   exact tW (b:=bZ b e) h1 hg
  ·rename_i he
   have:=congrArg (·.2) hg
   exact absurd this he
theorem LF (b:BT)(e:ET):(bZ b e).1.length≤b.1.length+1:=by
 unfold bZ
 split
 ·simp[Gc]
 ·split
  ·rw[CM];omega
  ·omega
theorem oN:∀ (l:List ET) (b:BT),(l.foldl bZ b).1.length≤b.1.length+l.length
 | [],b=>by simp
 | e::l,b=>by
  have:=oN l (bZ b e)
  have:=LF b e
  rw[List.foldl_cons,ae];omega
theorem FW {b:BT}{L:List LT}(h:Told b L)(hs:L.Pairwise ov):(b.1.filter fun x=>decide (x.2.2.2.2 = -1)).length=L.length ∧
  ∀ x∈L,(b.1.filter fun z=>decide (z.2.2.2.2 = -1)&&decide (q4 z=q4 x)).length=1:=by
 have n1:((b.1.filter fun x=>decide (x.2.2.2.2 = -1)).map q4).Nodup:=by
  rw[ka,km]
  have hp:b.1.Pairwise fun x y=>x.2.2.2.2 = -1→y.2.2.2.2 = -1→q4 x≠q4 y:=by
   rw[dt]
   intro i j hi hj hij h1 h2 h3
   have a1:=(h.1.Mz i hi h1).2
   have a2:=(h.1.Mz j hj h2).2
   rw[← tc,h3,tc,a2] at a1
   omega
  refine (hp.filter _).imp_of_mem ?_
  intro x y hx hy hxy
  exact hxy (of_decide_eq_true (dv.1 hx).2) (of_decide_eq_true (dv.1 hy).2)
 have n2:(L.map q4).Nodup:=by
  rw[ka,km]
  refine hs.imp ?_
  intro x y hxy e
  unfold q4 at e
  simp only[cn] at e
  unfold ov vm at hxy;omega
 have hm:∀ q,q∈(b.1.filter fun x=>decide (x.2.2.2.2 = -1)).map q4↔q∈L.map q4:=by
  intro q
  rw[← h.2 q,bm]
  constructor
  ·rintro ⟨x,hx,e⟩
   exact⟨x,(dv.1 hx).1,of_decide_eq_true (dv.1 hx).2,e⟩
  ·rintro ⟨x,hx,h1,e⟩
   exact⟨x,dv.2 ⟨hx,decide_eq_true h1⟩,e⟩
 have hperm:=(List.perm_ext_iff_of_nodup n1 n2).2 hm
 refine⟨?_,fun x hx=>?_⟩
 ·have:=hperm.length_eq
  rw[ft,ft] at this;exact this
 ·have hc:=n1.count (a:=q4 x)
  rw[if_pos ((hm _).2 (bm.2 ⟨x,hx,rfl⟩))] at hc
  rw[List.count_eq_length_filter,List.filter_map,ft,List.filter_filter] at hc
  rw[← hc]
  congr 1
  refine List.filter_congr fun z _=>?_
  rw[Bool.eq_iff_iff]
  simp only[Function.comp,be,decide_eq_true_eq,beq_iff_eq]
  exact⟨fun k=>⟨k.2,k.1⟩,fun k=>⟨k.2,k.1⟩⟩
end Go.Proofs.Zz
