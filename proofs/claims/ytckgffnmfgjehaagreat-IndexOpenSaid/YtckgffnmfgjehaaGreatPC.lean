/- P18r, P18s, P18t, P18u, P18v, P18w, P18x. -/
import Derived.Test.YtckgffnmfgjehaaGreatPA
import Derived.Test.YtckgffnmfgjehaaGreatPB
import Derived.Test.YtckgffnmfgjehaaGreatFI
open Option renaming bind_some → ae
open Int renaming toNat_natCast → al, fdiv → dv, le_refl → dC
open Bool renaming and_self → ap, and_eq_true → cd, not_true → cf, true_and → dd
open Go.IntKind renaming wrap → aw
open List renaming length_take → ba, length_drop → be, drop_eq_getElem_cons → bi, getElem_cons_drop → bm, mem_of_mem_drop → cn, length_cons → dj, getElem_mem → dk, drop_eq_nil_of_le → dp, drop_of_length_le → dq, drop_zero → du, drop_take → dE, drop → ee, take → eh, mem_cons → eI
open Nat renaming add_sub_cancel_left → bj, le_refl → da, zero_le → dt
open List.cons renaming inj → db
namespace Go.Proofs.Zz
open Go Go.Sy
set_option linter.unusedSimpArgs false
set_option linter.unusedVariables false
abbrev FD:Type:=Int×List Int×Int
def My (F:List FD):Prop:=F.length≤1000∧∀ f∈F,f.2.1.length≤1000000
def di:List FD→Nat
 | []=>0
 | f::r=>f.2.1.length+di r
theorem EZ:∀ {F:List FD},(∀ f∈F,f.2.1.length≤1000000)→di F≤F.length * 1000000
 | [],_=>da _
 | f::r,h=>by
  have h1:=h f (List.mem_cons_self ..)
  have h2:=EZ (F:=r) fun g hg=>h g (List.mem_cons_of_mem _ hg)
  simp only[di,dj];omega
theorem sV:∀ (F G:List FD),di (F++G)=di F+di G
 | [],G=>by simp[di]
 | f::r,G=>by simp only[List.cons_append,di,sV r G];omega
theorem uq {F:List FD}{j:Nat}(h:j<F.length):rd (.pair (.int .i64) (.pair (.row (.int .u8)) (.int .i64))) F j=F[j]:=by
 unfold rd
 rw[List.getD_eq_getElem?_getD,List.getElem?_eq_getElem h];rfl
theorem YK (F:List FD)(h:My F):f63 F=some ((di F:Int),()):=by
 have key:∀ (r:List FD) (j:Nat),F.drop j=r→iter (r.length+1) yz ((((di (F.take j):Nat):Int),F,((F.length:Nat):Int),((j:Nat):Int),()),(),())=some (.inl ((((di F:Nat):Int),()),(),())):=by
  intro r
  induction r with
  | nil=>
   intro j hj
   have hjl:F.length≤j:=List.drop_eq_nil_iff.1 hj
   refine bW ?_
   simp only[yz,P9]
   rw[decide_eq_false (by omega),cond_false,List.take_of_length_le hjl]
  | cons f r ih=>
   intro j hj
   have hjl:j<F.length:=by
    rcases Nat.lt_or_ge j F.length with h|h
    ·exact h
    ·rw[dp h] at hj;cases hj
   have hf:F[j]=f:=by
    have:=bm hjl
    rw[hj] at this
    exact (db this).1
   have hr:F.drop (j+1)=r:=by
    have:=bm hjl
    rw[hj] at this
    exact (db this).2
   have hu:di (F.take (j+1))=di (F.take j)+f.2.1.length:=by
    rw[List.take_succ_eq_append_getElem hjl,sV,hf];simp[di]
   have hb:=EZ (F:=F.take (j+1)) fun g hg=>h.2 g (List.mem_of_mem_take hg)
   have hl:=h.1
   rw[ba] at hb
   rw[dj,bH (x':=((((di (F.take (j+1)):Nat):Int),F,((F.length:Nat):Int),((j+1:Nat):Int),()),(),()))]
   ·exact ih (j+1) hr
   ·simp only[yz,P9]
    rw[decide_eq_true (show ((j:Nat):Int)<(F.length:Int) by omega),decide_eq_true (show (0:Int)≤(j:Int) by omega)]
    simp only[cond_true,ap,al]
    rw[uq hjl,hf,bY (by omega) (by omega),bY (by omega) (by omega),hu]
    simp only[Int.natCast_add];rfl
 unfold f63
 have h0:=key F 0 rfl
 rw[List.take_zero] at h0
 have hl:=h.1
 have hk:iter az yz ((0,F,((F.length:Nat):Int),0,()),(),())=_:=fZ (show F.length+1≤az by unfold az;omega) h0
 rw[hk]
 rfl
def qR (last:Int):List FD→Bool
 | []=>true
 | f::r=>decide (last<f.1)&&decide (f.1≤1073741824)&&decide (0≤f.2.2)&&decide (f.2.2≤(f.2.1.length:Int))&&qR f.1 r
def gA (c:Int)(F:List FD):Bool:=qR 0 F&&decide (0≤c)&&decide (c≤65536)&&decide (F.length≤12)&&decide ((di F:Int)≤c)
theorem pK (c:Int)(F:List FD)(h:My F):f34 c F=some (gA c F,()):=by
 have hl:=h.1
 have key:∀ (r:List FD) (j:Nat) (last:Int),F.drop j=r→iter (r.length+1) xp (((),last,F,((F.length:Nat):Int),((j:Nat):Int),()),((c,F,()),()),()) =
   some (cond (qR last r) (.inl (((),()),((c,F,()),()),())) (.inr ((false,()),(),()))):=by
  intro r
  induction r with
  | nil=>
   intro j last hj
   have hjl:F.length≤j:=List.drop_eq_nil_iff.1 hj
   refine bW ?_
   simp only[xp,Qf]
   rw[decide_eq_false (by omega),cond_false]
  | cons f r ih=>
   intro j last hj
   have hjl:j<F.length:=by
    rcases Nat.lt_or_ge j F.length with h|h
    ·exact h
    ·rw[dp h] at hj;cases hj
   have hc:=bm hjl
   rw[hj] at hc
   obtain⟨hf,hr⟩:=db hc
   have step:xp (((),last,F,((F.length:Nat):Int),((j:Nat):Int),()),((c,F,()),()),()) =
     some (cond (decide (last<f.1)&&decide (f.1≤1073741824)&&decide (0≤f.2.2)&&decide (f.2.2≤(f.2.1.length:Int))) (.next (((),f.1,F,((F.length:Nat):Int),((j+1:Nat):Int),()),((c,F,()),()),())) (.ret ((false,()),(),()))):=by
    simp only[xp,Qf]
    rw[decide_eq_true (show ((j:Nat):Int)<(F.length:Int) by omega),decide_eq_true (show (0:Int)≤(j:Int) by omega)]
    simp only[cond_true,ap,al,uq hjl,hf,bY (x:=((j:Nat):Int)+1) (by omega) (by omega)]
    by_cases c1:last<f.1
    ·rw[decide_eq_false (show ¬ f.1≤last by omega),decide_eq_true c1]
     by_cases c2:f.1≤1073741824
     ·rw[decide_eq_false (show ¬ 1073741824<f.1 by omega),decide_eq_true c2]
      by_cases c3:0≤f.2.2
      ·rw[decide_eq_false (show ¬ f.2.2<0 by omega),decide_eq_true c3]
       by_cases c4:f.2.2≤(f.2.1.length:Int)
       ·rw[decide_eq_false (show ¬ ((f.2.1.length:Nat):Int)<f.2.2 by omega),decide_eq_true c4];rfl
       ·rw[decide_eq_true (show ((f.2.1.length:Nat):Int)<f.2.2 by omega),decide_eq_false c4];rfl
      ·rw[decide_eq_true (show f.2.2<0 by omega),decide_eq_false c3];rfl
     ·rw[decide_eq_true (show 1073741824<f.1 by omega),decide_eq_false c2];rfl
    ·rw[decide_eq_true (show f.1≤last by omega),decide_eq_false c1];rfl
   simp only[qR]
   cases hq:(decide (last<f.1)&&decide (f.1≤1073741824)&&decide (0≤f.2.2)&&decide (f.2.2≤(f.2.1.length:Int))) with
   | true=>
    rw[hq] at step
    rw[dj,bH step,ih (j+1) f.1 hr,dd]
   | false=>
    rw[hq] at step
    rw[fQ step,Bool.false_and];rfl
 have hk:=fZ (show F.length+1≤az by unfold az;omega) (key F 0 0 rfl)
 unfold f34 gA
 have hk:iter az xp (((),0,F,((F.length:Nat):Int),0,()),((c,F,()),()),())=_:=hk
 rw[hk]
 cases qR 0 F with
 | false=>rfl
 | true=>
  simp only[cond_true,ae,dd]
  by_cases c1:0≤c
  ·rw[decide_eq_true c1]
   by_cases c2:c≤65536
   ·rw[decide_eq_true c2]
    by_cases c3:F.length≤12
    ·rw[decide_eq_true c3,decide_eq_true (show ((F.length:Nat):Int)≤12 by omega)]
     simp only[cond_true,YK F h,ae,dd]
    ·rw[decide_eq_false c3,decide_eq_false (show ¬ ((F.length:Nat):Int)≤12 by omega)];rfl
   ·rw[decide_eq_false c2];rfl
  ·rw[decide_eq_false c1];rfl
theorem S5 {α β γ:Type}{u:α→Option (R3 α β γ)}(st:Nat→α){n:Nat}{y:β}(hs:∀ j,j<n→u (st j)=some (.next (st (j+1))))(he:u (st n)=some (.out y))(hb:n≤1000000000000) :
  iter az u (st 0)=some (.inl y):=lE st hs he 0 az (dt _) (by unfold az;omega)
theorem Ui (a b:List Int)(ha:a.length≤1000000000):f134 a b=some (decide (a=b),()):=by
 unfold f134
 by_cases hlen:a.length=b.length
 ·rw[decide_eq_true (show ((a.length:Nat):Int)=((b.length:Nat):Int) by omega)]
  simp only[cf,cond_false]
  have key:∀ (j k:Nat),j+k=a.length→iter (k+1) oY ((a,b,((a.length:Nat):Int),((j:Nat):Int),()),(),())=some (cond (decide (a.drop j=b.drop j)) (.inl ((),(),())) (.inr ((false,()),(),()))):=by
   intro j k
   induction k generalizing j with
   | zero=>
    intro hj
    rw[dq (by omega),dq (by omega)]
    refine bW ?_
    simp only[oY,Ht]
    rw[decide_eq_false (by omega)];rfl
   | succ k ih=>
    intro hj
    have hja:j<a.length:=by omega
    have hjb:j<b.length:=by omega
    have step:oY ((a,b,((a.length:Nat):Int),((j:Nat):Int),()),(),())=some (cond (decide (a[j]=b[j])) (.next ((a,b,((a.length:Nat):Int),((j+1:Nat):Int),()),(),())) (.ret ((false,()),(),()))):=by
     simp only[oY,Ht]
     rw[decide_eq_true (show ((j:Nat):Int)<(a.length:Int) by omega),decide_eq_true (show (0:Int)≤(j:Int) by omega),decide_eq_true (show ((j:Nat):Int)<(b.length:Int) by omega)]
     simp only[cond_true,ap,al]
     have e1:rd (.int .u8) a j=a[j]:=uc (e:=.int .u8) hja
     have e2:rd (.int .u8) b j=b[j]:=uc (e:=.int .u8) hjb
     simp only[e1,e2,bY (x:=((j:Nat):Int)+1) (by omega) (by omega)]
     cases decide (a[j]=b[j])<;>rfl
    rw[bi hja,bi hjb]
    by_cases hq:a[j]=b[j]
    ·rw[decide_eq_true hq] at step
     rw[bH step,ih (j+1) (by omega)]
     simp only[List.cons.injEq,hq,true_and]
    ·rw[decide_eq_false hq] at step
     rw[fQ step,decide_eq_false (fun hh=>hq (db hh).1)];rfl
  have h0:=fZ (show a.length+1≤az by unfold az;omega) (key 0 a.length (by omega))
  have h0:iter az oY ((a,b,((a.length:Nat):Int),0,()),(),())=_:=h0
  rw[h0]
  simp only[du]
  cases decide (a=b)<;>rfl
 ·rw[decide_eq_false (show ¬ ((a.length:Nat):Int)=((b.length:Nat):Int) by omega),decide_eq_false (show ¬ a=b from fun h=>hlen (congrArg _ h))]
  rfl
theorem oh (l:List Int)(h:l.length≤100000000):ed l=some (l,()):=by
 show cond (Nat.ble (l.length * 1) 140737488355328) _ _=_
 rw[show Nat.ble (l.length * 1) 140737488355328=true from Nat.ble_eq_true_of_le (by omega)];rfl
theorem ye (l:List FD)(h:l.length≤100000000):gW l=some (l,()):=by
 show cond (Nat.ble (l.length * 40) 140737488355328) _ _=_
 rw[show Nat.ble (l.length * 40) 140737488355328=true from Nat.ble_eq_true_of_le (by omega)];rfl
theorem My.at {F:List FD}(h:My F){j:Nat}(hj:j<F.length):F[j].2.1.length≤1000000:=h.2 _ (dk hj)
theorem Ur {F:List FD}{j:Nat}(hj:j<F.length){a:Int}{b:List Int}{c:Int}(h1:a=F[j].1)(h2:b=F[j].2.1)(h3:c=F[j].2.2):F.set j (a,b,c)=F:=by
 subst h1;subst h2;subst h3
 exact List.set_getElem_self hj
theorem Rm (c:Int)(F:List FD)(h:My F):f95 c F=some ((c,F),()):=by
 have hl:=h.1
 unfold f95
 rw[ye F (by omega)]
 simp only[ae]
 have k:=S5 (u:=zx) (fun j=>(((),(),((F.length:Nat):Int),((j:Nat):Int),()),((c,(),()),(0,(),()),()),F,[],())) (n:=F.length) (y:=(((),(),()),((c,(),()),(0,(),()),()),F,[],())) (fun j hj=>?_) ?_ (by omega)
 ·have k:iter az zx (((),(),((F.length:Nat):Int),0,()),((c,(),()),(0,(),()),()),F,[],())=_:=k
  rw[k];rfl
 ·simp only[zx,MD]
  rw[decide_eq_true (show ((j:Nat):Int)<(F.length:Int) by omega),decide_eq_true (show (0:Int)≤(j:Int) by omega)]
  simp only[cond_true,ap,al]
  rw[decide_eq_true hj,uq hj,oh _ (Nat.le_trans (h.at hj) (by omega))]
  simp only[cond_true,ae]
  rw[bY (by omega) (by omega),Ur hj rfl rfl rfl]
  rfl
 ·simp only[zx,MD]
  rw[decide_eq_false (by omega)];rfl
theorem wuI {x:Int}(h1:0≤x)(h2:x≤9223372036854775807):aw .u64 x=x:=by rw[IntKind.wrap_u64];omega
theorem AG:∀ {F:List FD} {a:Int},qR a F=true→∀ f∈F,a<f.1∧f.1≤1073741824∧0≤f.2.2∧f.2.2≤(f.2.1.length:Int)
 | [],_,_,_,h=>by cases h
 | f::r,a,h,g,hg=>by
  simp only[qR,cd,decide_eq_true_eq] at h
  rcases eI.1 hg with rfl|hg
  ·exact⟨h.1.1.1.1,h.1.1.1.2,h.1.1.2,h.1.2⟩
  ·have:=AG h.2 g hg
   exact⟨by omega,this.2⟩
theorem EB:∀ {F:List FD} {a:Int},qR a F=true→F.Pairwise fun x y=>x.1<y.1
 | [],_,_=>List.Pairwise.nil
 | f::r,a,h=>by
  simp only[qR,cd,decide_eq_true_eq] at h
  exact List.Pairwise.cons (fun g hg=>(AG h.2 g hg).1) (EB h.2)
theorem Gu {F:List FD}(hr:F.Pairwise fun x y=>x.1<y.1){i j:Nat}(hi:i<F.length)(hj:j<F.length)(h:i<j):F[i].1<F[j].1:=
 List.pairwise_iff_getElem.1 hr i j hi hj h
theorem TX (c:Int)(F:List FD)(no:Int)(hl:F.length≤1000000)(hr:F.Pairwise fun x y=>x.1<y.1) :
  ∃ k:Nat,f119 c F no=some ((k:Int),())∧k≤F.length∧(∀ j (hj:j<F.length),j<k→F[j].1<no)∧∀ j (hj:j<F.length),k≤j→no≤F[j].1:=by
 have key:=jZ (f:=fc)
  (fun x=>∃ lo hi:Nat,x=(((),(lo:Int),(hi:Int),()),((c,F,()),(no,()),()),())∧lo≤hi∧hi≤F.length∧(∀ j (hj:j<F.length),j<lo→F[j].1<no)∧∀ j (hj:j<F.length),hi≤j→no≤F[j].1)
  (fun x=>(x.1.2.2.1-x.1.2.1).toNat)
  (fun r=>∃ k:Nat,r = .inl (((k:Int),()),((c,F,()),(no,()),()),())∧k≤F.length∧(∀ j (hj:j<F.length),j<k→F[j].1<no)∧∀ j (hj:j<F.length),k≤j→no≤F[j].1)
  ?_ az (((),0,((F.length:Nat):Int),()),((c,F,()),(no,()),()),()) ⟨0,F.length,rfl,dt _,da _,fun j _ h=>absurd h (Nat.not_lt_zero _),fun j h1 h2=>by omega⟩ (by unfold az;simp only;omega)
 ·obtain⟨r,h1,k,rfl,h2⟩:=key
  refine⟨k,?_,h2⟩
  unfold f119
  rw[h1];rfl
 ·rintro x ⟨lo,hi,rfl,h1,h2,h3,h4⟩
  by_cases hlt:lo<hi
  ·left
   have hm:(lo+hi) / 2<F.length:=by omega
   have em:aw .i64 (dv (aw .u64 (aw .i64 ((lo:Int)+(hi:Int)))) 2)=(((lo+hi) / 2:Nat):Int):=by
    rw[bY (x:=(lo:Int)+(hi:Int)) (by omega) (by omega),wuI (by omega) (by omega),Int.fdiv_eq_ediv_of_nonneg _ (by omega),bY (by omega) (by omega)];omega
   simp only[fc,jQ,em,decide_eq_true (show ((lo:Nat):Int)<(hi:Int) by omega),decide_eq_true (show (0:Int)≤(((lo+hi) / 2:Nat):Int) by omega),decide_eq_true (show (((lo+hi) / 2:Nat):Int)<(F.length:Int) by omega),cond_true,ap,al,uq hm]
   by_cases hq:no≤F[(lo+hi) / 2].1
   ·rw[decide_eq_true hq]
    refine⟨_,rfl,⟨lo,(lo+hi) / 2,rfl,by omega,by omega,h3,fun j hj hk=>?_⟩,?_⟩
    ·rcases Nat.eq_or_lt_of_le hk with rfl|hk
     ·exact hq
     ·have:=Gu hr hm hj hk;omega
    ·show ((((lo+hi) / 2:Nat):Int)-(lo:Int)).toNat<((hi:Int)-(lo:Int)).toNat
     omega
   ·rw[decide_eq_false hq]
    refine⟨_,rfl,⟨(lo+hi) / 2+1,hi,?_,by omega,by omega,fun j hj hk=>?_,h4⟩,?_⟩
    ·rw[bY (by omega) (by omega)];rfl
    ·rcases Nat.eq_or_lt_of_le (Nat.le_of_lt_succ hk) with rfl|hk
     ·omega
     ·have:=Gu hr hj hm hk;omega
    ·show ((hi:Int)-(aw .i64 ((((lo+hi) / 2:Nat):Int)+1))).toNat<((hi:Int)-(lo:Int)).toNat
     rw[bY (by omega) (by omega)];omega
  ·right;left
   simp only[fc,jQ,decide_eq_false (show ¬ ((lo:Nat):Int)<(hi:Int) by omega),cond_false]
   exact⟨_,rfl,lo,rfl,by omega,h3,fun j hj hk=>h4 j hj (by omega)⟩
theorem Cu {c:Int}{F:List FD}(h:gA c F=true):qR 0 F=true∧0≤c∧c≤65536∧F.length≤12∧(di F:Int)≤c:=by
 simp only[gA,cd,decide_eq_true_eq] at h
 exact⟨h.1.1.1.1,h.1.1.1.2,h.1.1.2,h.1.2,h.2⟩
theorem Fa:∀ {F:List FD} {f:FD},f∈F→f.2.1.length≤di F
 | g::r,f,h=>by
  rcases eI.1 h with rfl|h
  ·simp only[di];omega
  ·have:=Fa h;simp only[di];omega
theorem nT {c:Int}{F:List FD}(h:gA c F=true):My F:=by
 obtain⟨h1,h2,h3,h4,h5⟩:=Cu h
 refine⟨by omega,fun f hf=>?_⟩
 have:=Fa hf;omega
theorem Y3 (c:Int)(F:List FD)(hl:F.length≤1000000)(hr:F.Pairwise fun x y=>x.1<y.1){i:Nat}(hi:i<F.length):f119 c F F[i].1=some ((i:Int),()):=by
 obtain⟨k,h1,h2,h3,h4⟩:=TX c F F[i].1 hl hr
 have h5:¬ i<k:=fun h=>by have:=h3 i hi h;omega
 have h6:¬ k<i:=fun h=>by
  have h7:=h4 k (by omega) (da _)
  have:=Gu hr (show k<F.length by omega) hi h;omega
 rw[h1,show k=i by omega]
theorem PU (c:Int)(F:List FD)(h:gA c F=true){i:Nat}(hi:i<F.length):f96 c F F[i].1=some ((i:Int),()):=by
 have hF:=Cu h
 unfold f96
 simp only[pK c F (nT h),h,ae,cf,cond_false,Y3 c F (by omega) (EB hF.1) hi,decide_eq_true (show ((i:Nat):Int)<(F.length:Int) by omega),decide_eq_true (show (0:Int)≤(i:Int) by omega),cond_true,ap,al,uq hi,decide_true]
theorem abt {F:List FD}{i:Nat}(hi:i<F.length)(x:FD):rd (.pair (.int .i64) (.pair (.row (.int .u8)) (.int .i64))) (F.set i x) i=x:=by
 rw[uq (by rw[List.length_set];exact hi),List.getElem_set_self]
theorem Za (F:List FD)(i:Nat)(x y:FD):(F.set i x).set i y=F.set i y:=List.set_set ..
theorem RS (s:Int)(b:List Int)(hl:b.length≤1000000000):∃ n,f172 s b=some (n,()):=by
 have inner:∀ (c n j x:Int),0≤j→∃ x',iter az dH (((),c,b,n,j,0,()),((x,()),()),())=some (.inl (((),b,n,j,()),((x',()),()),())):=by
  intro c n j x hj
  have key:=jZ (f:=dH)
   (fun z=>∃ i x:Int,z=(((),c,b,n,j,i,()),((x,()),()),())∧0≤i∧i≤8)
   (fun z=>(8-z.1.2.2.2.2.2.1).toNat)
   (fun r=>∃ x',r = .inl (((),b,n,j,()),((x',()),()),()))
   ?_ az (((),c,b,n,j,0,()),((x,()),()),()) ⟨0,x,rfl,by omega,by omega⟩ (by unfold az;simp only;omega)
  ·obtain⟨r,h1,x',rfl⟩:=key
   exact⟨x',h1⟩
  ·rintro z ⟨i,y,rfl,h0,h8⟩
   by_cases hi:i<8
   ·left
    simp only[dH,j8]
    rw[decide_eq_true hi,bY (x:=7-i) (by omega) (by omega),decide_eq_false (show ¬ 7-i<0 by omega)]
    simp only[cond_true,Bool.not_false]
    rw[bY (x:=i+1) (by omega) (by omega)]
    cases (!((decide ((dv y 2147483648)=1)) == (decide ((aG .and .u8 (dv c ((2:Int) ^ ((min (Int.toNat (7-i)) 8):Nat))) 1)=1)))) with
    | true=>exact⟨_,rfl,⟨_,_,rfl,by omega,by omega⟩,by show (8-(i+1)).toNat<(8-i).toNat;omega⟩
    | false=>exact⟨_,rfl,⟨_,_,rfl,by omega,by omega⟩,by show (8-(i+1)).toNat<(8-i).toNat;omega⟩
   ·right;left
    simp only[dH,j8]
    rw[decide_eq_false hi]
    exact⟨_,rfl,_,rfl⟩
 have key:=jZ (f:=eS)
  (fun z=>∃ (j:Nat) (x:Int),z=(((),b,((b.length:Nat):Int),((j:Nat):Int),()),((x,()),()),())∧j≤b.length)
  (fun z=>(((b.length:Nat):Int)-z.1.2.2.2.1).toNat)
  (fun r=>∃ x,r = .inl ((),((x,()),()),()))
  ?_ az (((),b,((b.length:Nat):Int),0,()),(((aG .xor .u32 s 4294967295),()),()),()) ⟨0,_,rfl,dt _⟩ (by unfold az;simp only;omega)
 ·obtain⟨r,h1,x,rfl⟩:=key
  refine⟨aG .xor .u32 x 4294967295,?_⟩
  unfold f172
  rw[h1];rfl
 ·rintro z ⟨j,x,rfl,hj⟩
  by_cases hlt:j<b.length
  ·left
   obtain⟨x',hx⟩:=inner (rd (.int .u8) b j) ((b.length:Nat):Int) ((j:Nat):Int) x (by omega)
   simp only[eS,lg]
   rw[decide_eq_true (show ((j:Nat):Int)<(b.length:Int) by omega),decide_eq_true (show (0:Int)≤(j:Int) by omega)]
   simp only[cond_true,ap,al]
   rw[hx]
   simp only[ae]
   rw[bY (by omega) (by omega)]
   exact⟨_,rfl,⟨j+1,_,rfl,by omega⟩,by show (((b.length:Nat):Int)-((j:Int)+1)).toNat<(((b.length:Nat):Int)-(j:Int)).toNat;omega⟩
  ·right;left
   simp only[eS,lg]
   rw[decide_eq_false (by omega)]
   exact⟨_,rfl,_,rfl⟩
noncomputable def TI (b:List Int):Int:=(f136 b).elim 0 (·.1)
theorem Sh (b:List Int)(hl:b.length≤1000000000):f136 b=some (TI b,()):=by
 obtain⟨n,h⟩:=RS 0 b hl
 have:f136 b=some (n,()):=by unfold f136;rw[h];rfl
 unfold TI
 rw[this];rfl
def RE (x:Int):Nat:=(aw .u8 x).toNat
theorem u9 (x:Int):((RE x:Nat):Int)=aw .u8 x:=by unfold RE;rw[IntKind.wrap_u8];omega
def NL (n:Int):List Nat:=[RE (dv n 16777216),RE (dv n 65536),RE (dv n 256),RE n]
theorem SF (n:Int):f135 n=some (ints (NL n),()):=by
 show _=some ([((RE _:Nat):Int),((RE _:Nat):Int),((RE _:Nat):Int),((RE _:Nat):Int)],())
 rw[u9,u9,u9,u9];rfl
noncomputable def cN (b:List Nat):List Nat:=NL (TI (ints b))
theorem vO (b:List Nat):(cN b).length=4:=rfl
theorem ab0 (m:Nat):decide ((m:Int)<128)=decide (m<128):=decide_eq_decide.2 (by omega)
theorem Y8 (b:List Nat)(hl:b.length≤1000000000):f97 (ints b)=some (tQ b,()):=by
 unfold f97 tQ
 rw[aE]
 by_cases h6:b.length<6
 ·rw[decide_eq_true (show ((b.length:Nat):Int)<6 by omega),decide_eq_true h6]
  have k:=iz (u:=eo) b (fun c=>decide (c<128)) (fun j=>((ints b,(),((b.length:Nat):Int),((j:Nat):Int),()),(),())) (fun j=>((((j:Nat):Int),()),(),())) (y:=((),(),())) (fun j hj=>by
   have hji:j<(ints b).length:=by rw[aE];exact hj
   simp only[eo,nD]
   rw[gp hj,eL,aE,gp hj]
   simp only[cond_true,ap,al]
   have e:f133 (rd (.int .u8) (ints b) j)=some (decide (b[j]<128),()):=by
    rw[rdB hji,xI]
    have d:=ab0 b[j]
    show some (decide (((b[j]:Nat):Int)<128),())=_
    rw[d]
   rw[e]
   simp only[ae]
   rw[bY (by omega) (by omega)]
   cases decide (b[j]<128)<;>rfl) (by
   simp only[eo,nD]
   rw[ow];rfl) (fuel:=az) (by unfold az;omega)
  have k:iter az eo ((ints b,(),((b.length:Nat):Int),0,()),(),())=_:=k
  simp only[cond_true,k,dd]
  by_cases hx:b.findIdx (fun c=>decide (c<128))<b.length
  ·rw[if_pos hx]
   have:b.any (fun c=>decide (c<128))=true:=by
    rw[List.any_eq_true]
    exact⟨_,dk hx,List.findIdx_getElem (w:=hx)⟩
   rw[this]
   simp only[ae,decide_eq_true (Int.natCast_nonneg _)]
  ·rw[if_neg hx]
   have:b.any (fun c=>decide (c<128))=false:=by
    rw[List.any_eq_false]
    intro c hc hh
    exact hx (List.findIdx_lt_length_of_exists ⟨c,hc,hh⟩)
   rw[this];rfl
 ·rw[decide_eq_false (show ¬ ((b.length:Nat):Int)<6 by omega),decide_eq_false h6];rfl
theorem S0 (a b:List Nat):decide (ints a=ints b)=decide (a=b):=decide_eq_decide.2 ⟨Pd,fun h=>by rw[h]⟩
theorem Wt (l:List Nat)(h4:4≤l.length)(hl:l.length≤1000000) :
  f99 (ints l)=some (if l.drop (l.length-4)=cN (l.take (l.length-4)) then (ints (l.take (l.length-4)),true,()) else ([],false,())):=by
 have e1:aw .i64 (((l.length:Nat):Int)-4)=((l.length-4:Nat):Int):=by rw[bY (by omega) (by omega)];omega
 have s1:ee 0 (eh (l.length-4) (ints l))=ints (l.take (l.length-4)):=by rw[du,cz]
 have s2:ee (l.length-4) (eh l.length (ints l))=ints (l.drop (l.length-4)):=by rw[cz,List.take_length,cO]
 unfold f99
 simp only[aE,e1,decide_eq_false (show ¬ ((l.length-4:Nat):Int)<0 by omega),cond_false,al,s1,s2,
  decide_eq_true (show (0:Int)≤((l.length-4:Nat):Int) by omega),decide_eq_true (show ((l.length-4:Nat):Int)≤((l.length:Nat):Int) by omega),decide_eq_true (dC ((l.length:Nat):Int)),ap,cond_true,
  Sh (ints (l.take (l.length-4))) (by rw[aE,ba];omega),SF,ae]
 rw[show ints (NL (TI (ints (l.take (l.length-4)))))=ints (cN (l.take (l.length-4))) from rfl,Ui _ _ (by rw[aE,be];omega),S0]
 by_cases h:l.drop (l.length-4)=cN (l.take (l.length-4))
 ·rw[if_pos h,decide_eq_true h]
  simp only[ae,cf,cond_false]
  rw[oh _ (by rw[aE,ba];omega)]
  rfl
 ·rw[if_neg h,decide_eq_false h];rfl
def sP (at':Nat):Except Nat (Nat×List Nat×Nat)→((Int×(List Int))×Int×Int×Unit)
 | .error e=>((0,[]),0,(e:Int),())
 | .ok x=>(((x.1:Int),ints x.2.1),((at'+x.2.2:Nat):Int),0,())
theorem kz {b:List Nat}{j:Nat}(h:j<b.length):b.drop j=b[j]::b.drop (j+1):=bi h
theorem Pj (b:List Nat)(hb:∀ c∈b,c<256)(hl:b.length≤1000000)(at':Nat)(hat:at'≤b.length) :
  f70 (ints b) (at':Int)=some (sP at' (jc cN (b.drop at'))):=by
 unfold f70
 simp only[aE,decide_eq_false (show ¬ (at':Int)<0 by omega),decide_eq_false (show ¬ ((b.length:Nat):Int)<(at':Int) by omega),cond_false]
 by_cases he:at'=b.length
 ·rw[decide_eq_true (by omega),he,List.drop_length];rfl
 have hlt:at'<b.length:=by omega
 have e1:aw .i64 ((at':Int)+1)=((at'+1:Nat):Int):=by rw[bY (by omega) (by omega)];omega
 have s1:ee (at'+1) (eh b.length (ints b))=ints (b.drop (at'+1)):=by rw[cz,List.take_length,cO]
 simp only[decide_eq_false (show ¬ (at':Int)=((b.length:Nat):Int) by omega),cond_false,e1,al,s1,eL,decide_eq_true (show ((at'+1:Nat):Int)≤((b.length:Nat):Int) by omega),decide_eq_true (dC ((b.length:Nat):Int)),ap,cond_true,
  Y8 (b.drop (at'+1)) (by rw[be];omega),ae,xb b hb (by omega) (at'+1) (by omega)]
 rw[kz hlt]
 simp only[jc]
 cases ho:tQ (b.drop (at'+1)) with
 | true=>rw[if_pos rfl];rfl
 | false=>
  rw[if_neg (by simp)]
  cases hv:qO (b.drop (at'+1)) with
  | none=>rfl
  | some q=>
   obtain⟨n,k⟩:=q
   have hn:n≤1099511627776:=(j6 (fun c hc=>hb c (cn hc)) hv).1
   have hk6:k≤6:=by rw[(j6 (fun c hc=>hb c (cn hc)) hv).2.1];exact yR hn
   simp only[cond_false,decide_eq_false (show ¬ ((at'+1+k:Nat):Int) = -1 by omega)]
   by_cases h1000:1000<n
   ·rw[if_pos h1000,decide_eq_true (by omega)];rfl
   rw[if_neg h1000,decide_eq_false (by omega)]
   have e2:aw .i64 ((aw .i64 (((at'+1+k:Nat):Int)+(n:Int)))+4)=((at'+(1+k+n+4):Nat):Int):=by
    rw[bY (x:=((at'+1+k:Nat):Int)+(n:Int)) (by omega) (by omega),bY (by omega) (by omega)];omega
   simp only[cond_false,e2]
   have hlen:(b[at']::b.drop (at'+1)).length=b.length-at':=by rw[← kz hlt,be]
   rw[hlen]
   by_cases h4:b.length-at'<1+k+n+4
   ·rw[if_pos h4,decide_eq_true (by omega)];rfl
   rw[if_neg h4,decide_eq_false (by omega)]
   have s2:ee at' (eh (at'+(1+k+n+4)) (ints b))=ints ((b.drop at').take (1+k+n+4)):=by
    rw[cz,cO,dE,bj]
   have hL:((b.drop at').take (1+k+n+4)).length=1+k+n+4:=by rw[ba,be];omega
   have t1:((b.drop at').take (1+k+n+4)).take (1+k+n)=(b.drop at').take (1+k+n):=by rw[List.take_take,Nat.min_eq_left (by omega)]
   have t2:((b.drop at').take (1+k+n+4)).drop (1+k+n)=((b.drop at').drop (1+k+n)).take 4:=by rw[dE,bj]
   have hf:=Wt ((b.drop at').take (1+k+n+4)) (by rw[hL];omega) (by rw[hL];omega)
   rw[hL,show 1+k+n+4-4=1+k+n by omega,t1,t2] at hf
   rw[← kz hlt]
   simp only[cond_false,eL,decide_eq_true (show (at':Int)≤((at'+(1+k+n+4):Nat):Int) by omega),decide_eq_true (dC _),decide_eq_true (show ((at'+(1+k+n+4):Nat):Int)≤((b.length:Nat):Int) by omega),ap,cond_true,al,s2,hf,ae]
   by_cases hc:((b.drop at').drop (1+k+n)).take 4=cN ((b.drop at').take (1+k+n))
   ·have hL2:((b.drop at').take (1+k+n)).length=1+k+n:=by rw[ba,be];omega
    have e3:aw .i64 (((at'+1+k:Nat):Int)-(at':Int))=((1+k:Nat):Int):=by rw[bY (by omega) (by omega)];omega
    have s3:ee (1+k) (eh (1+k+n) (ints ((b.drop at').take (1+k+n))))=ints (((b.drop (at'+1)).drop k).take n):=by
     rw[cz,List.take_take,Nat.min_self,cO,dE,List.drop_drop,List.drop_drop,bj]
     congr 3;omega
    have hr0:rd (.int .u8) (ints ((b.drop at').take (1+k+n))) 0=((b[at']:Nat):Int):=by
     rw[kz hlt,show 1+k+n=(k+n)+1 by omega,List.take_succ_cons];rfl
    have hb8:=hb _ (dk hlt)
    simp only[if_pos hc,cf,cond_false,aE,hL2,decide_eq_true (show (0:Int)<((1+k+n:Nat):Int) by omega),cond_true,e3,eL,decide_eq_true (show ((1+k:Nat):Int)≤((1+k+n:Nat):Int) by omega),decide_eq_true (dC _),ap,al,s3,hr0,bY (x:=((b[at']:Nat):Int)) (by omega) (by omega)]
    rfl
   ·simp only[if_neg hc,Bool.not_false,cond_true]
    rfl
noncomputable def gS (b:List Nat):Option (ST×Nat):=
 match jc cN b with
 | .error _=>none
 | .ok x=>if x.1=1 then (jD x.2.1).map fun s=>(s,x.2.2) else none
noncomputable def Gp:Option (ST×Nat)→(ST×Int×Bool×Unit)
 | some y=>(y.1,((y.2:Nat):Int),true,())
 | none=>(tZ,0,false,())
theorem CI {b:List Nat}(hb:∀ c∈b,c<256){k n:Nat}{body:List Nat}(h:jc cN b = .ok (k,body,n)):(∀ c∈body,c<256)∧body.length≤1000∧n≤b.length∧1≤n:=by
 rcases lF cN b with⟨e,he,_⟩|⟨c,r,n',k',rfl,ho,hv,h1,h2,h3,h4⟩
 ·rw[he] at h;cases h
 ·rw[h4] at h
  cases h
  refine⟨fun x hx=>hb x (List.mem_cons_of_mem _ (cn (List.mem_of_mem_take hx))),?_,by omega,by omega⟩
  rw[ba];omega
theorem CH (b:List Nat)(hb:∀ c∈b,c<256)(hl:b.length≤1000000):f39 (ints b)=some (Gp (gS b)):=by
 have h0:=Pj b hb hl 0 (dt _)
 rw[du] at h0
 have h0:f70 (ints b) 0=_:=h0
 unfold f39 gS
 rw[h0]
 simp only[ae]
 cases hg:jc cN b with
 | error e=>
  have he:e≠0:=by
   rcases lF cN b with⟨e',he,h⟩|⟨c,r,n',k',rfl,ho,hv,h1,h2,h3,h4⟩
   ·rw[he] at hg;cases hg;exact h
   ·rw[h4] at hg;cases hg
  have hd:decide (((e:Nat):Int)=0)=false:=decide_eq_false (by omega)
  show cond (!(decide (((e:Nat):Int)=0))) _ _=_
  rw[hd];rfl
 | ok x=>
  obtain⟨k,body,n⟩:=x
  obtain⟨h1,h2,h3,h4⟩:=CI hb hg
  show cond (!(decide (((k:Nat):Int)=1))) _ ((f71 (ints body)).bind _)=_
  by_cases hk:k=1
  ·subst hk
   rw[Zb body h1 (by omega)]
   rw[decide_eq_true (show ((1:Nat):Int)=1 from rfl)]
   simp only[cf,cond_false,ae,if_true,sP,Nat.zero_add]
   cases jD body with
   | none=>rfl
   | some s=>rfl
  ·rw[decide_eq_false (show ¬ ((k:Nat):Int)=1 by omega)]
   simp only[if_neg hk];rfl
theorem ig {b:List Nat}(hb:∀ c∈b,c<256){s:ST}{n:Nat}(h:gS b=some (s,n)):bS s∧Cb s∧n≤b.length:=by
 unfold gS at h
 cases hg:jc cN b with
 | error e=>rw[hg] at h;cases h
 | ok x=>
  obtain⟨k,body,m⟩:=x
  obtain⟨h1,h2,h3,h4⟩:=CI hb hg
  rw[hg] at h
  simp only at h
  split at h
  ·cases hr:jD body with
   | none=>rw[hr] at h;cases h
   | some t=>
    rw[hr] at h
    simp only[Option.map_some,Option.some.injEq,Prod.mk.injEq] at h
    obtain⟨rfl,rfl⟩:=h
    have:=QU h1 hr
    exact⟨this.1,this.2.1,h3⟩
  ·cases h
def Vf (F:List FD):Int:=(F.getLast?).elim 0 (·.1)
theorem SC {α:Type}(F:List α):F=[]∨∃ G f,F=G++[f]:=by
 cases F with
 | nil=>exact .inl rfl
 | cons a r=>exact .inr ⟨(a::r).dropLast,(a::r).getLast (by simp),(List.dropLast_concat_getLast (by simp)).symm⟩
def abD (c:Int)(F:List FD)(no now:Int):Prop:=gA c F=true∧0<Vf F∧Vf F=no∧0≤now∧now≤1073741824
instance (c:Int)(F:List FD)(no now:Int):Decidable (abD c F no now):=by unfold abD;infer_instance
theorem zy:∀ {F:List FD} {a:Int} {x:FD},qR a (F++[x])=true→qR a F=true∧(∀ f∈F,f.1<x.1)∧a<x.1∧x.1≤1073741824∧0≤x.2.2∧x.2.2≤(x.2.1.length:Int)
 | [],a,x,h=>by
  simp[qR] at h
  exact⟨rfl,by simp,h.1.1.1,h.1.1.2,h.1.2,h.2⟩
 | f::r,a,x,h=>by
  have h0:=h
  simp only[qR,cd,decide_eq_true_eq,List.cons_append] at h ⊢
  have ih:=zy h.2
  have:=ih.2.2.1
  refine⟨⟨h.1,ih.1⟩,fun g hg=>?_,by omega,ih.2.2.2⟩
  rcases eI.1 hg with rfl|hg
  ·exact this
  ·exact ih.2.1 g hg
theorem GV (F:List FD)(x:FD):di (F++[x])=di F+x.2.1.length:=by rw[sV];simp[di]
theorem Oi (F:List FD)(x y:FD):(F++[x]).set F.length y=F++[y]:=by
 rw[List.set_append_right _ _ (da _),Nat.sub_self];rfl
theorem ny (F:List FD)(x:FD):(F++[x])[F.length]'(by simp)=x:=by
 rw[List.getElem_append_right (da _)];simp
abbrev WT:=(Int×List FD)×Int×Int
end Go.Proofs.Zz
