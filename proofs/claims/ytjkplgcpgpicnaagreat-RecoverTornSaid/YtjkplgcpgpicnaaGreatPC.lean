/- P17r, P17s, P17t, P17u, P17v, P17w, P17x. -/
import Derived.Test.YtjkplgcpgpicnaaGreatPA
import Derived.Test.YtjkplgcpgpicnaaGreatPB
import Derived.Test.YtjkplgcpgpicnaaGreatFI
namespace Go.Proofs.Zz
open Go Go.Sy
set_option linter.unusedSimpArgs false
set_option linter.unusedVariables false
abbrev FD:Type:=Int×List Int×Int
def FM (F:List FD):Prop:=F.length≤1000∧∀ f∈F,f.2.1.length≤1000000
def cM:List FD→Nat
 | []=>0
 | f::r=>f.2.1.length+cM r
theorem DF:∀ {F:List FD},(∀ f∈F,f.2.1.length≤1000000)→cM F≤F.length * 1000000
 | [],_=>Nat.le_refl _
 | f::r,h=>by
  have h1:=h f (List.mem_cons_self ..)
  have h2:=DF (F:=r) fun g hg=>h g (List.mem_cons_of_mem _ hg)
  simp only[cM,List.length_cons];omega
theorem qQ:∀ (F G:List FD),cM (F++G)=cM F+cM G
 | [],G=>by simp[cM]
 | f::r,G=>by simp only[List.cons_append,cM,qQ r G];omega
theorem j3 {F:List FD}{j:Nat}(h:j<F.length):rd (.pair (.int .i64) (.pair (.row (.int .u8)) (.int .i64))) F j=F[j]:=by
 unfold rd
 rw[List.getD_eq_getElem?_getD,List.getElem?_eq_getElem h];rfl
theorem UE (F:List FD)(h:FM F):f53 F=some ((cM F:Int),()):=by
 have key:∀ (r:List FD) (j:Nat),F.drop j=r→iter (r.length+1) wI ((((cM (F.take j):Nat):Int),F,((F.length:Nat):Int),((j:Nat):Int),()),(),())=some (.inl ((((cM F:Nat):Int),()),(),())):=by
  intro r
  induction r with
  | nil=>
   intro j hj
   have hjl:F.length≤j:=List.drop_eq_nil_iff.1 hj
   refine bJ ?_
   simp only[wI,K7]
   rw[decide_eq_false (by omega),cond_false,List.take_of_length_le hjl]
  | cons f r ih=>
   intro j hj
   have hjl:j<F.length:=by
    rcases Nat.lt_or_ge j F.length with h|h
    ·exact h
    ·rw[List.drop_eq_nil_of_le h] at hj;cases hj
   have hf:F[j]=f:=by
    have:=List.getElem_cons_drop hjl
    rw[hj] at this
    exact (List.cons.inj this).1
   have hr:F.drop (j+1)=r:=by
    have:=List.getElem_cons_drop hjl
    rw[hj] at this
    exact (List.cons.inj this).2
   have hu:cM (F.take (j+1))=cM (F.take j)+f.2.1.length:=by
    rw[List.take_succ_eq_append_getElem hjl,qQ,hf];simp[cM]
   have hb:=DF (F:=F.take (j+1)) fun g hg=>h.2 g (List.mem_of_mem_take hg)
   have hl:=h.1
   rw[List.length_take] at hb
   rw[List.length_cons,br (x':=((((cM (F.take (j+1)):Nat):Int),F,((F.length:Nat):Int),((j+1:Nat):Int),()),(),()))]
   ·exact ih (j+1) hr
   ·simp only[wI,K7]
    rw[decide_eq_true (show ((j:Nat):Int)<(F.length:Int) by omega),decide_eq_true (show (0:Int)≤(j:Int) by omega)]
    simp only[cond_true,Bool.and_self,Int.toNat_natCast]
    rw[j3 hjl,hf,bN (by omega) (by omega),bN (by omega) (by omega),hu]
    simp only[Int.natCast_add];rfl
 unfold f53
 have h0:=key F 0 rfl
 rw[List.take_zero] at h0
 have hl:=h.1
 have hk:iter aA wI ((0,F,((F.length:Nat):Int),0,()),(),())=_:=en (show F.length+1≤aA by unfold aA;omega) h0
 rw[hk]
 rfl
def kU (last:Int):List FD→Bool
 | []=>true
 | f::r=>decide (last<f.1)&&decide (f.1≤1073741824)&&decide (0≤f.2.2)&&decide (f.2.2≤(f.2.1.length:Int))&&kU f.1 r
def dx (c:Int)(F:List FD):Bool:=kU 0 F&&decide (0≤c)&&decide (c≤65536)&&decide (F.length≤12)&&decide ((cM F:Int)≤c)
theorem qU (c:Int)(F:List FD)(h:FM F):f23 c F=some (dx c F,()):=by
 have hl:=h.1
 have key:∀ (r:List FD) (j:Nat) (last:Int),F.drop j=r→iter (r.length+1) uK (((),last,F,((F.length:Nat):Int),((j:Nat):Int),()),((c,F,()),()),()) =
   some (cond (kU last r) (.inl (((),()),((c,F,()),()),())) (.inr ((false,()),(),()))):=by
  intro r
  induction r with
  | nil=>
   intro j last hj
   have hjl:F.length≤j:=List.drop_eq_nil_iff.1 hj
   refine bJ ?_
   simp only[uK,NI]
   rw[decide_eq_false (by omega),cond_false]
  | cons f r ih=>
   intro j last hj
   have hjl:j<F.length:=by
    rcases Nat.lt_or_ge j F.length with h|h
    ·exact h
    ·rw[List.drop_eq_nil_of_le h] at hj;cases hj
   have hc:=List.getElem_cons_drop hjl
   rw[hj] at hc
   obtain⟨hf,hr⟩:=List.cons.inj hc
   have step:uK (((),last,F,((F.length:Nat):Int),((j:Nat):Int),()),((c,F,()),()),()) =
     some (cond (decide (last<f.1)&&decide (f.1≤1073741824)&&decide (0≤f.2.2)&&decide (f.2.2≤(f.2.1.length:Int))) (.next (((),f.1,F,((F.length:Nat):Int),((j+1:Nat):Int),()),((c,F,()),()),())) (.ret ((false,()),(),()))):=by
    simp only[uK,NI]
    rw[decide_eq_true (show ((j:Nat):Int)<(F.length:Int) by omega),decide_eq_true (show (0:Int)≤(j:Int) by omega)]
    simp only[cond_true,Bool.and_self,Int.toNat_natCast,j3 hjl,hf,bN (x:=((j:Nat):Int)+1) (by omega) (by omega)]
    by_cases c1:last<f.1
    ·rw[decide_eq_false (show ¬ f.1≤last by omega),decide_eq_true c1]
     by_cases c2:f.1≤1073741824
     ·rw[decide_eq_false (show ¬ 1073741824<f.1 by omega),decide_eq_true c2]
      by_cases c3:0≤f.2.2
      ·rw[decide_eq_false (show ¬ f.2.2<0 by omega),decide_eq_true c3]
       by_cases c4:f.2.2≤(f.2.1.length:Int)
       ·rw[decide_eq_false (show ¬ ((f.2.1.length:Nat):Int)<f.2.2 by omega),decide_eq_true c4];rfl
       ·rw[decide_eq_true (show ((f.2.1.length:Nat):Int)<f.2.2 by omega),decide_eq_false c4];rfl
      ·rw[decide_eq_true (show f.2.2<0 by omega),decide_eq_false c3];rfl
     ·rw[decide_eq_true (show 1073741824<f.1 by omega),decide_eq_false c2];rfl
    ·rw[decide_eq_true (show f.1≤last by omega),decide_eq_false c1];rfl
   simp only[kU]
   cases hq:(decide (last<f.1)&&decide (f.1≤1073741824)&&decide (0≤f.2.2)&&decide (f.2.2≤(f.2.1.length:Int))) with
   | true=>
    rw[hq] at step
    rw[List.length_cons,br step,ih (j+1) f.1 hr,Bool.true_and]
   | false=>
    rw[hq] at step
    rw[eP step,Bool.false_and];rfl
 have hk:=en (show F.length+1≤aA by unfold aA;omega) (key F 0 0 rfl)
 unfold f23 dx
 have hk:iter aA uK (((),0,F,((F.length:Nat):Int),0,()),((c,F,()),()),())=_:=hk
 rw[hk]
 cases kU 0 F with
 | false=>rfl
 | true=>
  simp only[cond_true,Option.bind_some,Bool.true_and]
  by_cases c1:0≤c
  ·rw[decide_eq_true c1]
   by_cases c2:c≤65536
   ·rw[decide_eq_true c2]
    by_cases c3:F.length≤12
    ·rw[decide_eq_true c3,decide_eq_true (show ((F.length:Nat):Int)≤12 by omega)]
     simp only[cond_true,UE F h,Option.bind_some,Bool.true_and]
    ·rw[decide_eq_false c3,decide_eq_false (show ¬ ((F.length:Nat):Int)≤12 by omega)];rfl
   ·rw[decide_eq_false c2];rfl
  ·rw[decide_eq_false c1];rfl
theorem Hp {α β γ:Type}{u:α→Option (R3 α β γ)}(st:Nat→α){n:Nat}{y:β}(hs:∀ j,j<n→u (st j)=some (.next (st (j+1))))(he:u (st n)=some (.out y))(hb:n≤1000000000000) :
  iter aA u (st 0)=some (.inl y):=uL st hs he 0 aA (Nat.zero_le _) (by unfold aA;omega)
theorem Ku (a b:List Int)(ha:a.length≤1000000000):f82 a b=some (decide (a=b),()):=by
 unfold f82
 by_cases hlen:a.length=b.length
 ·rw[decide_eq_true (show ((a.length:Nat):Int)=((b.length:Nat):Int) by omega)]
  simp only[Bool.not_true,cond_false]
  have key:∀ (j k:Nat),j+k=a.length→iter (k+1) vn ((a,b,((a.length:Nat):Int),((j:Nat):Int),()),(),())=some (cond (decide (a.drop j=b.drop j)) (.inl ((),(),())) (.inr ((false,()),(),()))):=by
   intro j k
   induction k generalizing j with
   | zero=>
    intro hj
    rw[List.drop_of_length_le (by omega),List.drop_of_length_le (by omega)]
    refine bJ ?_
    simp only[vn,MU]
    rw[decide_eq_false (by omega)];rfl
   | succ k ih=>
    intro hj
    have hja:j<a.length:=by omega
    have hjb:j<b.length:=by omega
    have step:vn ((a,b,((a.length:Nat):Int),((j:Nat):Int),()),(),())=some (cond (decide (a[j]=b[j])) (.next ((a,b,((a.length:Nat):Int),((j+1:Nat):Int),()),(),())) (.ret ((false,()),(),()))):=by
     simp only[vn,MU]
     rw[decide_eq_true (show ((j:Nat):Int)<(a.length:Int) by omega),decide_eq_true (show (0:Int)≤(j:Int) by omega),decide_eq_true (show ((j:Nat):Int)<(b.length:Int) by omega)]
     simp only[cond_true,Bool.and_self,Int.toNat_natCast]
     have e1:rd (.int .u8) a j=a[j]:=jz (e:=.int .u8) hja
     have e2:rd (.int .u8) b j=b[j]:=jz (e:=.int .u8) hjb
     simp only[e1,e2,bN (x:=((j:Nat):Int)+1) (by omega) (by omega)]
     cases decide (a[j]=b[j])<;>rfl
    rw[List.drop_eq_getElem_cons hja,List.drop_eq_getElem_cons hjb]
    by_cases hq:a[j]=b[j]
    ·rw[decide_eq_true hq] at step
     rw[br step,ih (j+1) (by omega)]
     simp only[List.cons.injEq,hq,true_and]
    ·rw[decide_eq_false hq] at step
     rw[eP step,decide_eq_false (fun hh=>hq (List.cons.inj hh).1)];rfl
  have h0:=en (show a.length+1≤aA by unfold aA;omega) (key 0 a.length (by omega))
  have h0:iter aA vn ((a,b,((a.length:Nat):Int),0,()),(),())=_:=h0
  rw[h0]
  simp only[List.drop_zero]
  cases decide (a=b)<;>rfl
 ·rw[decide_eq_false (show ¬ ((a.length:Nat):Int)=((b.length:Nat):Int) by omega),decide_eq_false (show ¬ a=b from fun h=>hlen (congrArg _ h))]
  rfl
theorem ny (l:List Int)(h:l.length≤100000000):dO l=some (l,()):=by
 show cond (Nat.ble (l.length * 1) 140737488355328) _ _=_
 rw[show Nat.ble (l.length * 1) 140737488355328=true from Nat.ble_eq_true_of_le (by omega)];rfl
theorem wq (l:List FD)(h:l.length≤100000000):gQ l=some (l,()):=by
 show cond (Nat.ble (l.length * 40) 140737488355328) _ _=_
 rw[show Nat.ble (l.length * 40) 140737488355328=true from Nat.ble_eq_true_of_le (by omega)];rfl
theorem FM.at {F:List FD}(h:FM F){j:Nat}(hj:j<F.length):F[j].2.1.length≤1000000:=h.2 _ (List.getElem_mem hj)
theorem Qp {F:List FD}{j:Nat}(hj:j<F.length){a:Int}{b:List Int}{c:Int}(h1:a=F[j].1)(h2:b=F[j].2.1)(h3:c=F[j].2.2):F.set j (a,b,c)=F:=by
 subst h1;subst h2;subst h3
 exact List.set_getElem_self hj
theorem HW (c:Int)(F:List FD)(h:FM F):f112 c F=some ((c,F),()):=by
 have hl:=h.1
 unfold f112
 rw[wq F (by omega)]
 simp only[Option.bind_some]
 have k:=Hp (u:=qT) (fun j=>(((),(),((F.length:Nat):Int),((j:Nat):Int),()),((c,(),()),(0,(),()),()),F,[],())) (n:=F.length) (y:=(((),(),()),((c,(),()),(0,(),()),()),F,[],())) (fun j hj=>?_) ?_ (by omega)
 ·have k:iter aA qT (((),(),((F.length:Nat):Int),0,()),((c,(),()),(0,(),()),()),F,[],())=_:=k
  rw[k];rfl
 ·simp only[qT,Eg]
  rw[decide_eq_true (show ((j:Nat):Int)<(F.length:Int) by omega),decide_eq_true (show (0:Int)≤(j:Int) by omega)]
  simp only[cond_true,Bool.and_self,Int.toNat_natCast]
  rw[decide_eq_true hj,j3 hj,ny _ (Nat.le_trans (h.at hj) (by omega))]
  simp only[cond_true,Option.bind_some]
  rw[bN (by omega) (by omega),Qp hj rfl rfl rfl]
  rfl
 ·simp only[qT,Eg]
  rw[decide_eq_false (by omega)];rfl
theorem U9 (x y:FD)(h:x.2.1.length≤1000000000):f81 x.1 x.2.1 x.2.2 y.1 y.2.1 y.2.2=some (decide (x=y),()):=by
 obtain⟨a,b,c⟩:=x
 obtain⟨a',b',c'⟩:=y
 unfold f81
 simp only at h ⊢
 rw[Ku b b' h]
 by_cases h1:a=a'
 ·by_cases h2:c=c'
  ·by_cases h3:b=b'
   ·simp[h1,h2,h3]
   ·simp[h1,h2,h3]
  ·simp[h1,h2]
 ·simp[h1]
theorem Wr (c:Int)(F:List FD)(c':Int)(G:List FD)(h:FM F):f36 c F c' G=some (decide (c=c'∧F=G),()):=by
 have hl:=h.1
 unfold f36
 by_cases hc:c=c'
 ·rw[decide_eq_true hc]
  by_cases hlen:F.length=G.length
  ·rw[decide_eq_true (show ((F.length:Nat):Int)=((G.length:Nat):Int) by omega)]
   simp only[Bool.not_true,cond_false,cond_true]
   have key:∀ (j k:Nat),j+k=F.length→iter (k+1) dS ((G,(),F,((F.length:Nat):Int),((j:Nat):Int),()),((c,F,()),(c',G,()),()),()) =
     some (cond (decide (F.drop j=G.drop j)) (.inl ((),((c,F,()),(c',G,()),()),())) (.inr ((false,()),((c,F,()),(c',G,()),()),()))):=by
    intro j k
    induction k generalizing j with
    | zero=>
     intro hj
     rw[List.drop_of_length_le (by omega),List.drop_of_length_le (by omega)]
     refine bJ ?_
     simp only[dS,oa]
     rw[decide_eq_false (by omega)];rfl
    | succ k ih=>
     intro hj
     have hja:j<F.length:=by omega
     have hjb:j<G.length:=by omega
     have step:dS ((G,(),F,((F.length:Nat):Int),((j:Nat):Int),()),((c,F,()),(c',G,()),()),())=some (cond (decide (F[j]=G[j])) (.next ((G,(),F,((F.length:Nat):Int),((j+1:Nat):Int),()),((c,F,()),(c',G,()),()),())) (.ret ((false,()),((c,F,()),(c',G,()),()),()))):=by
      simp only[dS,oa]
      rw[decide_eq_true (show ((j:Nat):Int)<(F.length:Int) by omega),decide_eq_true (show (0:Int)≤(j:Int) by omega),decide_eq_true (show ((j:Nat):Int)<(G.length:Int) by omega)]
      simp only[cond_true,Bool.and_self,Int.toNat_natCast]
      rw[j3 hja,j3 hjb,U9 _ _ (Nat.le_trans (h.at hja) (by omega)),bN (by omega) (by omega)]
      simp only[Option.bind_some]
      cases decide (F[j]=G[j])<;>rfl
     rw[List.drop_eq_getElem_cons hja,List.drop_eq_getElem_cons hjb]
     by_cases hq:F[j]=G[j]
     ·rw[decide_eq_true hq] at step
      rw[br step,ih (j+1) (by omega)]
      simp only[List.cons.injEq,hq,true_and]
     ·rw[decide_eq_false hq] at step
      rw[eP step,decide_eq_false (fun hh=>hq (List.cons.inj hh).1)];rfl
   have h0:=en (show F.length+1≤aA by unfold aA;omega) (key 0 F.length (by omega))
   have h0:iter aA dS ((G,(),F,((F.length:Nat):Int),0,()),((c,F,()),(c',G,()),()),())=_:=h0
   rw[h0]
   simp only[List.drop_zero,hc,true_and]
   cases decide (F=G)<;>rfl
  ·rw[decide_eq_false (show ¬ ((F.length:Nat):Int)=((G.length:Nat):Int) by omega),decide_eq_false (show ¬ (c=c'∧F=G) from fun h=>hlen (congrArg _ h.2))]
   rfl
 ·rw[decide_eq_false hc,decide_eq_false (show ¬ (c=c'∧F=G) from fun h=>hc h.1)];rfl
theorem KR (c:Int)(F:List FD)(f:FD)(h:FM (F++[f])):f28 c (F++[f])=some (f.1,((F.length:Nat):Int),()):=by
 have hl:=h.1
 rw[List.length_append,List.length_singleton] at hl
 unfold f28
 rw[List.length_append,List.length_singleton,bN (by omega) (by omega),decide_eq_false (by omega),decide_eq_true (by omega),decide_eq_true (by omega)]
 simp only[cond_true,cond_false,Bool.and_self]
 rw[show (((F.length+1:Nat):Int)-1).toNat=F.length by omega,j3 (by simp)]
 simp only[List.getElem_append_right (Nat.le_refl _),Nat.sub_self,List.getElem_singleton]
 rw[show ((F.length+1:Nat):Int)-1=(F.length:Int) by omega]
theorem wuI {x:Int}(h1:0≤x)(h2:x≤9223372036854775807):IntKind.wrap .u64 x=x:=by rw[IntKind.wrap_u64];omega
theorem tM:∀ {F:List FD} {a:Int},kU a F=true→∀ f∈F,a<f.1∧f.1≤1073741824∧0≤f.2.2∧f.2.2≤(f.2.1.length:Int)
 | [],_,_,_,h=>by cases h
 | f::r,a,h,g,hg=>by
  simp only[kU,Bool.and_eq_true,decide_eq_true_eq] at h
  rcases List.mem_cons.1 hg with rfl|hg
  ·exact⟨h.1.1.1.1,h.1.1.1.2,h.1.1.2,h.1.2⟩
  ·have:=tM h.2 g hg
   exact⟨by omega,this.2⟩
theorem D1:∀ {F:List FD} {a:Int},kU a F=true→F.Pairwise fun x y=>x.1<y.1
 | [],_,_=>List.Pairwise.nil
 | f::r,a,h=>by
  simp only[kU,Bool.and_eq_true,decide_eq_true_eq] at h
  exact List.Pairwise.cons (fun g hg=>(tM h.2 g hg).1) (D1 h.2)
theorem Fc {F:List FD}(hr:F.Pairwise fun x y=>x.1<y.1){i j:Nat}(hi:i<F.length)(hj:j<F.length)(h:i<j):F[i].1<F[j].1:=
 List.pairwise_iff_getElem.1 hr i j hi hj h
theorem Rn (c:Int)(F:List FD)(no:Int)(hl:F.length≤1000000)(hr:F.Pairwise fun x y=>x.1<y.1) :
  ∃ k:Nat,f149 c F no=some ((k:Int),())∧k≤F.length∧(∀ j (hj:j<F.length),j<k→F[j].1<no)∧∀ j (hj:j<F.length),k≤j→no≤F[j].1:=by
 have key:=lV (f:=eX)
  (fun x=>∃ lo hi:Nat,x=(((),(lo:Int),(hi:Int),()),((c,F,()),(no,()),()),())∧lo≤hi∧hi≤F.length∧(∀ j (hj:j<F.length),j<lo→F[j].1<no)∧∀ j (hj:j<F.length),hi≤j→no≤F[j].1)
  (fun x=>(x.1.2.2.1-x.1.2.1).toNat)
  (fun r=>∃ k:Nat,r = .inl (((k:Int),()),((c,F,()),(no,()),()),())∧k≤F.length∧(∀ j (hj:j<F.length),j<k→F[j].1<no)∧∀ j (hj:j<F.length),k≤j→no≤F[j].1)
  ?_ aA (((),0,((F.length:Nat):Int),()),((c,F,()),(no,()),()),()) ⟨0,F.length,rfl,Nat.zero_le _,Nat.le_refl _,fun j _ h=>absurd h (Nat.not_lt_zero _),fun j h1 h2=>by omega⟩ (by unfold aA;simp only;omega)
 ·obtain⟨r,h1,k,rfl,h2⟩:=key
  refine⟨k,?_,h2⟩
  unfold f149
  rw[h1];rfl
 ·rintro x ⟨lo,hi,rfl,h1,h2,h3,h4⟩
  by_cases hlt:lo<hi
  ·left
   have hm:(lo+hi) / 2<F.length:=by omega
   have em:IntKind.wrap .i64 (Int.fdiv (IntKind.wrap .u64 (IntKind.wrap .i64 ((lo:Int)+(hi:Int)))) 2)=(((lo+hi) / 2:Nat):Int):=by
    rw[bN (x:=(lo:Int)+(hi:Int)) (by omega) (by omega),wuI (by omega) (by omega),Int.fdiv_eq_ediv_of_nonneg _ (by omega),bN (by omega) (by omega)];omega
   simp only[eX,kG,em,decide_eq_true (show ((lo:Nat):Int)<(hi:Int) by omega),decide_eq_true (show (0:Int)≤(((lo+hi) / 2:Nat):Int) by omega),decide_eq_true (show (((lo+hi) / 2:Nat):Int)<(F.length:Int) by omega),cond_true,Bool.and_self,Int.toNat_natCast,j3 hm]
   by_cases hq:no≤F[(lo+hi) / 2].1
   ·rw[decide_eq_true hq]
    refine⟨_,rfl,⟨lo,(lo+hi) / 2,rfl,by omega,by omega,h3,fun j hj hk=>?_⟩,?_⟩
    ·rcases Nat.eq_or_lt_of_le hk with rfl|hk
     ·exact hq
     ·have:=Fc hr hm hj hk;omega
    ·show ((((lo+hi) / 2:Nat):Int)-(lo:Int)).toNat<((hi:Int)-(lo:Int)).toNat
     omega
   ·rw[decide_eq_false hq]
    refine⟨_,rfl,⟨(lo+hi) / 2+1,hi,?_,by omega,by omega,fun j hj hk=>?_,h4⟩,?_⟩
    ·rw[bN (by omega) (by omega)];rfl
    ·rcases Nat.eq_or_lt_of_le (Nat.le_of_lt_succ hk) with rfl|hk
     ·omega
     ·have:=Fc hr hj hm hk;omega
    ·show ((hi:Int)-(IntKind.wrap .i64 ((((lo+hi) / 2:Nat):Int)+1))).toNat<((hi:Int)-(lo:Int)).toNat
     rw[bN (by omega) (by omega)];omega
  ·right;left
   simp only[eX,kG,decide_eq_false (show ¬ ((lo:Nat):Int)<(hi:Int) by omega),cond_false]
   exact⟨_,rfl,lo,rfl,by omega,h3,fun j hj hk=>h4 j hj (by omega)⟩
theorem nL {c:Int}{F:List FD}(h:dx c F=true):kU 0 F=true∧0≤c∧c≤65536∧F.length≤12∧(cM F:Int)≤c:=by
 simp only[dx,Bool.and_eq_true,decide_eq_true_eq] at h
 exact⟨h.1.1.1.1,h.1.1.1.2,h.1.1.2,h.1.2,h.2⟩
theorem Cb:∀ {F:List FD} {f:FD},f∈F→f.2.1.length≤cM F
 | g::r,f,h=>by
  rcases List.mem_cons.1 h with rfl|h
  ·simp only[cM];omega
  ·have:=Cb h;simp only[cM];omega
theorem iw {c:Int}{F:List FD}(h:dx c F=true):FM F:=by
 obtain⟨h1,h2,h3,h4,h5⟩:=nL h
 refine⟨by omega,fun f hf=>?_⟩
 have:=Cb hf;omega
theorem Vg (c:Int)(F:List FD)(hl:F.length≤1000000)(hr:F.Pairwise fun x y=>x.1<y.1){i:Nat}(hi:i<F.length):f149 c F F[i].1=some ((i:Int),()):=by
 obtain⟨k,h1,h2,h3,h4⟩:=Rn c F F[i].1 hl hr
 have h5:¬ i<k:=fun h=>by have:=h3 i hi h;omega
 have h6:¬ k<i:=fun h=>by
  have h7:=h4 k (by omega) (Nat.le_refl _)
  have:=Fc hr (show k<F.length by omega) hi h;omega
 rw[h1,show k=i by omega]
theorem OC (c:Int)(F:List FD)(h:dx c F=true){i:Nat}(hi:i<F.length):f113 c F F[i].1=some ((i:Int),()):=by
 have hF:=nL h
 unfold f113
 simp only[qU c F (iw h),h,Option.bind_some,Bool.not_true,cond_false,Vg c F (by omega) (D1 hF.1) hi,decide_eq_true (show ((i:Nat):Int)<(F.length:Int) by omega),decide_eq_true (show (0:Int)≤(i:Int) by omega),cond_true,Bool.and_self,Int.toNat_natCast,j3 hi,decide_true]
theorem Za {F:List FD}{i:Nat}(hi:i<F.length)(x:FD):rd (.pair (.int .i64) (.pair (.row (.int .u8)) (.int .i64))) (F.set i x) i=x:=by
 rw[j3 (by rw[List.length_set];exact hi),List.getElem_set_self]
theorem Wm (F:List FD)(i:Nat)(x y:FD):(F.set i x).set i y=F.set i y:=List.set_set ..
theorem QU (s:Int)(b:List Int)(hl:b.length≤1000000000):∃ n,f162 s b=some (n,()):=by
 have inner:∀ (c n j x:Int),0≤j→∃ x',iter aA dm (((),c,b,n,j,0,()),((x,()),()),())=some (.inl (((),b,n,j,()),((x',()),()),())):=by
  intro c n j x hj
  have key:=lV (f:=dm)
   (fun z=>∃ i x:Int,z=(((),c,b,n,j,i,()),((x,()),()),())∧0≤i∧i≤8)
   (fun z=>(8-z.1.2.2.2.2.2.1).toNat)
   (fun r=>∃ x',r = .inl (((),b,n,j,()),((x',()),()),()))
   ?_ aA (((),c,b,n,j,0,()),((x,()),()),()) ⟨0,x,rfl,by omega,by omega⟩ (by unfold aA;simp only;omega)
  ·obtain⟨r,h1,x',rfl⟩:=key
   exact⟨x',h1⟩
  ·rintro z ⟨i,y,rfl,h0,h8⟩
   by_cases hi:i<8
   ·left
    simp only[dm,kz]
    rw[decide_eq_true hi,bN (x:=7-i) (by omega) (by omega),decide_eq_false (show ¬ 7-i<0 by omega)]
    simp only[cond_true,Bool.not_false]
    rw[bN (x:=i+1) (by omega) (by omega)]
    cases (!((decide ((Int.fdiv y 2147483648)=1)) == (decide ((aG .and .u8 (Int.fdiv c ((2:Int) ^ ((min (Int.toNat (7-i)) 8):Nat))) 1)=1)))) with
    | true=>exact⟨_,rfl,⟨_,_,rfl,by omega,by omega⟩,by show (8-(i+1)).toNat<(8-i).toNat;omega⟩
    | false=>exact⟨_,rfl,⟨_,_,rfl,by omega,by omega⟩,by show (8-(i+1)).toNat<(8-i).toNat;omega⟩
   ·right;left
    simp only[dm,kz]
    rw[decide_eq_false hi]
    exact⟨_,rfl,_,rfl⟩
 have key:=lV (f:=eV)
  (fun z=>∃ (j:Nat) (x:Int),z=(((),b,((b.length:Nat):Int),((j:Nat):Int),()),((x,()),()),())∧j≤b.length)
  (fun z=>(((b.length:Nat):Int)-z.1.2.2.2.1).toNat)
  (fun r=>∃ x,r = .inl ((),((x,()),()),()))
  ?_ aA (((),b,((b.length:Nat):Int),0,()),(((aG .xor .u32 s 4294967295),()),()),()) ⟨0,_,rfl,Nat.zero_le _⟩ (by unfold aA;simp only;omega)
 ·obtain⟨r,h1,x,rfl⟩:=key
  refine⟨aG .xor .u32 x 4294967295,?_⟩
  unfold f162
  rw[h1];rfl
 ·rintro z ⟨j,x,rfl,hj⟩
  by_cases hlt:j<b.length
  ·left
   obtain⟨x',hx⟩:=inner (rd (.int .u8) b j) ((b.length:Nat):Int) ((j:Nat):Int) x (by omega)
   simp only[eV,kf]
   rw[decide_eq_true (show ((j:Nat):Int)<(b.length:Int) by omega),decide_eq_true (show (0:Int)≤(j:Int) by omega)]
   simp only[cond_true,Bool.and_self,Int.toNat_natCast]
   rw[hx]
   simp only[Option.bind_some]
   rw[bN (by omega) (by omega)]
   exact⟨_,rfl,⟨j+1,_,rfl,by omega⟩,by show (((b.length:Nat):Int)-((j:Int)+1)).toNat<(((b.length:Nat):Int)-(j:Int)).toNat;omega⟩
  ·right;left
   simp only[eV,kf]
   rw[decide_eq_false (by omega)]
   exact⟨_,rfl,_,rfl⟩
noncomputable def Ri (b:List Int):Int:=(f128 b).elim 0 (·.1)
theorem Qe (b:List Int)(hl:b.length≤1000000000):f128 b=some (Ri b,()):=by
 obtain⟨n,h⟩:=QU 0 b hl
 have:f128 b=some (n,()):=by unfold f128;rw[h];rfl
 unfold Ri
 rw[this];rfl
def Ph (x:Int):Nat:=(IntKind.wrap .u8 x).toNat
theorem tK (x:Int):((Ph x:Nat):Int)=IntKind.wrap .u8 x:=by unfold Ph;rw[IntKind.wrap_u8];omega
def NV (n:Int):List Nat:=[Ph (Int.fdiv n 16777216),Ph (Int.fdiv n 65536),Ph (Int.fdiv n 256),Ph n]
theorem QE (n:Int):f127 n=some (ints (NV n),()):=by
 show _=some ([((Ph _:Nat):Int),((Ph _:Nat):Int),((Ph _:Nat):Int),((Ph _:Nat):Int)],())
 rw[tK,tK,tK,tK];rfl
noncomputable def bU (b:List Nat):List Nat:=NV (Ri (ints b))
theorem eC (b:List Nat):(bU b).length=4:=rfl
theorem XQ (m:Nat):decide ((m:Int)<128)=decide (m<128):=decide_eq_decide.2 (by omega)
theorem Wu (b:List Nat)(hl:b.length≤1000000000):f87 (ints b)=some (rW b,()):=by
 unfold f87 rW
 rw[aC]
 by_cases h6:b.length<6
 ·rw[decide_eq_true (show ((b.length:Nat):Int)<6 by omega),decide_eq_true h6]
  have k:=iU (u:=dW) b (fun c=>decide (c<128)) (fun j=>((ints b,(),((b.length:Nat):Int),((j:Nat):Int),()),(),())) (fun j=>((((j:Nat):Int),()),(),())) (y:=((),(),())) (fun j hj=>by
   have hji:j<(ints b).length:=by rw[aC];exact hj
   simp only[dW,mD]
   rw[eO hj,fe,aC,eO hj]
   simp only[cond_true,Bool.and_self,Int.toNat_natCast]
   have e:f125 (rd (.int .u8) (ints b) j)=some (decide (b[j]<128),()):=by
    rw[rdB hji,vm]
    have d:=XQ b[j]
    show some (decide (((b[j]:Nat):Int)<128),())=_
    rw[d]
   rw[e]
   simp only[Option.bind_some]
   rw[bN (by omega) (by omega)]
   cases decide (b[j]<128)<;>rfl) (by
   simp only[dW,mD]
   rw[nG];rfl) (fuel:=aA) (by unfold aA;omega)
  have k:iter aA dW ((ints b,(),((b.length:Nat):Int),0,()),(),())=_:=k
  simp only[cond_true,k,Bool.true_and]
  by_cases hx:b.findIdx (fun c=>decide (c<128))<b.length
  ·rw[if_pos hx]
   have:b.any (fun c=>decide (c<128))=true:=by
    rw[List.any_eq_true]
    exact⟨_,List.getElem_mem hx,List.findIdx_getElem (w:=hx)⟩
   rw[this]
   simp only[Option.bind_some,decide_eq_true (Int.natCast_nonneg _)]
  ·rw[if_neg hx]
   have:b.any (fun c=>decide (c<128))=false:=by
    rw[List.any_eq_false]
    intro c hc hh
    exact hx (List.findIdx_lt_length_of_exists ⟨c,hc,hh⟩)
   rw[this];rfl
 ·rw[decide_eq_false (show ¬ ((b.length:Nat):Int)<6 by omega),decide_eq_false h6];rfl
theorem Qu (a b:List Nat):decide (ints a=ints b)=decide (a=b):=decide_eq_decide.2 ⟨Ll,fun h=>by rw[h]⟩
theorem WB (l:List Nat)(h4:4≤l.length)(hl:l.length≤1000000) :
  f89 (ints l)=some (if l.drop (l.length-4)=bU (l.take (l.length-4)) then (ints (l.take (l.length-4)),true,()) else ([],false,())):=by
 have e1:IntKind.wrap .i64 (((l.length:Nat):Int)-4)=((l.length-4:Nat):Int):=by rw[bN (by omega) (by omega)];omega
 have s1:List.drop 0 (List.take (l.length-4) (ints l))=ints (l.take (l.length-4)):=by rw[List.drop_zero,bF]
 have s2:List.drop (l.length-4) (List.take l.length (ints l))=ints (l.drop (l.length-4)):=by rw[bF,List.take_length,cI]
 unfold f89
 simp only[aC,e1,decide_eq_false (show ¬ ((l.length-4:Nat):Int)<0 by omega),cond_false,Int.toNat_natCast,s1,s2,
  decide_eq_true (show (0:Int)≤((l.length-4:Nat):Int) by omega),decide_eq_true (show ((l.length-4:Nat):Int)≤((l.length:Nat):Int) by omega),decide_eq_true (Int.le_refl ((l.length:Nat):Int)),Bool.and_self,cond_true,
  Qe (ints (l.take (l.length-4))) (by rw[aC,List.length_take];omega),QE,Option.bind_some]
 rw[show ints (NV (Ri (ints (l.take (l.length-4)))))=ints (bU (l.take (l.length-4))) from rfl,Ku _ _ (by rw[aC,List.length_drop];omega),Qu]
 by_cases h:l.drop (l.length-4)=bU (l.take (l.length-4))
 ·rw[if_pos h,decide_eq_true h]
  simp only[Option.bind_some,Bool.not_true,cond_false]
  rw[ny _ (by rw[aC,List.length_take];omega)]
  rfl
 ·rw[if_neg h,decide_eq_false h];rfl
def rG (at':Nat):Except Nat (Nat×List Nat×Nat)→((Int×(List Int))×Int×Int×Unit)
 | .error e=>((0,[]),0,(e:Int),())
 | .ok x=>(((x.1:Int),ints x.2.1),((at'+x.2.2:Nat):Int),0,())
theorem jL {b:List Nat}{j:Nat}(h:j<b.length):b.drop j=b[j]::b.drop (j+1):=List.drop_eq_getElem_cons h
theorem My (b:List Nat)(hb:∀ c∈b,c<256)(hl:b.length≤1000000)(at':Nat)(hat:at'≤b.length) :
  f40 (ints b) (at':Int)=some (rG at' (iq bU (b.drop at'))):=by
 unfold f40
 simp only[aC,decide_eq_false (show ¬ (at':Int)<0 by omega),decide_eq_false (show ¬ ((b.length:Nat):Int)<(at':Int) by omega),cond_false]
 by_cases he:at'=b.length
 ·rw[decide_eq_true (by omega),he,List.drop_length];rfl
 have hlt:at'<b.length:=by omega
 have e1:IntKind.wrap .i64 ((at':Int)+1)=((at'+1:Nat):Int):=by rw[bN (by omega) (by omega)];omega
 have s1:List.drop (at'+1) (List.take b.length (ints b))=ints (b.drop (at'+1)):=by rw[bF,List.take_length,cI]
 simp only[decide_eq_false (show ¬ (at':Int)=((b.length:Nat):Int) by omega),cond_false,e1,Int.toNat_natCast,s1,fe,decide_eq_true (show ((at'+1:Nat):Int)≤((b.length:Nat):Int) by omega),decide_eq_true (Int.le_refl ((b.length:Nat):Int)),Bool.and_self,cond_true,
  Wu (b.drop (at'+1)) (by rw[List.length_drop];omega),Option.bind_some,vw b hb (by omega) (at'+1) (by omega)]
 rw[jL hlt]
 simp only[iq]
 cases ho:rW (b.drop (at'+1)) with
 | true=>rw[if_pos rfl];rfl
 | false=>
  rw[if_neg (by simp)]
  cases hv:qp (b.drop (at'+1)) with
  | none=>rfl
  | some q=>
   obtain⟨n,k⟩:=q
   have hn:n≤1099511627776:=(j7 (fun c hc=>hb c (List.mem_of_mem_drop hc)) hv).1
   have hk6:k≤6:=by rw[(j7 (fun c hc=>hb c (List.mem_of_mem_drop hc)) hv).2.1];exact xj hn
   simp only[cond_false,decide_eq_false (show ¬ ((at'+1+k:Nat):Int) = -1 by omega)]
   by_cases h1000:1000<n
   ·rw[if_pos h1000,decide_eq_true (by omega)];rfl
   rw[if_neg h1000,decide_eq_false (by omega)]
   have e2:IntKind.wrap .i64 ((IntKind.wrap .i64 (((at'+1+k:Nat):Int)+(n:Int)))+4)=((at'+(1+k+n+4):Nat):Int):=by
    rw[bN (x:=((at'+1+k:Nat):Int)+(n:Int)) (by omega) (by omega),bN (by omega) (by omega)];omega
   simp only[cond_false,e2]
   have hlen:(b[at']::b.drop (at'+1)).length=b.length-at':=by rw[← jL hlt,List.length_drop]
   rw[hlen]
   by_cases h4:b.length-at'<1+k+n+4
   ·rw[if_pos h4,decide_eq_true (by omega)];rfl
   rw[if_neg h4,decide_eq_false (by omega)]
   have s2:List.drop at' (List.take (at'+(1+k+n+4)) (ints b))=ints ((b.drop at').take (1+k+n+4)):=by
    rw[bF,cI,List.drop_take,Nat.add_sub_cancel_left]
   have hL:((b.drop at').take (1+k+n+4)).length=1+k+n+4:=by rw[List.length_take,List.length_drop];omega
   have t1:((b.drop at').take (1+k+n+4)).take (1+k+n)=(b.drop at').take (1+k+n):=by rw[List.take_take,Nat.min_eq_left (by omega)]
   have t2:((b.drop at').take (1+k+n+4)).drop (1+k+n)=((b.drop at').drop (1+k+n)).take 4:=by rw[List.drop_take,Nat.add_sub_cancel_left]
   have hf:=WB ((b.drop at').take (1+k+n+4)) (by rw[hL];omega) (by rw[hL];omega)
   rw[hL,show 1+k+n+4-4=1+k+n by omega,t1,t2] at hf
   rw[← jL hlt]
   simp only[cond_false,fe,decide_eq_true (show (at':Int)≤((at'+(1+k+n+4):Nat):Int) by omega),decide_eq_true (Int.le_refl _),decide_eq_true (show ((at'+(1+k+n+4):Nat):Int)≤((b.length:Nat):Int) by omega),Bool.and_self,cond_true,Int.toNat_natCast,s2,hf,Option.bind_some]
   by_cases hc:((b.drop at').drop (1+k+n)).take 4=bU ((b.drop at').take (1+k+n))
   ·have hL2:((b.drop at').take (1+k+n)).length=1+k+n:=by rw[List.length_take,List.length_drop];omega
    have e3:IntKind.wrap .i64 (((at'+1+k:Nat):Int)-(at':Int))=((1+k:Nat):Int):=by rw[bN (by omega) (by omega)];omega
    have s3:List.drop (1+k) (List.take (1+k+n) (ints ((b.drop at').take (1+k+n))))=ints (((b.drop (at'+1)).drop k).take n):=by
     rw[bF,List.take_take,Nat.min_self,cI,List.drop_take,List.drop_drop,List.drop_drop,Nat.add_sub_cancel_left]
     congr 3;omega
    have hr0:rd (.int .u8) (ints ((b.drop at').take (1+k+n))) 0=((b[at']:Nat):Int):=by
     rw[jL hlt,show 1+k+n=(k+n)+1 by omega,List.take_succ_cons];rfl
    have hb8:=hb _ (List.getElem_mem hlt)
    simp only[if_pos hc,Bool.not_true,cond_false,aC,hL2,decide_eq_true (show (0:Int)<((1+k+n:Nat):Int) by omega),cond_true,e3,fe,decide_eq_true (show ((1+k:Nat):Int)≤((1+k+n:Nat):Int) by omega),decide_eq_true (Int.le_refl _),Bool.and_self,Int.toNat_natCast,s3,hr0,bN (x:=((b[at']:Nat):Int)) (by omega) (by omega)]
    rfl
   ·simp only[if_neg hc,Bool.not_false,cond_true]
    rfl
noncomputable def fu (b:List Nat):Option (ST×Nat):=
 match iq bU b with
 | .error _=>none
 | .ok x=>if x.1=1 then (iD x.2.1).map fun s=>(s,x.2.2) else none
noncomputable def EI:Option (ST×Nat)→(ST×Int×Bool×Unit)
 | some y=>(y.1,((y.2:Nat):Int),true,())
 | none=>(lI,0,false,())
theorem Ae {b:List Nat}(hb:∀ c∈b,c<256){k n:Nat}{body:List Nat}(h:iq bU b = .ok (k,body,n)):(∀ c∈body,c<256)∧body.length≤1000∧n≤b.length∧1≤n:=by
 rcases j0 bU b with⟨e,he,_⟩|⟨c,r,n',k',rfl,ho,hv,h1,h2,h3,h4⟩
 ·rw[he] at h;cases h
 ·rw[h4] at h
  cases h
  refine⟨fun x hx=>hb x (List.mem_cons_of_mem _ (List.mem_of_mem_drop (List.mem_of_mem_take hx))),?_,by omega,by omega⟩
  rw[List.length_take];omega
theorem Er (b:List Nat)(hb:∀ c∈b,c<256)(hl:b.length≤1000000):f14 (ints b)=some (EI (fu b)):=by
 have h0:=My b hb hl 0 (Nat.zero_le _)
 rw[List.drop_zero] at h0
 have h0:f40 (ints b) 0=_:=h0
 unfold f14 fu
 rw[h0]
 simp only[Option.bind_some]
 cases hg:iq bU b with
 | error e=>
  have he:e≠0:=by
   rcases j0 bU b with⟨e',he,h⟩|⟨c,r,n',k',rfl,ho,hv,h1,h2,h3,h4⟩
   ·rw[he] at hg;cases hg;exact h
   ·rw[h4] at hg;cases hg
  have hd:decide (((e:Nat):Int)=0)=false:=decide_eq_false (by omega)
  show cond (!(decide (((e:Nat):Int)=0))) _ _=_
  rw[hd];rfl
 | ok x=>
  obtain⟨k,body,n⟩:=x
  obtain⟨h1,h2,h3,h4⟩:=Ae hb hg
  show cond (!(decide (((k:Nat):Int)=1))) _ ((f41 (ints body)).bind _)=_
  by_cases hk:k=1
  ·subst hk
   rw[V2 body h1 (by omega)]
   rw[decide_eq_true (show ((1:Nat):Int)=1 from rfl)]
   simp only[Bool.not_true,cond_false,Option.bind_some,if_true,rG,Nat.zero_add]
   cases iD body with
   | none=>rfl
   | some s=>rfl
  ·rw[decide_eq_false (show ¬ ((k:Nat):Int)=1 by omega)]
   simp only[if_neg hk];rfl
theorem gW {b:List Nat}(hb:∀ c∈b,c<256){s:ST}{n:Nat}(h:fu b=some (s,n)):bR s∧Ad s∧n≤b.length:=by
 unfold fu at h
 cases hg:iq bU b with
 | error e=>rw[hg] at h;cases h
 | ok x=>
  obtain⟨k,body,m⟩:=x
  obtain⟨h1,h2,h3,h4⟩:=Ae hb hg
  rw[hg] at h
  simp only at h
  split at h
  ·cases hr:iD body with
   | none=>rw[hr] at h;cases h
   | some t=>
    rw[hr] at h
    simp only[Option.map_some,Option.some.injEq,Prod.mk.injEq] at h
    obtain⟨rfl,rfl⟩:=h
    have:=OJ h1 hr
    exact⟨this.1,this.2.1,h3⟩
  ·cases h
def uQ (F:List FD):Int:=(F.getLast?).elim 0 (·.1)
theorem yc {α:Type}(F:List α):F=[]∨∃ G f,F=G++[f]:=by
 cases F with
 | nil=>exact .inl rfl
 | cons a r=>exact .inr ⟨(a::r).dropLast,(a::r).getLast (by simp),(List.dropLast_concat_getLast (by simp)).symm⟩
theorem oc (G:List FD)(f:FD):uQ (G++[f])=f.1:=by
 unfold uQ;rw[List.getLast?_append];rfl
theorem Wp (c:Int)(F:List FD)(h:FM F):f28 c F=some (uQ F,(F.length:Int)-1,()):=by
 rcases yc F with rfl|⟨G,f,rfl⟩
 ·rfl
 ·rw[KR c G f h,oc]
  rw[List.length_append,List.length_singleton]
  congr 3;omega
def OV (c:Int)(F:List FD)(no now:Int):Prop:=dx c F=true∧0<uQ F∧uQ F=no∧0≤now∧now≤1073741824
instance (c:Int)(F:List FD)(no now:Int):Decidable (OV c F no now):=by unfold OV;infer_instance
theorem Wd (c:Int)(F:List FD)(no now:Int)(h:FM F):f10 c F no now=some (decide (OV c F no now),()):=by
 unfold f10
 rw[Wp c F h,qU c F h]
 simp only[Option.bind_some]
 by_cases hw:OV c F no now
 ·rw[decide_eq_true hw]
  obtain⟨h1,h2,h3,h4,h5⟩:=hw
  rw[h1,decide_eq_true h2,decide_eq_true h3,decide_eq_true h4,decide_eq_true h5];rfl
 ·rw[decide_eq_false hw]
  cases h1:dx c F with
  | false=>rfl
  | true=>
   by_cases h2:0<uQ F
   ·by_cases h3:uQ F=no
    ·by_cases h4:0≤now
     ·by_cases h5:now≤1073741824
      ·exact absurd ⟨h1,h2,h3,h4,h5⟩ hw
      ·rw[decide_eq_true h2,decide_eq_true h3,decide_eq_true h4,decide_eq_false h5];rfl
     ·rw[decide_eq_true h2,decide_eq_true h3,decide_eq_false h4];rfl
    ·rw[decide_eq_true h2,decide_eq_false h3];rfl
   ·rw[decide_eq_false h2];rfl
theorem UZ (c:Int)(F:List FD)(no now c':Int)(G:List FD)(no' now':Int)(h:FM F) :
  f12 c F no now c' G no' now'=some (decide ((((c,F),no,now):(Int×List FD)×Int×Int)=((c',G),no',now')),()):=by
 unfold f12
 rw[Wr c F c' G h]
 by_cases h1:no=no'<;>by_cases h2:now=now'<;>simp[h1,h2]
theorem xG:∀ {F:List FD} {a:Int} {x:FD},kU a F=true→(∀ f∈F,f.1<x.1)→a<x.1→x.1≤1073741824→0≤x.2.2→x.2.2≤(x.2.1.length:Int)→kU a (F++[x])=true
 | [],a,x,_,_,h1,h2,h3,h4=>by simp[kU,h1,h2,h3,h4]
 | f::r,a,x,h,hn,h1,h2,h3,h4=>by
  simp only[kU,Bool.and_eq_true,decide_eq_true_eq,List.cons_append] at h ⊢
  exact⟨h.1,xG h.2 (fun g hg=>hn g (List.mem_cons_of_mem _ hg)) (hn f (List.mem_cons_self ..)) h2 h3 h4⟩
theorem rj:∀ {F:List FD} {a:Int} {x:FD},kU a (F++[x])=true→kU a F=true∧(∀ f∈F,f.1<x.1)∧a<x.1∧x.1≤1073741824∧0≤x.2.2∧x.2.2≤(x.2.1.length:Int)
 | [],a,x,h=>by
  simp[kU] at h
  exact⟨rfl,by simp,h.1.1.1,h.1.1.2,h.1.2,h.2⟩
 | f::r,a,x,h=>by
  have h0:=h
  simp only[kU,Bool.and_eq_true,decide_eq_true_eq,List.cons_append] at h ⊢
  have ih:=rj h.2
  have:=ih.2.2.1
  refine⟨⟨h.1,ih.1⟩,fun g hg=>?_,by omega,ih.2.2.2⟩
  rcases List.mem_cons.1 hg with rfl|hg
  ·exact this
  ·exact ih.2.1 g hg
theorem nI (F:List FD)(x:FD):cM (F++[x])=cM F+x.2.1.length:=by rw[qQ];simp[cM]
theorem IQ {c:Int}{F:List FD}{x:FD}{b:List Int}{k:Int}(h:dx c (F++[x])=true)(h3:0≤k)(h4:k≤(b.length:Int))(h6:(cM F:Int)+b.length≤c):dx c (F++[(x.1,b,k)])=true:=by
 have hF:=nL h
 have hi:=rj hF.1
 have hl:=hF.2.2.2.1
 rw[List.length_append,List.length_singleton] at hl
 unfold dx
 rw[xG (x:=(x.1,b,k)) hi.1 hi.2.1 hi.2.2.1 hi.2.2.2.1 h3 h4,decide_eq_true hF.2.1,decide_eq_true hF.2.2.1,List.length_append,List.length_singleton,decide_eq_true (show F.length+1≤12 by omega),nI,decide_eq_true (by simp only;omega)];rfl
theorem K1 (F:List FD)(x y:FD):(F++[x]).set F.length y=F++[y]:=by
 rw[List.set_append_right _ _ (Nat.le_refl _),Nat.sub_self];rfl
theorem jv (F:List FD)(x:FD):(F++[x])[F.length]'(by simp)=x:=by
 rw[List.getElem_append_right (Nat.le_refl _)];simp
abbrev WT:=(Int×List FD)×Int×Int
end Go.Proofs.Zz
