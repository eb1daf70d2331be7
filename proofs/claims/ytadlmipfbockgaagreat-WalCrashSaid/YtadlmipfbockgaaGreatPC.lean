/- P9r, P9s, P9t, P9u, P9v, P9w, P9x, P9y, P9f, P9z, W9, Row9. -/
import Derived.Test.YtadlmipfbockgaaGreatPA
import Derived.Test.YtadlmipfbockgaaGreatPB
import Derived.Test.YtadlmipfbockgaaGreatFI
import Derived.Test.YtadlmipfbockgaaGreatPU
import Derived.KernelRfl
import Derived.Test.YtadlmipfbockgaaGreatFD
import Derived.Test.YtadlmipfbockgaaGreatEQ
import Derived.Test.YtadlmipfbockgaaGreatRows
import Derived.ProofKit
import Derived.JoinedOf
namespace Go.Proofs.Zz
open Go Go.Sy
set_option linter.unusedSimpArgs false
set_option linter.unusedVariables false
abbrev FD:Type:=Int×List Int×Int
def SzD (F:List FD):Prop:=F.length≤1000∧∀ f∈F,f.2.1.length≤1000000
def usedN:List FD→Nat
 | []=>0
 | f::r=>f.2.1.length+usedN r
theorem usedN_le:∀ {F:List FD},(∀ f∈F,f.2.1.length≤1000000)→usedN F≤F.length * 1000000
 | [],_=>Nat.le_refl _
 | f::r,h=>by
  have h1:=h f (List.mem_cons_self ..)
  have h2:=usedN_le (F:=r) fun g hg=>h g (List.mem_cons_of_mem _ hg)
  simp only[usedN,List.length_cons];omega
theorem usedN_app:∀ (F G:List FD),usedN (F++G)=usedN F+usedN G
 | [],G=>by simp[usedN]
 | f::r,G=>by simp only[List.cons_append,usedN,usedN_app r G];omega
theorem rdFD {F:List FD}{j:Nat}(h:j<F.length):rd (.pair (.int .i64) (.pair (.row (.int .u8)) (.int .i64))) F j=F[j]:=by
 unfold rd
 rw[List.getD_eq_getElem?_getD,List.getElem?_eq_getElem h];rfl
theorem f46_eq (F:List FD)(h:SzD F):f46 F=some ((usedN F:Int),()):=by
 have key:∀ (r:List FD) (j:Nat),F.drop j=r→iter (r.length+1) u46_3 ((((usedN (F.take j):Nat):Int),F,((F.length:Nat):Int),((j:Nat):Int),()),(),())=some (.inl ((((usedN F:Nat):Int),()),(),())):=by
  intro r
  induction r with
  | nil=>
   intro j hj
   have hjl:F.length≤j:=List.drop_eq_nil_iff.1 hj
   refine it_out ?_
   simp only[u46_3,t46_3]
   rw[decide_eq_false (by omega),cond_false,List.take_of_length_le hjl]
  | cons f r ih=>
   intro j hj
   have hjl:j<F.length:=by
    rcases Nat.lt_or_ge j F.length with h|h
    ·exact h
    ·rw[List.drop_eq_nil_of_le h] at hj;cases hj
   have hf:F[j]=f:=by
    have:=List.getElem_cons_drop hjl
    rw[hj] at this
    exact (List.cons.inj this).1
   have hr:F.drop (j+1)=r:=by
    have:=List.getElem_cons_drop hjl
    rw[hj] at this
    exact (List.cons.inj this).2
   have hu:usedN (F.take (j+1))=usedN (F.take j)+f.2.1.length:=by
    rw[List.take_succ_eq_append_getElem hjl,usedN_app,hf];simp[usedN]
   have hb:=usedN_le (F:=F.take (j+1)) fun g hg=>h.2 g (List.mem_of_mem_take hg)
   have hl:=h.1
   rw[List.length_take] at hb
   rw[List.length_cons,it_next (x':=((((usedN (F.take (j+1)):Nat):Int),F,((F.length:Nat):Int),((j+1:Nat):Int),()),(),()))]
   ·exact ih (j+1) hr
   ·simp only[u46_3,t46_3]
    rw[decide_eq_true (show ((j:Nat):Int)<(F.length:Int) by omega),decide_eq_true (show (0:Int)≤(j:Int) by omega)]
    simp only[cond_true,Bool.and_self,Int.toNat_natCast]
    rw[rdFD hjl,hf,w64 (by omega) (by omega),w64 (by omega) (by omega),hu]
    simp only[Int.natCast_add];rfl
 unfold f46
 have h0:=key F 0 rfl
 rw[List.take_zero] at h0
 have hl:=h.1
 have hk:iter big u46_3 ((0,F,((F.length:Nat):Int),0,()),(),())=_:=it_mono (show F.length+1≤big by unfold big;omega) h0
 rw[hk]
 rfl
def mayF (last:Int):List FD→Bool
 | []=>true
 | f::r=>decide (last<f.1)&&decide (f.1≤1073741824)&&decide (0≤f.2.2)&&decide (f.2.2≤(f.2.1.length:Int))&&mayF f.1 r
def mayD (c:Int)(F:List FD):Bool:=mayF 0 F&&decide (0≤c)&&decide (c≤65536)&&decide (F.length≤12)&&decide ((usedN F:Int)≤c)
theorem f26_eq (c:Int)(F:List FD)(h:SzD F):f26 c F=some (mayD c F,()):=by
 have hl:=h.1
 have key:∀ (r:List FD) (j:Nat) (last:Int),F.drop j=r→iter (r.length+1) u26_3 (((),last,F,((F.length:Nat):Int),((j:Nat):Int),()),((c,F,()),()),()) =
   some (cond (mayF last r) (.inl (((),()),((c,F,()),()),())) (.inr ((false,()),(),()))):=by
  intro r
  induction r with
  | nil=>
   intro j last hj
   have hjl:F.length≤j:=List.drop_eq_nil_iff.1 hj
   refine it_out ?_
   simp only[u26_3,t26_3]
   rw[decide_eq_false (by omega),cond_false]
  | cons f r ih=>
   intro j last hj
   have hjl:j<F.length:=by
    rcases Nat.lt_or_ge j F.length with h|h
    ·exact h
    ·rw[List.drop_eq_nil_of_le h] at hj;cases hj
   have hc:=List.getElem_cons_drop hjl
   rw[hj] at hc
   obtain⟨hf,hr⟩:=List.cons.inj hc
   have step:u26_3 (((),last,F,((F.length:Nat):Int),((j:Nat):Int),()),((c,F,()),()),()) =
     some (cond (decide (last<f.1)&&decide (f.1≤1073741824)&&decide (0≤f.2.2)&&decide (f.2.2≤(f.2.1.length:Int))) (.next (((),f.1,F,((F.length:Nat):Int),((j+1:Nat):Int),()),((c,F,()),()),())) (.ret ((false,()),(),()))):=by
    simp only[u26_3,t26_3]
    rw[decide_eq_true (show ((j:Nat):Int)<(F.length:Int) by omega),decide_eq_true (show (0:Int)≤(j:Int) by omega)]
    simp only[cond_true,Bool.and_self,Int.toNat_natCast,rdFD hjl,hf,w64 (x:=((j:Nat):Int)+1) (by omega) (by omega)]
    by_cases c1:last<f.1
    ·rw[decide_eq_false (show ¬ f.1≤last by omega),decide_eq_true c1]
     by_cases c2:f.1≤1073741824
     ·rw[decide_eq_false (show ¬ 1073741824<f.1 by omega),decide_eq_true c2]
      by_cases c3:0≤f.2.2
      ·rw[decide_eq_false (show ¬ f.2.2<0 by omega),decide_eq_true c3]
       by_cases c4:f.2.2≤(f.2.1.length:Int)
       ·rw[decide_eq_false (show ¬ ((f.2.1.length:Nat):Int)<f.2.2 by omega),decide_eq_true c4];rfl
       ·rw[decide_eq_true (show ((f.2.1.length:Nat):Int)<f.2.2 by omega),decide_eq_false c4];rfl
      ·rw[decide_eq_true (show f.2.2<0 by omega),decide_eq_false c3];rfl
     ·rw[decide_eq_true (show 1073741824<f.1 by omega),decide_eq_false c2];rfl
    ·rw[decide_eq_true (show f.1≤last by omega),decide_eq_false c1];rfl
   simp only[mayF]
   cases hq:(decide (last<f.1)&&decide (f.1≤1073741824)&&decide (0≤f.2.2)&&decide (f.2.2≤(f.2.1.length:Int))) with
   | true=>
    rw[hq] at step
    rw[List.length_cons,it_next step,ih (j+1) f.1 hr,Bool.true_and]
   | false=>
    rw[hq] at step
    rw[it_ret step,Bool.false_and];rfl
 have hk:=it_mono (show F.length+1≤big by unfold big;omega) (key F 0 0 rfl)
 unfold f26 mayD
 have hk:iter big u26_3 (((),0,F,((F.length:Nat):Int),0,()),((c,F,()),()),())=_:=hk
 rw[hk]
 cases mayF 0 F with
 | false=>rfl
 | true=>
  simp only[cond_true,Option.bind_some,Bool.true_and]
  by_cases c1:0≤c
  ·rw[decide_eq_true c1]
   by_cases c2:c≤65536
   ·rw[decide_eq_true c2]
    by_cases c3:F.length≤12
    ·rw[decide_eq_true c3,decide_eq_true (show ((F.length:Nat):Int)≤12 by omega)]
     simp only[cond_true,f46_eq F h,Option.bind_some,Bool.true_and]
    ·rw[decide_eq_false c3,decide_eq_false (show ¬ ((F.length:Nat):Int)≤12 by omega)];rfl
   ·rw[decide_eq_false c2];rfl
  ·rw[decide_eq_false c1];rfl
theorem it_outs {α β γ:Type}{u:α→Option (R3 α β γ)}(st:Nat→α){n:Nat}{y:β}(hs:∀ j,j<n→u (st j)=some (.next (st (j+1))))(he:u (st n)=some (.out y))(hb:n≤1000000000000) :
  iter big u (st 0)=some (.inl y):=it_all st hs he 0 big (Nat.zero_le _) (by unfold big;omega)
theorem f37_eq (a b:List Int)(ha:a.length≤1000000000):f37 a b=some (decide (a=b),()):=by
 unfold f37
 by_cases hlen:a.length=b.length
 ·rw[decide_eq_true (show ((a.length:Nat):Int)=((b.length:Nat):Int) by omega)]
  simp only[Bool.not_true,cond_false]
  have key:∀ (j k:Nat),j+k=a.length→iter (k+1) u37_4 ((a,b,((a.length:Nat):Int),((j:Nat):Int),()),(),())=some (cond (decide (a.drop j=b.drop j)) (.inl ((),(),())) (.inr ((false,()),(),()))):=by
   intro j k
   induction k generalizing j with
   | zero=>
    intro hj
    rw[List.drop_of_length_le (by omega),List.drop_of_length_le (by omega)]
    refine it_out ?_
    simp only[u37_4,t37_4]
    rw[decide_eq_false (by omega)];rfl
   | succ k ih=>
    intro hj
    have hja:j<a.length:=by omega
    have hjb:j<b.length:=by omega
    have step:u37_4 ((a,b,((a.length:Nat):Int),((j:Nat):Int),()),(),())=some (cond (decide (a[j]=b[j])) (.next ((a,b,((a.length:Nat):Int),((j+1:Nat):Int),()),(),())) (.ret ((false,()),(),()))):=by
     simp only[u37_4,t37_4]
     rw[decide_eq_true (show ((j:Nat):Int)<(a.length:Int) by omega),decide_eq_true (show (0:Int)≤(j:Int) by omega),decide_eq_true (show ((j:Nat):Int)<(b.length:Int) by omega)]
     simp only[cond_true,Bool.and_self,Int.toNat_natCast]
     have e1:rd (.int .u8) a j=a[j]:=rd_lt (e:=.int .u8) hja
     have e2:rd (.int .u8) b j=b[j]:=rd_lt (e:=.int .u8) hjb
     simp only[e1,e2,w64 (x:=((j:Nat):Int)+1) (by omega) (by omega)]
     cases decide (a[j]=b[j])<;>rfl
    rw[List.drop_eq_getElem_cons hja,List.drop_eq_getElem_cons hjb]
    by_cases hq:a[j]=b[j]
    ·rw[decide_eq_true hq] at step
     rw[it_next step,ih (j+1) (by omega)]
     simp only[List.cons.injEq,hq,true_and]
    ·rw[decide_eq_false hq] at step
     rw[it_ret step,decide_eq_false (fun hh=>hq (List.cons.inj hh).1)];rfl
  have h0:=it_mono (show a.length+1≤big by unfold big;omega) (key 0 a.length (by omega))
  have h0:iter big u37_4 ((a,b,((a.length:Nat):Int),0,()),(),())=_:=h0
  rw[h0]
  simp only[List.drop_zero]
  cases decide (a=b)<;>rfl
 ·rw[decide_eq_false (show ¬ ((a.length:Nat):Int)=((b.length:Nat):Int) by omega),decide_eq_false (show ¬ a=b from fun h=>hlen (congrArg _ h))]
  rfl
theorem fCloneByte_eq (l:List Int)(h:l.length≤100000000):fCloneByte l=some (l,()):=by
 show cond (Nat.ble (l.length * 1) 140737488355328) _ _=_
 rw[show Nat.ble (l.length * 1) 140737488355328=true from Nat.ble_eq_true_of_le (by omega)];rfl
theorem fCloneFile_eq (l:List FD)(h:l.length≤100000000):fCloneFile l=some (l,()):=by
 show cond (Nat.ble (l.length * 40) 140737488355328) _ _=_
 rw[show Nat.ble (l.length * 40) 140737488355328=true from Nat.ble_eq_true_of_le (by omega)];rfl
theorem SzD.at {F:List FD}(h:SzD F){j:Nat}(hj:j<F.length):F[j].2.1.length≤1000000:=h.2 _ (List.getElem_mem hj)
theorem setSelf {F:List FD}{j:Nat}(hj:j<F.length){a:Int}{b:List Int}{c:Int}(h1:a=F[j].1)(h2:b=F[j].2.1)(h3:c=F[j].2.2):F.set j (a,b,c)=F:=by
 subst h1;subst h2;subst h3
 exact List.set_getElem_self hj
theorem f39_eq (c:Int)(F:List FD)(h:SzD F):f39 c F=some ((c,F),()):=by
 have hl:=h.1
 unfold f39
 rw[fCloneFile_eq F (by omega)]
 simp only[Option.bind_some]
 have k:=it_outs (u:=u39_3) (fun j=>(((),(),((F.length:Nat):Int),((j:Nat):Int),()),((c,(),()),(0,(),()),()),F,[],())) (n:=F.length) (y:=(((),(),()),((c,(),()),(0,(),()),()),F,[],())) (fun j hj=>?_) ?_ (by omega)
 ·have k:iter big u39_3 (((),(),((F.length:Nat):Int),0,()),((c,(),()),(0,(),()),()),F,[],())=_:=k
  rw[k];rfl
 ·simp only[u39_3,t39_3]
  rw[decide_eq_true (show ((j:Nat):Int)<(F.length:Int) by omega),decide_eq_true (show (0:Int)≤(j:Int) by omega)]
  simp only[cond_true,Bool.and_self,Int.toNat_natCast]
  rw[decide_eq_true hj,rdFD hj,fCloneByte_eq _ (Nat.le_trans (h.at hj) (by omega))]
  simp only[cond_true,Option.bind_some]
  rw[w64 (by omega) (by omega),setSelf hj rfl rfl rfl]
  rfl
 ·simp only[u39_3,t39_3]
  rw[decide_eq_false (by omega)];rfl
theorem gCopy_eq (l:List Int)(h:l.length≤100000000):gCopy l=some []:=by
 unfold gCopy
 rw[fCloneByte_eq l h];rfl
theorem f1039_eq (c:Int)(F:List FD)(h:SzD F):f1039 c F=some ((c,F),()):=by
 have hl:=h.1
 unfold f1039
 rw[fCloneFile_eq F (by omega)]
 simp only[Option.bind_some]
 have k:=it_outs (u:=u1039_3) (fun j=>(((),(),((F.length:Nat):Int),((j:Nat):Int),()),((c,(),()),(F,j),(0,(),()),()),[],())) (n:=F.length) (y:=(((),(),()),((c,(),()),(F,F.length),(0,(),()),()),[],())) (fun j hj=>?_) ?_ (by omega)
 ·have k:iter big u1039_3 (((),(),((F.length:Nat):Int),0,()),((c,(),()),(F,0),(0,(),()),()),[],())=_:=k
  rw[k]
  simp only[Option.bind_some]
  rw[decide_eq_true (Nat.le_refl _)];rfl
 ·simp only[u1039_3,t1039_3]
  rw[decide_eq_true (show ((j:Nat):Int)<(F.length:Int) by omega),decide_eq_true (show (0:Int)≤(j:Int) by omega)]
  simp only[cond_true,Bool.and_self,Int.toNat_natCast]
  have hs:F.set j (F[j].1,F[j].2.1,F[j].2.2)=F:=setSelf hj rfl rfl rfl
  simp only[rdFD hj,gCopy_eq _ (Nat.le_trans (h.at hj) (show 1000000≤100000000 by omega)),hs,hj,Nat.le_refl,decide_true,cond_true,Option.bind_some,Bool.and_self,show ((j:Nat):Int)<(F.length:Int) by omega,List.take_length,w64 (x:=((j:Nat):Int)+1) (by omega) (by omega)]
  rfl
 ·simp only[u1039_3,t1039_3]
  rw[decide_eq_false (by omega)];rfl
theorem f36_eq (x y:FD)(h:x.2.1.length≤1000000000):f36 x.1 x.2.1 x.2.2 y.1 y.2.1 y.2.2=some (decide (x=y),()):=by
 obtain⟨a,b,c⟩:=x
 obtain⟨a',b',c'⟩:=y
 unfold f36
 simp only at h ⊢
 rw[f37_eq b b' h]
 by_cases h1:a=a'
 ·by_cases h2:c=c'
  ·by_cases h3:b=b'
   ·simp[h1,h2,h3]
   ·simp[h1,h2,h3]
  ·simp[h1,h2]
 ·simp[h1]
theorem f19_eq (c:Int)(F:List FD)(c':Int)(G:List FD)(h:SzD F):f19 c F c' G=some (decide (c=c'∧F=G),()):=by
 have hl:=h.1
 unfold f19
 by_cases hc:c=c'
 ·rw[decide_eq_true hc]
  by_cases hlen:F.length=G.length
  ·rw[decide_eq_true (show ((F.length:Nat):Int)=((G.length:Nat):Int) by omega)]
   simp only[Bool.not_true,cond_false,cond_true]
   have key:∀ (j k:Nat),j+k=F.length→iter (k+1) u19_38_4_0 ((G,(),F,((F.length:Nat):Int),((j:Nat):Int),()),((c,F,()),(c',G,()),()),()) =
     some (cond (decide (F.drop j=G.drop j)) (.inl ((),((c,F,()),(c',G,()),()),())) (.inr ((false,()),((c,F,()),(c',G,()),()),()))):=by
    intro j k
    induction k generalizing j with
    | zero=>
     intro hj
     rw[List.drop_of_length_le (by omega),List.drop_of_length_le (by omega)]
     refine it_out ?_
     simp only[u19_38_4_0,t19_38_4_0]
     rw[decide_eq_false (by omega)];rfl
    | succ k ih=>
     intro hj
     have hja:j<F.length:=by omega
     have hjb:j<G.length:=by omega
     have step:u19_38_4_0 ((G,(),F,((F.length:Nat):Int),((j:Nat):Int),()),((c,F,()),(c',G,()),()),())=some (cond (decide (F[j]=G[j])) (.next ((G,(),F,((F.length:Nat):Int),((j+1:Nat):Int),()),((c,F,()),(c',G,()),()),())) (.ret ((false,()),((c,F,()),(c',G,()),()),()))):=by
      simp only[u19_38_4_0,t19_38_4_0]
      rw[decide_eq_true (show ((j:Nat):Int)<(F.length:Int) by omega),decide_eq_true (show (0:Int)≤(j:Int) by omega),decide_eq_true (show ((j:Nat):Int)<(G.length:Int) by omega)]
      simp only[cond_true,Bool.and_self,Int.toNat_natCast]
      rw[rdFD hja,rdFD hjb,f36_eq _ _ (Nat.le_trans (h.at hja) (by omega)),w64 (by omega) (by omega)]
      simp only[Option.bind_some]
      cases decide (F[j]=G[j])<;>rfl
     rw[List.drop_eq_getElem_cons hja,List.drop_eq_getElem_cons hjb]
     by_cases hq:F[j]=G[j]
     ·rw[decide_eq_true hq] at step
      rw[it_next step,ih (j+1) (by omega)]
      simp only[List.cons.injEq,hq,true_and]
     ·rw[decide_eq_false hq] at step
      rw[it_ret step,decide_eq_false (fun hh=>hq (List.cons.inj hh).1)];rfl
   have h0:=it_mono (show F.length+1≤big by unfold big;omega) (key 0 F.length (by omega))
   have h0:iter big u19_38_4_0 ((G,(),F,((F.length:Nat):Int),0,()),((c,F,()),(c',G,()),()),())=_:=h0
   rw[h0]
   simp only[List.drop_zero,hc,true_and]
   cases decide (F=G)<;>rfl
  ·rw[decide_eq_false (show ¬ ((F.length:Nat):Int)=((G.length:Nat):Int) by omega),decide_eq_false (show ¬ (c=c'∧F=G) from fun h=>hlen (congrArg _ h.2))]
   rfl
 ·rw[decide_eq_false hc,decide_eq_false (show ¬ (c=c'∧F=G) from fun h=>hc h.1)];rfl
theorem f18_eq (c:Int):f18 c=some (cond (decide (0≤c)&&decide (c≤65536)) ((c,[]),true,()) ((0,[]),false,())):=by
 unfold f18
 rw[f26_eq c [] ⟨by simp,by simp⟩]
 simp only[Option.bind_some]
 have e:mayD c []=(decide (0≤c)&&decide (c≤65536)):=by
  unfold mayD mayF usedN
  by_cases h0:0≤c
  ·simp[h0]
  ·simp[h0]
 rw[e]
 cases (decide (0≤c)&&decide (c≤65536))<;>rfl
theorem f25_last (c:Int)(F:List FD)(f:FD)(h:SzD (F++[f])):f25 c (F++[f])=some (f.1,((F.length:Nat):Int),()):=by
 have hl:=h.1
 rw[List.length_append,List.length_singleton] at hl
 unfold f25
 rw[List.length_append,List.length_singleton,w64 (by omega) (by omega),decide_eq_false (by omega),decide_eq_true (by omega),decide_eq_true (by omega)]
 simp only[cond_true,cond_false,Bool.and_self]
 rw[show (((F.length+1:Nat):Int)-1).toNat=F.length by omega,rdFD (by simp)]
 simp only[List.getElem_append_right (Nat.le_refl _),Nat.sub_self,List.getElem_singleton]
 rw[show ((F.length+1:Nat):Int)-1=(F.length:Int) by omega]
theorem wuI {x:Int}(h1:0≤x)(h2:x≤9223372036854775807):IntKind.wrap .u64 x=x:=by rw[IntKind.wrap_u64];omega
theorem mayF_lt:∀ {F:List FD} {a:Int},mayF a F=true→∀ f∈F,a<f.1∧f.1≤1073741824∧0≤f.2.2∧f.2.2≤(f.2.1.length:Int)
 | [],_,_,_,h=>by cases h
 | f::r,a,h,g,hg=>by
  simp only[mayF,Bool.and_eq_true,decide_eq_true_eq] at h
  rcases List.mem_cons.1 hg with rfl|hg
  ·exact⟨h.1.1.1.1,h.1.1.1.2,h.1.1.2,h.1.2⟩
  ·have:=mayF_lt h.2 g hg
   exact⟨by omega,this.2⟩
theorem mayF_ris:∀ {F:List FD} {a:Int},mayF a F=true→F.Pairwise fun x y=>x.1<y.1
 | [],_,_=>List.Pairwise.nil
 | f::r,a,h=>by
  simp only[mayF,Bool.and_eq_true,decide_eq_true_eq] at h
  exact List.Pairwise.cons (fun g hg=>(mayF_lt h.2 g hg).1) (mayF_ris h.2)
theorem ris_le {F:List FD}(hr:F.Pairwise fun x y=>x.1<y.1){i j:Nat}(hi:i<F.length)(hj:j<F.length)(h:i<j):F[i].1<F[j].1:=
 List.pairwise_iff_getElem.1 hr i j hi hj h
theorem f58_eq (c:Int)(F:List FD)(no:Int)(hl:F.length≤1000000)(hr:F.Pairwise fun x y=>x.1<y.1) :
  ∃ k:Nat,f58 c F no=some ((k:Int),())∧k≤F.length∧(∀ j (hj:j<F.length),j<k→F[j].1<no)∧∀ j (hj:j<F.length),k≤j→no≤F[j].1:=by
 have key:=it_inv (f:=u58_99_2_0)
  (fun x=>∃ lo hi:Nat,x=(((),(lo:Int),(hi:Int),()),((c,F,()),(no,()),()),())∧lo≤hi∧hi≤F.length∧(∀ j (hj:j<F.length),j<lo→F[j].1<no)∧∀ j (hj:j<F.length),hi≤j→no≤F[j].1)
  (fun x=>(x.1.2.2.1-x.1.2.1).toNat)
  (fun r=>∃ k:Nat,r = .inl (((k:Int),()),((c,F,()),(no,()),()),())∧k≤F.length∧(∀ j (hj:j<F.length),j<k→F[j].1<no)∧∀ j (hj:j<F.length),k≤j→no≤F[j].1)
  ?_ big (((),0,((F.length:Nat):Int),()),((c,F,()),(no,()),()),()) ⟨0,F.length,rfl,Nat.zero_le _,Nat.le_refl _,fun j _ h=>absurd h (Nat.not_lt_zero _),fun j h1 h2=>by omega⟩ (by unfold big;simp only;omega)
 ·obtain⟨r,h1,k,rfl,h2⟩:=key
  refine⟨k,?_,h2⟩
  unfold f58
  rw[h1];rfl
 ·rintro x ⟨lo,hi,rfl,h1,h2,h3,h4⟩
  by_cases hlt:lo<hi
  ·left
   have hm:(lo+hi) / 2<F.length:=by omega
   have em:IntKind.wrap .i64 (Int.fdiv (IntKind.wrap .u64 (IntKind.wrap .i64 ((lo:Int)+(hi:Int)))) 2)=(((lo+hi) / 2:Nat):Int):=by
    rw[w64 (x:=(lo:Int)+(hi:Int)) (by omega) (by omega),wuI (by omega) (by omega),Int.fdiv_eq_ediv_of_nonneg _ (by omega),w64 (by omega) (by omega)];omega
   simp only[u58_99_2_0,t58_99_2_0,em,decide_eq_true (show ((lo:Nat):Int)<(hi:Int) by omega),decide_eq_true (show (0:Int)≤(((lo+hi) / 2:Nat):Int) by omega),decide_eq_true (show (((lo+hi) / 2:Nat):Int)<(F.length:Int) by omega),cond_true,Bool.and_self,Int.toNat_natCast,rdFD hm]
   by_cases hq:no≤F[(lo+hi) / 2].1
   ·rw[decide_eq_true hq]
    refine⟨_,rfl,⟨lo,(lo+hi) / 2,rfl,by omega,by omega,h3,fun j hj hk=>?_⟩,?_⟩
    ·rcases Nat.eq_or_lt_of_le hk with rfl|hk
     ·exact hq
     ·have:=ris_le hr hm hj hk;omega
    ·show ((((lo+hi) / 2:Nat):Int)-(lo:Int)).toNat<((hi:Int)-(lo:Int)).toNat
     omega
   ·rw[decide_eq_false hq]
    refine⟨_,rfl,⟨(lo+hi) / 2+1,hi,?_,by omega,by omega,fun j hj hk=>?_,h4⟩,?_⟩
    ·rw[w64 (by omega) (by omega)];rfl
    ·rcases Nat.eq_or_lt_of_le (Nat.le_of_lt_succ hk) with rfl|hk
     ·omega
     ·have:=ris_le hr hj hm hk;omega
    ·show ((hi:Int)-(IntKind.wrap .i64 ((((lo+hi) / 2:Nat):Int)+1))).toNat<((hi:Int)-(lo:Int)).toNat
     rw[w64 (by omega) (by omega)];omega
  ·right;left
   simp only[u58_99_2_0,t58_99_2_0,decide_eq_false (show ¬ ((lo:Nat):Int)<(hi:Int) by omega),cond_false]
   exact⟨_,rfl,lo,rfl,by omega,h3,fun j hj hk=>h4 j hj (by omega)⟩
theorem mayD_F {c:Int}{F:List FD}(h:mayD c F=true):mayF 0 F=true∧0≤c∧c≤65536∧F.length≤12∧(usedN F:Int)≤c:=by
 simp only[mayD,Bool.and_eq_true,decide_eq_true_eq] at h
 exact⟨h.1.1.1.1,h.1.1.1.2,h.1.1.2,h.1.2,h.2⟩
theorem mem_used:∀ {F:List FD} {f:FD},f∈F→f.2.1.length≤usedN F
 | g::r,f,h=>by
  rcases List.mem_cons.1 h with rfl|h
  ·simp only[usedN];omega
  ·have:=mem_used h;simp only[usedN];omega
theorem mayD_Sz {c:Int}{F:List FD}(h:mayD c F=true):SzD F:=by
 obtain⟨h1,h2,h3,h4,h5⟩:=mayD_F h
 refine⟨by omega,fun f hf=>?_⟩
 have:=mem_used hf;omega
theorem f58_at (c:Int)(F:List FD)(hl:F.length≤1000000)(hr:F.Pairwise fun x y=>x.1<y.1){i:Nat}(hi:i<F.length):f58 c F F[i].1=some ((i:Int),()):=by
 obtain⟨k,h1,h2,h3,h4⟩:=f58_eq c F F[i].1 hl hr
 have h5:¬ i<k:=fun h=>by have:=h3 i hi h;omega
 have h6:¬ k<i:=fun h=>by
  have h7:=h4 k (by omega) (Nat.le_refl _)
  have:=ris_le hr (show k<F.length by omega) hi h;omega
 rw[h1,show k=i by omega]
theorem f58_end (c:Int)(F:List FD)(no:Int)(hl:F.length≤1000000)(hr:F.Pairwise fun x y=>x.1<y.1)(h:∀ f∈F,f.1<no):f58 c F no=some ((F.length:Int),()):=by
 obtain⟨k,h1,h2,h3,h4⟩:=f58_eq c F no hl hr
 have h5:¬ k<F.length:=fun hk=>by
  have h7:=h4 k hk (Nat.le_refl _)
  have:=h _ (List.getElem_mem hk);omega
 rw[h1,show k=F.length by omega]
theorem f56_at (c:Int)(F:List FD)(h:mayD c F=true){i:Nat}(hi:i<F.length):f56 c F F[i].1=some ((i:Int),()):=by
 have hF:=mayD_F h
 unfold f56
 simp only[f26_eq c F (mayD_Sz h),h,Option.bind_some,Bool.not_true,cond_false,f58_at c F (by omega) (mayF_ris hF.1) hi,decide_eq_true (show ((i:Nat):Int)<(F.length:Int) by omega),decide_eq_true (show (0:Int)≤(i:Int) by omega),cond_true,Bool.and_self,Int.toNat_natCast,rdFD hi,decide_true]
theorem f56_end (c:Int)(F:List FD)(no:Int)(h:mayD c F=true)(hn:∀ f∈F,f.1<no):f56 c F no=some (-1,()):=by
 have hF:=mayD_F h
 unfold f56
 simp only[f26_eq c F (mayD_Sz h),h,Option.bind_some,Bool.not_true,cond_false,f58_end c F no (by omega) (mayF_ris hF.1) hn,decide_eq_false (Int.lt_irrefl _)]
theorem f29_new (c:Int)(F:List FD)(no:Int)(h:mayD c F=true)(h1:1≤no)(h2:no≤1073741824)(hn:∀ f∈F,f.1<no) :
  f29 c F no=some (cond (decide (F.length=12)) ((c,F),9,()) ((c,F++[(no,[],0)]),0,())):=by
 have hF:=mayD_F h
 unfold f29
 simp only[f39_eq c F (mayD_Sz h),f26_eq c F (mayD_Sz h),h,Option.bind_some,Bool.not_true,cond_false,decide_eq_false (show ¬ no<1 by omega),decide_eq_false (show ¬ 1073741824<no by omega),f56_end c F no h hn,decide_true]
 by_cases h12:F.length=12
 ·rw[decide_eq_true h12,decide_eq_true (show ((F.length:Nat):Int)=12 by omega)];rfl
 ·rw[decide_eq_false h12,decide_eq_false (show ¬ ((F.length:Nat):Int)=12 by omega)]
  simp only[cond_false,f58_end c F no (by omega) (mayF_ris hF.1) hn,Option.bind_some]
  have hI:fInsFile F (F.length:Int) [(no,[],0)]=some (F++[(no,[],0)]):=by
   show cond (decide ((0:Int)≤(F.length:Int))&&decide ((F.length:Int)≤(F.length:Int))&&Nat.ble ((F.length+1) * 40) 140737488355328) (some (F.take (F.length:Int).toNat++(no,[],0)::F.drop (F.length:Int).toNat)) none=_
   rw[decide_eq_true (by omega),decide_eq_true (Int.le_refl _),Nat.ble_eq_true_of_le (by omega),Int.toNat_natCast,List.take_length,List.drop_length];rfl
  rw[hI];rfl
theorem rdSet {F:List FD}{i:Nat}(hi:i<F.length)(x:FD):rd (.pair (.int .i64) (.pair (.row (.int .u8)) (.int .i64))) (F.set i x) i=x:=by
 rw[rdFD (by rw[List.length_set];exact hi),List.getElem_set_self]
theorem setSet (F:List FD)(i:Nat)(x y:FD):(F.set i x).set i y=F.set i y:=List.set_set ..
theorem f103_eq (c:Int)(F:List FD)(h:mayD c F=true){i:Nat}(hi:i<F.length)(b:List Int)(hb:b.length≤1000000) :
  f103 c F F[i].1 b=some (cond (decide (c-(usedN F:Int)<(b.length:Int))) ((c,F),9,()) ((c,F.set i (F[i].1,F[i].2.1++b,F[i].2.2)),0,())):=by
 have hF:=mayD_F h
 have hS:=mayD_Sz h
 have hd:=hS.at hi
 unfold f103
 simp only[f1039_eq c F hS,f26_eq c F hS,h,Option.bind_some,Bool.not_true,cond_false,f56_at c F h hi,decide_eq_false (show ¬ ((i:Nat):Int) = -1 by omega),f46_eq F hS,w64 (x:=c-(usedN F:Int)) (by omega) (by omega)]
 by_cases hq:c-(usedN F:Int)<(b.length:Int)
 ·rw[decide_eq_true hq];rfl
 ·rw[decide_eq_false hq]
  simp only[cond_false,decide_eq_true (show ((i:Nat):Int)<(F.length:Int) by omega),decide_eq_true (show (0:Int)≤(i:Int) by omega),cond_true,Bool.and_self,Int.toNat_natCast,List.length_set,decide_eq_true hi,decide_true,rdFD hi,rdSet hi,setSet,List.length_append,Nat.le_refl,
   decide_eq_true (show F[i].2.1.length+b.length≤140737488355328 by omega)]
  rw[← List.length_append,List.take_length]
theorem f60_eq (c:Int)(F:List FD)(no:Int)(b:List Int):f60 b c F no=f103 c F no b:=by
 unfold f60
 cases f103 c F no b with
 | none=>rfl
 | some y=>rfl
theorem f61_eq (c:Int)(F:List FD)(h:mayD c F=true){i:Nat}(hi:i<F.length) :
  f61 c F F[i].1=some ((c,F.set i (F[i].1,F[i].2.1,(F[i].2.1.length:Int))),0,()):=by
 have hF:=mayD_F h
 have hS:=mayD_Sz h
 unfold f61
 simp only[f39_eq c F hS,f26_eq c F hS,h,Option.bind_some,Bool.not_true,cond_false,f56_at c F h hi,decide_eq_false (show ¬ ((i:Nat):Int) = -1 by omega),decide_eq_true (show ((i:Nat):Int)<(F.length:Int) by omega),decide_eq_true (show (0:Int)≤(i:Int) by omega),cond_true,Bool.and_self,Int.toNat_natCast,decide_eq_true hi,rdFD hi]
theorem f140_ok (s:Int)(b:List Int)(hl:b.length≤1000000000):∃ n,f140 s b=some (n,()):=by
 have inner:∀ (c n j x:Int),0≤j→∃ x',iter big u140_154_4_0 (((),c,b,n,j,0,()),((x,()),()),())=some (.inl (((),b,n,j,()),((x',()),()),())):=by
  intro c n j x hj
  have key:=it_inv (f:=u140_154_4_0)
   (fun z=>∃ i x:Int,z=(((),c,b,n,j,i,()),((x,()),()),())∧0≤i∧i≤8)
   (fun z=>(8-z.1.2.2.2.2.2.1).toNat)
   (fun r=>∃ x',r = .inl (((),b,n,j,()),((x',()),()),()))
   ?_ big (((),c,b,n,j,0,()),((x,()),()),()) ⟨0,x,rfl,by omega,by omega⟩ (by unfold big;simp only;omega)
  ·obtain⟨r,h1,x',rfl⟩:=key
   exact⟨x',h1⟩
  ·rintro z ⟨i,y,rfl,h0,h8⟩
   by_cases hi:i<8
   ·left
    simp only[u140_154_4_0,t140_154_4_0]
    rw[decide_eq_true hi,w64 (x:=7-i) (by omega) (by omega),decide_eq_false (show ¬ 7-i<0 by omega)]
    simp only[cond_true,Bool.not_false]
    rw[w64 (x:=i+1) (by omega) (by omega)]
    cases (!((decide ((Int.fdiv y 2147483648)=1)) == (decide ((bitop .and .u8 (Int.fdiv c ((2:Int) ^ ((min (Int.toNat (7-i)) 8):Nat))) 1)=1)))) with
    | true=>exact⟨_,rfl,⟨_,_,rfl,by omega,by omega⟩,by show (8-(i+1)).toNat<(8-i).toNat;omega⟩
    | false=>exact⟨_,rfl,⟨_,_,rfl,by omega,by omega⟩,by show (8-(i+1)).toNat<(8-i).toNat;omega⟩
   ·right;left
    simp only[u140_154_4_0,t140_154_4_0]
    rw[decide_eq_false hi]
    exact⟨_,rfl,_,rfl⟩
 have key:=it_inv (f:=u140_154_1_0)
  (fun z=>∃ (j:Nat) (x:Int),z=(((),b,((b.length:Nat):Int),((j:Nat):Int),()),((x,()),()),())∧j≤b.length)
  (fun z=>(((b.length:Nat):Int)-z.1.2.2.2.1).toNat)
  (fun r=>∃ x,r = .inl ((),((x,()),()),()))
  ?_ big (((),b,((b.length:Nat):Int),0,()),(((bitop .xor .u32 s 4294967295),()),()),()) ⟨0,_,rfl,Nat.zero_le _⟩ (by unfold big;simp only;omega)
 ·obtain⟨r,h1,x,rfl⟩:=key
  refine⟨bitop .xor .u32 x 4294967295,?_⟩
  unfold f140
  rw[h1];rfl
 ·rintro z ⟨j,x,rfl,hj⟩
  by_cases hlt:j<b.length
  ·left
   obtain⟨x',hx⟩:=inner (rd (.int .u8) b j) ((b.length:Nat):Int) ((j:Nat):Int) x (by omega)
   simp only[u140_154_1_0,t140_154_1_0]
   rw[decide_eq_true (show ((j:Nat):Int)<(b.length:Int) by omega),decide_eq_true (show (0:Int)≤(j:Int) by omega)]
   simp only[cond_true,Bool.and_self,Int.toNat_natCast]
   rw[hx]
   simp only[Option.bind_some]
   rw[w64 (by omega) (by omega)]
   exact⟨_,rfl,⟨j+1,_,rfl,by omega⟩,by show (((b.length:Nat):Int)-((j:Int)+1)).toNat<(((b.length:Nat):Int)-(j:Int)).toNat;omega⟩
  ·right;left
   simp only[u140_154_1_0,t140_154_1_0]
   rw[decide_eq_false (by omega)]
   exact⟨_,rfl,_,rfl⟩
noncomputable def sumN (b:List Int):Int:=(f108 b).elim 0 (·.1)
theorem f108_eq (b:List Int)(hl:b.length≤1000000000):f108 b=some (sumN b,()):=by
 obtain⟨n,h⟩:=f140_ok 0 b hl
 have:f108 b=some (n,()):=by unfold f108;rw[h];rfl
 unfold sumN
 rw[this];rfl
def byt (x:Int):Nat:=(IntKind.wrap .u8 x).toNat
theorem byt_int (x:Int):((byt x:Nat):Int)=IntKind.wrap .u8 x:=by unfold byt;rw[IntKind.wrap_u8];omega
theorem byt_lt (x:Int):byt x<256:=by unfold byt;rw[IntKind.wrap_u8];omega
def fourN (n:Int):List Nat:=[byt (Int.fdiv n 16777216),byt (Int.fdiv n 65536),byt (Int.fdiv n 256),byt n]
theorem f107_eq (n:Int):f107 n=some (ints (fourN n),()):=by
 show _=some ([((byt _:Nat):Int),((byt _:Nat):Int),((byt _:Nat):Int),((byt _:Nat):Int)],())
 rw[byt_int,byt_int,byt_int,byt_int];rfl
noncomputable def crcB (b:List Nat):List Nat:=fourN (sumN (ints b))
theorem crcB_len (b:List Nat):(crcB b).length=4:=rfl
theorem crcB_lt (b:List Nat):∀ c∈crcB b,c<256:=by
 intro c h
 unfold crcB fourN at h
 simp only[List.mem_cons,List.not_mem_nil,or_false] at h
 rcases h with rfl|rfl|rfl|rfl<;>exact byt_lt _
theorem fGrow0_eq (n:Nat)(h:n≤1000000000):fGrow0 (n:Int)=some ([],()):=by
 show cond (decide (0≤(n:Int))&&Nat.ble ((n:Int).toNat * 1) 140737488355328) _ _=_
 rw[decide_eq_true (by omega),Nat.ble_eq_true_of_le (by omega)];rfl
def lenAll:List (List Int)→Nat
 | []=>0
 | x::r=>x.length+lenAll r
theorem lenAll_app:∀ (l m:List (List Int)),lenAll (l++m)=lenAll l+lenAll m
 | [],m=>by simp[lenAll]
 | x::r,m=>by simp only[List.cons_append,lenAll,lenAll_app r m];omega
theorem len_flatten:∀ (l:List (List Int)),l.flatten.length=lenAll l
 | []=>rfl
 | x::r=>by rw[List.flatten_cons,List.length_append,len_flatten r];rfl
theorem f102_eq (l:List (List Int))(hl:l.length≤1000)(hs:lenAll l≤1000000000):f102 l=some (l.flatten,()):=by
 have hp:∀ j,lenAll (l.take j)≤lenAll l:=fun j=>by
  have:=lenAll_app (l.take j) (l.drop j)
  rw[List.take_append_drop] at this;omega
 have hx:∀ j (hj:j<l.length),lenAll (l.take (j+1))=lenAll (l.take j)+l[j].length:=fun j hj=>by
  rw[List.take_succ_eq_append_getElem hj,lenAll_app];simp[lenAll]
 have hr:∀ j (hj:j<l.length),rd (.row (.int .u8)) l j=l[j]:=fun j hj=>rd_lt (e:=.row (.int .u8)) hj
 have k1:=it_all (u:=u102_3) (fun j=>((l,((lenAll (l.take j):Nat):Int),l,((l.length:Nat):Int),((j:Nat):Int),()),(),())) (n:=l.length) (y:=((l,((lenAll l:Nat):Int),()),(),())) (fun j hj=>by
  have h1:=hp (j+1)
  have h2:=hx j hj
  simp only[u102_3,t102_3]
  rw[ltn hj,ge0]
  simp only[cond_true,Bool.and_self,Int.toNat_natCast]
  simp only[hr j hj,w64 (x:=((lenAll (l.take j):Nat):Int)+((l[j].length:Nat):Int)) (by omega) (by omega),decide_eq_false (show ¬ ((lenAll (l.take j):Nat):Int)+((l[j].length:Nat):Int)<0 by omega),w64 (x:=((j:Nat):Int)+1) (by omega) (by omega),h2]
  rfl) (by
  simp only[u102_3,t102_3]
  rw[nlt,List.take_length];rfl) 0 big (Nat.zero_le _) (by unfold big;omega)
 have k2:=it_all (u:=u102_11) (fun j=>((l,((l.length:Nat):Int),((j:Nat):Int),()),(),(l.take j).flatten,())) (n:=l.length) (y:=((),(),l.flatten,())) (fun j hj=>by
  have h1:=hp (j+1)
  have h2:=hx j hj
  have h3:=len_flatten (l.take j)
  simp only[u102_11,t102_11]
  rw[ltn hj,ge0]
  simp only[cond_true,Bool.and_self,Int.toNat_natCast]
  have h4:(l.take (j+1)).flatten=(l.take j).flatten++l[j]:=by
   rw[List.take_succ_eq_append_getElem hj,List.flatten_append,List.flatten_cons,List.flatten_nil,List.append_nil]
  simp only[hr j hj,decide_eq_true (show ((l.take j).flatten.length+l[j].length) * 1≤140737488355328 by omega),decide_eq_true (show (l.take j).flatten.length+l[j].length≤9223372036854775807 by omega),w64 (x:=((j:Nat):Int)+1) (by omega) (by omega),h4,cond_true,Bool.and_self]
  rfl) (by
  simp only[u102_11,t102_11]
  rw[nlt,List.take_length];rfl) 0 big (Nat.zero_le _) (by unfold big;omega)
 have k1:iter big u102_3 ((l,0,l,((l.length:Nat):Int),0,()),(),())=_:=k1
 have k2:iter big u102_11 ((l,((l.length:Nat):Int),0,()),(),[],())=_:=k2
 unfold f102
 rw[k1]
 simp only[Option.bind_some,fGrow0_eq _ hs]
 rw[k2];rfl
theorem f101_eq (b:List Nat)(hl:b.length≤1000000):f101 (ints b)=some (ints (b++crcB b),()):=by
 unfold f101
 rw[f108_eq _ (by rw[ints_len];omega)]
 simp only[Option.bind_some]
 rw[f107_eq]
 simp only[Option.bind_some]
 rw[f102_eq _ (by simp) (by simp only[lenAll,ints_len];show b.length+(4+0)≤_;omega)]
 simp only[Option.bind_some,List.flatten_cons,List.flatten_nil,List.append_nil,ints_app]
 rfl
theorem f59_eq (k:Nat)(hk:k<256)(body:List Nat)(hl:body.length≤1000000):f59 (k:Int) (ints body)=some (if body.length≤1000 then (ints (recB crcB k body),true,()) else ([],false,())):=by
 unfold f59
 rw[decide_eq_false (show ¬ (k:Int)<0 by omega),decide_eq_false (show ¬ (255:Int)<(k:Int) by omega),ints_len]
 simp only[cond_false]
 by_cases h:body.length≤1000
 ·rw[if_pos h,decide_eq_false (by omega),f55_eq _ (by omega)]
  have h6:=vput_len6 (n:=body.length) (by omega)
  simp only[cond_false,Option.bind_some]
  rw[f102_eq _ (by simp) (by simp only[lenAll,ints_len,List.length_cons,List.length_nil];omega)]
  simp only[Option.bind_some,List.flatten_cons,List.flatten_nil,List.append_nil]
  have e:[IntKind.wrap .u8 ((k:Nat):Int)]++(ints (vput body.length)++ints body)=ints (recX k body):=by
   rw[w8 (by omega) (by omega),ints_app];rfl
  have e2:=f101_eq (recX k body) (by rw[recX_len];omega)
  simp only[e,e2,Option.bind_some]
  rfl
 ·rw[if_neg h,decide_eq_true (by omega)];rfl
theorem dl128 (m:Nat):decide ((m:Int)<128)=decide (m<128):=decide_eq_decide.2 (by omega)
theorem f62_eq (b:List Nat)(hl:b.length≤1000000000):f62 (ints b)=some (openB b,()):=by
 unfold f62 openB
 rw[ints_len]
 by_cases h6:b.length<6
 ·rw[decide_eq_true (show ((b.length:Nat):Int)<6 by omega),decide_eq_true h6]
  have k:=it_idx (u:=u62_139_2_0) b (fun c=>decide (c<128)) (fun j=>((ints b,(),((b.length:Nat):Int),((j:Nat):Int),()),(),())) (fun j=>((((j:Nat):Int),()),(),())) (y:=((),(),())) (fun j hj=>by
   have hji:j<(ints b).length:=by rw[ints_len];exact hj
   simp only[u62_139_2_0,t62_139_2_0]
   rw[ltn hj,ge0,ints_len,ltn hj]
   simp only[cond_true,Bool.and_self,Int.toNat_natCast]
   have e:f106 (rd (.int .u8) (ints b) j)=some (decide (b[j]<128),()):=by
    rw[rdB hji,ints_get]
    have d:=dl128 b[j]
    show some (decide (((b[j]:Nat):Int)<128),())=_
    rw[d]
   rw[e]
   simp only[Option.bind_some]
   rw[w64 (by omega) (by omega)]
   cases decide (b[j]<128)<;>rfl) (by
   simp only[u62_139_2_0,t62_139_2_0]
   rw[nlt];rfl) (fuel:=big) (by unfold big;omega)
  have k:iter big u62_139_2_0 ((ints b,(),((b.length:Nat):Int),0,()),(),())=_:=k
  simp only[cond_true,k,Bool.true_and]
  by_cases hx:b.findIdx (fun c=>decide (c<128))<b.length
  ·rw[if_pos hx]
   have:b.any (fun c=>decide (c<128))=true:=by
    rw[List.any_eq_true]
    exact⟨_,List.getElem_mem hx,List.findIdx_getElem (w:=hx)⟩
   rw[this]
   simp only[Option.bind_some,decide_eq_true (Int.natCast_nonneg _)]
  ·rw[if_neg hx]
   have:b.any (fun c=>decide (c<128))=false:=by
    rw[List.any_eq_false]
    intro c hc hh
    exact hx (List.findIdx_lt_length_of_exists ⟨c,hc,hh⟩)
   rw[this];rfl
 ·rw[decide_eq_false (show ¬ ((b.length:Nat):Int)<6 by omega),decide_eq_false h6];rfl
theorem ints_eq (a b:List Nat):decide (ints a=ints b)=decide (a=b):=decide_eq_decide.2 ⟨ints_inj,fun h=>by rw[h]⟩
theorem f64_eq (l:List Nat)(h4:4≤l.length)(hl:l.length≤1000000) :
  f64 (ints l)=some (if l.drop (l.length-4)=crcB (l.take (l.length-4)) then (ints (l.take (l.length-4)),true,()) else ([],false,())):=by
 have e1:IntKind.wrap .i64 (((l.length:Nat):Int)-4)=((l.length-4:Nat):Int):=by rw[w64 (by omega) (by omega)];omega
 have s1:List.drop 0 (List.take (l.length-4) (ints l))=ints (l.take (l.length-4)):=by rw[List.drop_zero,ints_take]
 have s2:List.drop (l.length-4) (List.take l.length (ints l))=ints (l.drop (l.length-4)):=by rw[ints_take,List.take_length,ints_drop]
 unfold f64
 simp only[ints_len,e1,decide_eq_false (show ¬ ((l.length-4:Nat):Int)<0 by omega),cond_false,Int.toNat_natCast,s1,s2,
  decide_eq_true (show (0:Int)≤((l.length-4:Nat):Int) by omega),decide_eq_true (show ((l.length-4:Nat):Int)≤((l.length:Nat):Int) by omega),decide_eq_true (Int.le_refl ((l.length:Nat):Int)),Bool.and_self,cond_true,
  f108_eq (ints (l.take (l.length-4))) (by rw[ints_len,List.length_take];omega),f107_eq,Option.bind_some]
 rw[show ints (fourN (sumN (ints (l.take (l.length-4)))))=ints (crcB (l.take (l.length-4))) from rfl,f37_eq _ _ (by rw[ints_len,List.length_drop];omega),ints_eq]
 by_cases h:l.drop (l.length-4)=crcB (l.take (l.length-4))
 ·rw[if_pos h,decide_eq_true h]
  simp only[Option.bind_some,Bool.not_true,cond_false]
  rw[fCloneByte_eq _ (by rw[ints_len,List.length_take];omega)]
  rfl
 ·rw[if_neg h,decide_eq_false h];rfl
def getO (at':Nat):Except Nat (Nat×List Nat×Nat)→((Int×(List Int))×Int×Int×Unit)
 | .error e=>((0,[]),0,(e:Int),())
 | .ok x=>(((x.1:Int),ints x.2.1),((at'+x.2.2:Nat):Int),0,())
theorem drop_cons' {b:List Nat}{j:Nat}(h:j<b.length):b.drop j=b[j]::b.drop (j+1):=List.drop_eq_getElem_cons h
theorem f31_eq (b:List Nat)(hb:∀ c∈b,c<256)(hl:b.length≤1000000)(at':Nat)(hat:at'≤b.length) :
  f31 (ints b) (at':Int)=some (getO at' (getR crcB (b.drop at'))):=by
 unfold f31
 simp only[ints_len,decide_eq_false (show ¬ (at':Int)<0 by omega),decide_eq_false (show ¬ ((b.length:Nat):Int)<(at':Int) by omega),cond_false]
 by_cases he:at'=b.length
 ·rw[decide_eq_true (by omega),he,List.drop_length];rfl
 have hlt:at'<b.length:=by omega
 have e1:IntKind.wrap .i64 ((at':Int)+1)=((at'+1:Nat):Int):=by rw[w64 (by omega) (by omega)];omega
 have s1:List.drop (at'+1) (List.take b.length (ints b))=ints (b.drop (at'+1)):=by rw[ints_take,List.take_length,ints_drop]
 simp only[decide_eq_false (show ¬ (at':Int)=((b.length:Nat):Int) by omega),cond_false,e1,Int.toNat_natCast,s1,ge0,decide_eq_true (show ((at'+1:Nat):Int)≤((b.length:Nat):Int) by omega),decide_eq_true (Int.le_refl ((b.length:Nat):Int)),Bool.and_self,cond_true,
  f62_eq (b.drop (at'+1)) (by rw[List.length_drop];omega),Option.bind_some,f63_eq b hb (by omega) (at'+1) (by omega)]
 rw[drop_cons' hlt]
 simp only[getR]
 cases ho:openB (b.drop (at'+1)) with
 | true=>rw[if_pos rfl];rfl
 | false=>
  rw[if_neg (by simp)]
  cases hv:vget (b.drop (at'+1)) with
  | none=>rfl
  | some q=>
   obtain⟨n,k⟩:=q
   have hn:n≤1099511627776:=(vget_of (fun c hc=>hb c (List.mem_of_mem_drop hc)) hv).1
   have hk6:k≤6:=by rw[(vget_of (fun c hc=>hb c (List.mem_of_mem_drop hc)) hv).2.1];exact vput_len6 hn
   simp only[cond_false,decide_eq_false (show ¬ ((at'+1+k:Nat):Int) = -1 by omega)]
   by_cases h1000:1000<n
   ·rw[if_pos h1000,decide_eq_true (by omega)];rfl
   rw[if_neg h1000,decide_eq_false (by omega)]
   have e2:IntKind.wrap .i64 ((IntKind.wrap .i64 (((at'+1+k:Nat):Int)+(n:Int)))+4)=((at'+(1+k+n+4):Nat):Int):=by
    rw[w64 (x:=((at'+1+k:Nat):Int)+(n:Int)) (by omega) (by omega),w64 (by omega) (by omega)];omega
   simp only[cond_false,e2]
   have hlen:(b[at']::b.drop (at'+1)).length=b.length-at':=by rw[← drop_cons' hlt,List.length_drop]
   rw[hlen]
   by_cases h4:b.length-at'<1+k+n+4
   ·rw[if_pos h4,decide_eq_true (by omega)];rfl
   rw[if_neg h4,decide_eq_false (by omega)]
   have s2:List.drop at' (List.take (at'+(1+k+n+4)) (ints b))=ints ((b.drop at').take (1+k+n+4)):=by
    rw[ints_take,ints_drop,List.drop_take,Nat.add_sub_cancel_left]
   have hL:((b.drop at').take (1+k+n+4)).length=1+k+n+4:=by rw[List.length_take,List.length_drop];omega
   have t1:((b.drop at').take (1+k+n+4)).take (1+k+n)=(b.drop at').take (1+k+n):=by rw[List.take_take,Nat.min_eq_left (by omega)]
   have t2:((b.drop at').take (1+k+n+4)).drop (1+k+n)=((b.drop at').drop (1+k+n)).take 4:=by rw[List.drop_take,Nat.add_sub_cancel_left]
   have hf:=f64_eq ((b.drop at').take (1+k+n+4)) (by rw[hL];omega) (by rw[hL];omega)
   rw[hL,show 1+k+n+4-4=1+k+n by omega,t1,t2] at hf
   rw[← drop_cons' hlt]
   simp only[cond_false,ge0,decide_eq_true (show (at':Int)≤((at'+(1+k+n+4):Nat):Int) by omega),decide_eq_true (Int.le_refl _),decide_eq_true (show ((at'+(1+k+n+4):Nat):Int)≤((b.length:Nat):Int) by omega),Bool.and_self,cond_true,Int.toNat_natCast,s2,hf,Option.bind_some]
   by_cases hc:((b.drop at').drop (1+k+n)).take 4=crcB ((b.drop at').take (1+k+n))
   ·have hL2:((b.drop at').take (1+k+n)).length=1+k+n:=by rw[List.length_take,List.length_drop];omega
    have e3:IntKind.wrap .i64 (((at'+1+k:Nat):Int)-(at':Int))=((1+k:Nat):Int):=by rw[w64 (by omega) (by omega)];omega
    have s3:List.drop (1+k) (List.take (1+k+n) (ints ((b.drop at').take (1+k+n))))=ints (((b.drop (at'+1)).drop k).take n):=by
     rw[ints_take,List.take_take,Nat.min_self,ints_drop,List.drop_take,List.drop_drop,List.drop_drop,Nat.add_sub_cancel_left]
     congr 3;omega
    have hr0:rd (.int .u8) (ints ((b.drop at').take (1+k+n))) 0=((b[at']:Nat):Int):=by
     rw[drop_cons' hlt,show 1+k+n=(k+n)+1 by omega,List.take_succ_cons];rfl
    have hb8:=hb _ (List.getElem_mem hlt)
    simp only[if_pos hc,Bool.not_true,cond_false,ints_len,hL2,decide_eq_true (show (0:Int)<((1+k+n:Nat):Int) by omega),cond_true,e3,ge0,decide_eq_true (show ((1+k:Nat):Int)≤((1+k+n:Nat):Int) by omega),decide_eq_true (Int.le_refl _),Bool.and_self,Int.toNat_natCast,s3,hr0,w64 (x:=((b[at']:Nat):Int)) (by omega) (by omega)]
    rfl
   ·simp only[if_neg hc,Bool.not_false,cond_true]
    rfl
noncomputable def firstS (b:List Nat):Option (ST×Nat):=
 match getR crcB b with
 | .error _=>none
 | .ok x=>if x.1=1 then (readS x.2.1).map fun s=>(s,x.2.2) else none
noncomputable def firstO:Option (ST×Nat)→(ST×Int×Bool×Unit)
 | some y=>(y.1,((y.2:Nat):Int),true,())
 | none=>(zeroS,0,false,())
theorem getR_lt {b:List Nat}(hb:∀ c∈b,c<256){k n:Nat}{body:List Nat}(h:getR crcB b = .ok (k,body,n)):(∀ c∈body,c<256)∧body.length≤1000∧n≤b.length∧1≤n:=by
 rcases getR_cases crcB b with⟨e,he,_⟩|⟨c,r,n',k',rfl,ho,hv,h1,h2,h3,h4⟩
 ·rw[he] at h;cases h
 ·rw[h4] at h
  cases h
  refine⟨fun x hx=>hb x (List.mem_cons_of_mem _ (List.mem_of_mem_drop (List.mem_of_mem_take hx))),?_,by omega,by omega⟩
  rw[List.length_take];omega
theorem f13_eq (b:List Nat)(hb:∀ c∈b,c<256)(hl:b.length≤1000000):f13 (ints b)=some (firstO (firstS b)):=by
 have h0:=f31_eq b hb hl 0 (Nat.zero_le _)
 rw[List.drop_zero] at h0
 have h0:f31 (ints b) 0=_:=h0
 unfold f13 firstS
 rw[h0]
 simp only[Option.bind_some]
 cases hg:getR crcB b with
 | error e=>
  have he:e≠0:=by
   rcases getR_cases crcB b with⟨e',he,h⟩|⟨c,r,n',k',rfl,ho,hv,h1,h2,h3,h4⟩
   ·rw[he] at hg;cases hg;exact h
   ·rw[h4] at hg;cases hg
  have hd:decide (((e:Nat):Int)=0)=false:=decide_eq_false (by omega)
  show cond (!(decide (((e:Nat):Int)=0))) _ _=_
  rw[hd];rfl
 | ok x=>
  obtain⟨k,body,n⟩:=x
  obtain⟨h1,h2,h3,h4⟩:=getR_lt hb hg
  show cond (!(decide (((k:Nat):Int)=1))) _ ((f32 (ints body)).bind _)=_
  by_cases hk:k=1
  ·subst hk
   rw[f32_eq body h1 (by omega)]
   rw[decide_eq_true (show ((1:Nat):Int)=1 from rfl)]
   simp only[Bool.not_true,cond_false,Option.bind_some,if_true,getO,Nat.zero_add]
   cases readS body with
   | none=>rfl
   | some s=>rfl
  ·rw[decide_eq_false (show ¬ ((k:Nat):Int)=1 by omega)]
   simp only[if_neg hk];rfl
theorem firstS_may {b:List Nat}(hb:∀ c∈b,c<256){s:ST}{n:Nat}(h:firstS b=some (s,n)):MayS s∧Settled s∧n≤b.length:=by
 unfold firstS at h
 cases hg:getR crcB b with
 | error e=>rw[hg] at h;cases h
 | ok x=>
  obtain⟨k,body,m⟩:=x
  obtain⟨h1,h2,h3,h4⟩:=getR_lt hb hg
  rw[hg] at h
  simp only at h
  split at h
  ·cases hr:readS body with
   | none=>rw[hr] at h;cases h
   | some t=>
    rw[hr] at h
    simp only[Option.map_some,Option.some.injEq,Prod.mk.injEq] at h
    obtain⟨rfl,rfl⟩:=h
    have:=readS_of h1 hr
    exact⟨this.1,this.2.1,h3⟩
  ·cases h
theorem firstS_put {s:ST}(M:MayS s)(hS:Settled s)(rest:List Nat):firstS (recB crcB 1 (encS s)++rest)=some (s,(recB crcB 1 (encS s)).length):=by
 unfold firstS
 rw[getR_rec crcB crcB_len 1 (encS s) rest (Nat.le_trans (encS_len M) (by omega))]
 simp only[if_true,readS_put M hS,Option.map_some]
theorem or3 {a b c:Nat}(ha:a≤31)(hb:b≤3)(hc:c≤7) :
  bitop .or .i64 (bitop .or .i64 (IntKind.wrap .i64 ((a:Int) * 32)) (IntKind.wrap .i64 ((b:Int) * 8))) (c:Int)=((a * 32+b * 8+c:Nat):Int):=by
 rw[w64 (by omega) (by omega),w64 (by omega) (by omega),show (a:Int) * 32=((a * 32:Nat):Int) by omega,show (b:Int) * 8=((b * 8:Nat):Int) by omega,
  b_or_add (m:=5) (by omega) (by omega) (by omega) (by omega),b_or_add (m:=3) (by omega) (by omega) (by omega) (by omega)]
theorem or2 {a b:Nat}(ha:a≤31)(hb:b≤7):bitop .or .i64 (IntKind.wrap .i64 ((a:Int) * 8)) (b:Int)=((a * 8+b:Nat):Int):=by
 rw[w64 (by omega) (by omega),show (a:Int) * 8=((a * 8:Nat):Int) by omega,b_or_add (m:=3) (by omega) (by omega) (by omega) (by omega)]
theorem f75_eq (e:ET)(h:MayE e):f75 e.1 e.2.1 e.2.2.1 e.2.2.2.1 e.2.2.2.2.1 e.2.2.2.2.2.1 e.2.2.2.2.2.2.1 e.2.2.2.2.2.2.2.1 e.2.2.2.2.2.2.2.2=some (ints (numsE e),()):=by
 obtain⟨k,at',a,b,c,q,i,o,p⟩:=e
 have hK:=h.kind
 have h3:=h.2.2
 have two:∀ k:Int,(k=2∨k=4)→rng a 0 3→rng b 1 4→(some ([(bitop .or .i64 (IntKind.wrap .i64 (a * 8)) b)],()):Option (List Int×Unit))=some (ints (numsE (k,at',a,b,c,q,i,o,p)),()):=by
  intro k hk ha hb
  unfold rng at ha hb
  obtain⟨A,rfl⟩:∃ A:Nat,a=A:=⟨a.toNat,by omega⟩
  obtain⟨B,rfl⟩:∃ B:Nat,b=B:=⟨b.toNat,by omega⟩
  rw[or2 (by omega) (by omega)]
  unfold numsE
  rw[if_neg (by simp only;omega),if_pos (by simp only;exact hk)]
  rfl
 have three:∀ k:Int,(k=0∨k=1)→rng a 0 31→rng b 0 3→rng c 0 7→(some ([(bitop .or .i64 (bitop .or .i64 (IntKind.wrap .i64 (a * 32)) (IntKind.wrap .i64 (b * 8))) c)],()):Option (List Int×Unit))=some (ints (numsE (k,at',a,b,c,q,i,o,p)),()):=by
  intro k hk ha hb hc
  unfold rng at ha hb hc
  obtain⟨A,rfl⟩:∃ A:Nat,a=A:=⟨a.toNat,by omega⟩
  obtain⟨B,rfl⟩:∃ B:Nat,b=B:=⟨b.toNat,by omega⟩
  obtain⟨C,rfl⟩:∃ C:Nat,c=C:=⟨c.toNat,by omega⟩
  rw[or3 (by omega) (by omega) (by omega)]
  unfold numsE
  rw[if_pos (by simp only;exact hk)]
  rfl
 have one:∀ k:Int,(k=3∨k=5)→0≤a→(some ([a],()):Option (List Int×Unit))=some (ints (numsE (k,at',a,b,c,q,i,o,p)),()):=by
  intro k hk ha
  obtain⟨A,rfl⟩:∃ A:Nat,a=A:=⟨a.toNat,by omega⟩
  unfold numsE
  rw[if_neg (by simp only;omega),if_neg (by simp only;omega),if_pos (by simp only;exact hk)]
  rfl
 simp only at hK h3 ⊢
 unfold evBody at h3
 rcases hK with rfl|rfl|rfl|rfl|rfl|rfl|rfl
 ·rw[if_pos (by omega)] at h3
  exact three 0 (by omega) h3.1 h3.2.1 h3.2.2
 ·rw[if_pos (by omega)] at h3
  exact three 1 (by omega) h3.1 h3.2.1 h3.2.2
 ·rw[if_neg (by omega),if_pos (by omega)] at h3
  exact two 2 (by omega) h3.1 h3.2.1
 ·rw[if_neg (by omega),if_neg (by omega),if_neg (by omega),if_pos (by omega)] at h3
  exact one 3 (by omega) h3.1.1
 ·rw[if_neg (by omega),if_neg (by omega),if_pos (by omega)] at h3
  refine two 4 (by omega) ?_ h3.2.1
  have:=h3.1
  unfold rng at this ⊢;omega
 ·rw[if_neg (by omega),if_neg (by omega),if_neg (by omega),if_pos (by omega)] at h3
  exact one 5 (by omega) h3.1.1
 ·rw[if_neg (by omega),if_neg (by omega),if_neg (by omega),if_neg (by omega),if_pos (by omega)] at h3
  have hp:=h3.1
  unfold PolP at hp
  simp only at hp
  obtain⟨Q,rfl⟩:∃ A:Nat,q=A:=⟨q.toNat,by omega⟩
  obtain⟨I,rfl⟩:∃ A:Nat,i=A:=⟨i.toNat,by omega⟩
  obtain⟨O,rfl⟩:∃ A:Nat,o=A:=⟨o.toNat,by omega⟩
  cases p<;>rfl
abbrev ETy:Ty:=.pair (.int .i64) (.pair (.int .i64) (.pair (.int .i64) (.pair (.int .i64) (.pair (.int .i64) (.pair (.int .i64) (.pair (.int .i64) (.pair (.int .i64) .bool)))))))
theorem rdE {l:List ET}{j:Nat}(h:j<l.length):rd (.pair (.int .i64) (.pair (.int .i64) (.pair (.int .i64) (.pair (.int .i64) (.pair (.int .i64) (.pair (.int .i64) (.pair (.int .i64) (.pair (.int .i64) .bool)))))))) l j=l[j]:=rd_lt (e:=ETy) h
theorem f35_eq (now:Int)(l:List ET)(hl:l.length≤1000000):f35 now l=some (match putE now l with
  | some b=>(ints b,true,())
  | none=>([],false,())):=by
 have key:∀ (r:List ET) (j:Nat) (frm:Int) (acc:List Int),l.drop j=r→acc.length≤5 * j→rng frm 0 1073741824 →
   iter (r.length+1) u35_5 ((frm,l,((l.length:Nat):Int),((j:Nat):Int),()),(),acc,()) =
    some (match goE frm r with
     | some ns=>.inl ((),(),acc++ints ns,())
     | none=>.inr ((false,()),(),[],())):=by
  intro r
  induction r with
  | nil=>
   intro j frm acc hj _ _
   have hjl:l.length≤j:=List.drop_eq_nil_iff.1 hj
   rw[it_out (y:=((),(),acc,()))]
   ·simp[goE]
   ·simp only[u35_5,t35_5]
    rw[decide_eq_false (by omega)];rfl
  | cons e r ih=>
   intro j frm acc hj hacc hf
   have hjl:j<l.length:=by
    rcases Nat.lt_or_ge j l.length with h|h
    ·exact h
    ·rw[List.drop_eq_nil_of_le h] at hj;cases hj
   have hc:=List.getElem_cons_drop hjl
   rw[hj] at hc
   obtain⟨he,hr⟩:=List.cons.inj hc
   have ew:MayE e→frm≤e.2.1→IntKind.wrap .i64 ((IntKind.wrap .i64 ((IntKind.wrap .i64 (e.2.1-frm)) * 16))+e.1)=(((((e.2.1-frm) * 16+e.1).toNat:Nat)):Int):=by
    intro hm hle
    have hk:=hm.kind
    have ha:=hm.1
    unfold rng at ha hf
    rw[w64 (x:=e.2.1-frm) (by omega) (by omega),w64 (x:=(e.2.1-frm) * 16) (by omega) (by omega),w64 (by omega) (by omega)];omega
   have step:u35_5 ((frm,l,((l.length:Nat):Int),((j:Nat):Int),()),(),acc,()) =
     some (if MayE e∧frm≤e.2.1 then .next ((e.2.1,l,((l.length:Nat):Int),((j+1:Nat):Int),()),(),acc++ints (((e.2.1-frm) * 16+e.1).toNat::numsE e),()) else .ret ((false,()),(),[],())):=by
    simp only[u35_5,t35_5,ltn hjl,ge0,cond_true,Bool.and_self,Int.toNat_natCast,rdE hjl,he,f74_eq,Option.bind_some]
    by_cases hm:MayE e
    ·simp only[decide_eq_true hm,Bool.not_true,cond_false]
     by_cases hle:frm≤e.2.1
     ·have h75:=f75_eq e hm
      have hn:=numsE_len e
      simp only[decide_eq_false (show ¬ e.2.1<frm by omega),cond_false,decide_eq_true (show (acc.length+1) * 8≤140737488355328 by omega),decide_eq_true (show acc.length+1≤9223372036854775807 by omega),Bool.and_self,cond_true,h75,Option.bind_some,ew hm hle,ints_len,List.length_append,List.length_singleton,
       decide_eq_true (show (acc.length+1+(numsE e).length) * 8≤140737488355328 by omega),decide_eq_true (show acc.length+1+(numsE e).length≤9223372036854775807 by omega),nx hjl (show l.length≤9223372036854775807 by omega),if_pos (show MayE e∧frm≤e.2.1 from ⟨hm,hle⟩)]
      rw[List.append_assoc];rfl
     ·simp only[decide_eq_true (show e.2.1<frm by omega),cond_true,if_neg (show ¬ (MayE e∧frm≤e.2.1) from fun h=>hle h.2)]
    ·simp only[decide_eq_false hm,Bool.not_false,cond_true,if_neg (show ¬ (MayE e∧frm≤e.2.1) from fun h=>hm h.1)]
   unfold goE
   by_cases hq:MayE e∧frm≤e.2.1
   ·rw[if_pos hq] at step ⊢
    have hn:=numsE_len e
    rw[List.length_cons,it_next step,ih (j+1) e.2.1 _ hr (by rw[List.length_append,ints_len,List.length_cons];omega) hq.1.1]
    cases goE e.2.1 r with
    | none=>rfl
    | some ns=>simp only[Option.map_some,List.append_assoc,ints_app]
   ·rw[if_neg hq] at step ⊢
    rw[it_ret step]
 unfold f35 putE
 rw[f73_eq]
 simp only[Option.bind_some]
 by_cases hr:rng now 0 1073741824
 ·have h0:=it_mono (show l.length+1≤big by unfold big;omega) (key l 0 now [] rfl (by simp) hr)
  have h0:iter big u35_5 ((now,l,((l.length:Nat):Int),0,()),(),[],())=_:=h0
  rw[decide_eq_true hr,if_pos hr,h0]
  simp only[Bool.not_true,cond_false]
  cases hg:goE now l with
  | none=>rfl
  | some ns=>
   simp only[Option.bind_some,List.nil_append]
   by_cases h4:ns.length≤400
   ·rw[if_pos h4,f51_eq ns h4 ((goE_may hg).2 hr.1)];rfl
   ·rw[if_neg h4]
    have:f51 (ints ns)=some ([],false,()):=by
     unfold f51
     rw[ints_len,decide_eq_true (by omega)];rfl
    rw[this];rfl
 ·rw[decide_eq_false hr,if_neg hr];rfl
def lastN (F:List FD):Int:=(F.getLast?).elim 0 (·.1)
theorem snoc_or {α:Type}(F:List α):F=[]∨∃ G f,F=G++[f]:=by
 cases F with
 | nil=>exact .inl rfl
 | cons a r=>exact .inr ⟨(a::r).dropLast,(a::r).getLast (by simp),(List.dropLast_concat_getLast (by simp)).symm⟩
theorem lastN_snoc (G:List FD)(f:FD):lastN (G++[f])=f.1:=by
 unfold lastN;rw[List.getLast?_append];rfl
theorem f25_eq (c:Int)(F:List FD)(h:SzD F):f25 c F=some (lastN F,(F.length:Int)-1,()):=by
 rcases snoc_or F with rfl|⟨G,f,rfl⟩
 ·rfl
 ·rw[f25_last c G f h,lastN_snoc]
  rw[List.length_append,List.length_singleton]
  congr 3;omega
def tailD (F:List FD):List Int:=(F.getLast?).elim [] (·.2.1)
theorem tailD_snoc (G:List FD)(f:FD):tailD (G++[f])=f.2.1:=by
 unfold tailD;rw[List.getLast?_append];rfl
def MayW (c:Int)(F:List FD)(no now:Int):Prop:=mayD c F=true∧0<lastN F∧lastN F=no∧0≤now∧now≤1073741824
instance (c:Int)(F:List FD)(no now:Int):Decidable (MayW c F no now):=by unfold MayW;infer_instance
theorem f11_eq (c:Int)(F:List FD)(no now:Int)(h:SzD F):f11 c F no now=some (decide (MayW c F no now),()):=by
 unfold f11
 rw[f25_eq c F h,f26_eq c F h]
 simp only[Option.bind_some]
 by_cases hw:MayW c F no now
 ·rw[decide_eq_true hw]
  obtain⟨h1,h2,h3,h4,h5⟩:=hw
  rw[h1,decide_eq_true h2,decide_eq_true h3,decide_eq_true h4,decide_eq_true h5];rfl
 ·rw[decide_eq_false hw]
  cases h1:mayD c F with
  | false=>rfl
  | true=>
   by_cases h2:0<lastN F
   ·by_cases h3:lastN F=no
    ·by_cases h4:0≤now
     ·by_cases h5:now≤1073741824
      ·exact absurd ⟨h1,h2,h3,h4,h5⟩ hw
      ·rw[decide_eq_true h2,decide_eq_true h3,decide_eq_true h4,decide_eq_false h5];rfl
     ·rw[decide_eq_true h2,decide_eq_true h3,decide_eq_false h4];rfl
    ·rw[decide_eq_true h2,decide_eq_false h3];rfl
   ·rw[decide_eq_false h2];rfl
theorem f15_eq (c:Int)(F:List FD)(no now c':Int)(G:List FD)(no' now':Int)(h:SzD F) :
  f15 c F no now c' G no' now'=some (decide ((((c,F),no,now):(Int×List FD)×Int×Int)=((c',G),no',now')),()):=by
 unfold f15
 rw[f19_eq c F c' G h]
 by_cases h1:no=no'<;>by_cases h2:now=now'<;>simp[h1,h2]
theorem f33_eq (c:Int)(F:List FD)(no now:Int)(h:SzD F):f33 c F no now=some (((c,F),no,now),()):=by
 have hl:=h.1
 unfold f33
 have k:=it_outs (u:=u33_3) (fun j=>(((),(),(),F,((F.length:Nat):Int),((j:Nat):Int),()),((c,F,no,now,()),(0,(),0,0,()),(c,(),()),()),[],F.take j,())) (n:=F.length)
  (y:=(((),(),(),()),((c,F,no,now,()),(0,(),0,0,()),(c,(),()),()),[],F,())) (fun j hj=>by
  have hd:=h.at hj
  have hlt:(F.take j).length=j:=by rw[List.length_take];omega
  simp only[u33_3,t33_3,ltn hj,ge0,cond_true,Bool.and_self,Int.toNat_natCast,rdFD hj,hlt,decide_eq_true (show F[j].2.1.length * 1≤140737488355328 by omega),decide_eq_true (show F[j].2.1.length≤9223372036854775807 by omega),decide_eq_true (show (j+1) * 40≤140737488355328 by omega),decide_eq_true (show j+1≤9223372036854775807 by omega),nx hj (show F.length≤9223372036854775807 by omega)]
  rw[List.take_succ_eq_append_getElem hj]) (by
  simp only[u33_3,t33_3]
  rw[nlt,List.take_length];rfl) (by omega)
 have k:iter big u33_3 (((),(),(),F,((F.length:Nat):Int),0,()),((c,F,no,now,()),(0,(),0,0,()),(c,(),()),()),[],[],())=_:=k
 rw[k];rfl
theorem mayF_snoc:∀ {F:List FD} {a:Int} {x:FD},mayF a F=true→(∀ f∈F,f.1<x.1)→a<x.1→x.1≤1073741824→0≤x.2.2→x.2.2≤(x.2.1.length:Int)→mayF a (F++[x])=true
 | [],a,x,_,_,h1,h2,h3,h4=>by simp[mayF,h1,h2,h3,h4]
 | f::r,a,x,h,hn,h1,h2,h3,h4=>by
  simp only[mayF,Bool.and_eq_true,decide_eq_true_eq,List.cons_append] at h ⊢
  exact⟨h.1,mayF_snoc h.2 (fun g hg=>hn g (List.mem_cons_of_mem _ hg)) (hn f (List.mem_cons_self ..)) h2 h3 h4⟩
theorem mayF_init:∀ {F:List FD} {a:Int} {x:FD},mayF a (F++[x])=true→mayF a F=true∧(∀ f∈F,f.1<x.1)∧a<x.1∧x.1≤1073741824∧0≤x.2.2∧x.2.2≤(x.2.1.length:Int)
 | [],a,x,h=>by
  simp[mayF] at h
  exact⟨rfl,by simp,h.1.1.1,h.1.1.2,h.1.2,h.2⟩
 | f::r,a,x,h=>by
  have h0:=h
  simp only[mayF,Bool.and_eq_true,decide_eq_true_eq,List.cons_append] at h ⊢
  have ih:=mayF_init h.2
  have:=ih.2.2.1
  refine⟨⟨h.1,ih.1⟩,fun g hg=>?_,by omega,ih.2.2.2⟩
  rcases List.mem_cons.1 hg with rfl|hg
  ·exact this
  ·exact ih.2.1 g hg
theorem usedN_snoc (F:List FD)(x:FD):usedN (F++[x])=usedN F+x.2.1.length:=by rw[usedN_app];simp[usedN]
theorem mayD_snoc {c:Int}{F:List FD}{x:FD}(h:mayD c F=true)(hn:∀ f∈F,f.1<x.1)(h1:0<x.1)(h2:x.1≤1073741824)(h3:0≤x.2.2)(h4:x.2.2≤(x.2.1.length:Int))(h5:F.length≠12)(h6:(usedN F:Int)+x.2.1.length≤c):mayD c (F++[x])=true:=by
 have hF:=mayD_F h
 unfold mayD
 rw[mayF_snoc hF.1 hn h1 h2 h3 h4,decide_eq_true hF.2.1,decide_eq_true hF.2.2.1,List.length_append,List.length_singleton,decide_eq_true (show F.length+1≤12 by omega),usedN_snoc,decide_eq_true (by omega)];rfl
theorem mayD_last {c:Int}{F:List FD}{x:FD}{b:List Int}{k:Int}(h:mayD c (F++[x])=true)(h3:0≤k)(h4:k≤(b.length:Int))(h6:(usedN F:Int)+b.length≤c):mayD c (F++[(x.1,b,k)])=true:=by
 have hF:=mayD_F h
 have hi:=mayF_init hF.1
 have hl:=hF.2.2.2.1
 rw[List.length_append,List.length_singleton] at hl
 unfold mayD
 rw[mayF_snoc (x:=(x.1,b,k)) hi.1 hi.2.1 hi.2.2.1 hi.2.2.2.1 h3 h4,decide_eq_true hF.2.1,decide_eq_true hF.2.2.1,List.length_append,List.length_singleton,decide_eq_true (show F.length+1≤12 by omega),usedN_snoc,decide_eq_true (by simp only;omega)];rfl
theorem lastN_le {c:Int}{F:List FD}(h:mayD c F=true):0≤lastN F∧lastN F≤1073741824∧∀ f∈F,f.1≤lastN F:=by
 have hF:=mayD_F h
 rcases snoc_or F with rfl|⟨G,f,rfl⟩
 ·exact⟨by simp[lastN],by simp[lastN],by simp⟩
 ·rw[lastN_snoc]
  have hi:=mayF_init hF.1
  refine⟨by omega,by omega,fun g hg=>?_⟩
  rcases List.mem_append.1 hg with hg|hg
  ·have:=hi.2.1 g hg;omega
  ·rw[List.mem_singleton.1 hg];omega
theorem set_snoc (F:List FD)(x y:FD):(F++[x]).set F.length y=F++[y]:=by
 rw[List.set_append_right _ _ (Nat.le_refl _),Nat.sub_self];rfl
theorem get_snoc (F:List FD)(x:FD):(F++[x])[F.length]'(by simp)=x:=by
 rw[List.getElem_append_right (Nat.le_refl _)];simp
theorem f103_last (c:Int)(F:List FD)(x:FD)(h:mayD c (F++[x])=true)(b:List Int)(hb:b.length≤1000000) :
  f103 c (F++[x]) x.1 b=some (cond (decide (c-(usedN (F++[x]):Int)<(b.length:Int))) ((c,F++[x]),9,()) ((c,F++[(x.1,x.2.1++b,x.2.2)]),0,())):=by
 have k:=f103_eq c (F++[x]) h (i:=F.length) (by simp) b hb
 rw[get_snoc,set_snoc] at k
 exact k
theorem f61_last (c:Int)(F:List FD)(x:FD)(h:mayD c (F++[x])=true) :
  f61 c (F++[x]) x.1=some ((c,F++[(x.1,x.2.1,(x.2.1.length:Int))]),0,()):=by
 have k:=f61_eq c (F++[x]) h (i:=F.length) (by simp)
 rw[get_snoc,set_snoc] at k
 exact k
abbrev WT:=(Int×List FD)×Int×Int
noncomputable def newR (s:ST):List Nat:=recB crcB 1 (encS s)
noncomputable def badNew (c:Int)(F:List FD)(s:ST):Prop:=¬ (MayS s∧Settled s)∨mayD c F=false∨lastN F=1073741824
noncomputable def newE (c:Int)(F:List FD)(s:ST):Int:=
 open Classical in if badNew c F s then 1 else if F.length=12 then 9 else if c-(usedN F:Int)<((newR s).length:Int) then 9 else 0
noncomputable def newF (F:List FD)(s:ST):List FD:=F++[(lastN F+1,ints (newR s),((newR s).length:Int))]
noncomputable def newW (c:Int)(F:List FD)(s:ST):WT×(Int×Unit):=
 if newE c F s=0 then (((c,newF F s),lastN F+1,s.2.2.1),0,()) else (((0,[]),0,0),newE c F s,())
theorem newR_len {s:ST}(M:MayS s):(newR s).length≤1011:=recB_len crcB crcB_len 1 (encS s) (Nat.le_trans (encS_len M) (by omega))
theorem f12_eq (c:Int)(F:List FD)(s:ST)(hD:SzD F)(hs:Sm s) :
  f12 c F s.1.1.1 s.1.1.2 s.1.2.1.1 s.1.2.1.2 s.1.2.2.1 s.1.2.2.2.1 s.1.2.2.2.2.1 s.1.2.2.2.2.2 s.2.1.1 s.2.1.2.1 s.2.1.2.2.1 s.2.1.2.2.2 s.2.2.1 s.2.2.2.1 s.2.2.2.2.1 s.2.2.2.2.2=some (newW c F s):=by
 have bad:badNew c F s→newW c F s=(((0,[]),0,0),1,()):=fun h=>by
  have:newE c F s=1:=by unfold newE;rw[if_pos h]
  unfold newW
  rw[this];rfl
 unfold f12
 rw[f27_eq s hs,f25_eq c F hD,f26_eq c F hD]
 simp only[Option.bind_some]
 cases hp:putS s with
 | none=>
  rw[bad (.inl fun h=>by
   have:putS s=some (encS s):=putS_some.2 ⟨h,rfl⟩
   rw[hp] at this;cases this)]
  rfl
 | some body=>
  obtain⟨⟨M,hS⟩,rfl⟩:=putS_some.1 hp
  simp only[Bool.not_true,cond_false]
  cases hm:mayD c F with
  | false=>rw[bad (.inr (.inl hm))];rfl
  | true=>
   simp only[Bool.not_true,cond_false]
   by_cases hl:lastN F=1073741824
   ·rw[bad (.inr (.inr hl)),decide_eq_true hl];rfl
   rw[decide_eq_false hl]
   simp only[cond_false]
   have hL:=lastN_le hm
   have hlen:=encS_len M
   have hnb:¬ badNew c F s:=fun h=>by
    rcases h with h|h|h
    ·exact h ⟨M,hS⟩
    ·rw[hm] at h;cases h
    ·exact hl h
   have hF:=mayD_F hm
   have hlt:∀ f∈F,f.1<lastN F+1:=fun f hf=>by have:=hL.2.2 f hf;omega
   rw[w64 (x:=lastN F+1) (by omega) (by omega),f29_new c F (lastN F+1) hm (by omega) (by omega) hlt]
   by_cases h12:F.length=12
   ·have:newE c F s=9:=by unfold newE;rw[if_neg hnb,if_pos h12]
    unfold newW
    rw[this,decide_eq_true h12];rfl
   rw[decide_eq_false h12]
   have hD2:mayD c (F++[((lastN F+1),([]:List Int),(0:Int))])=true:=mayD_snoc hm hlt (by simp only;omega) (by simp only;omega) (by simp) (by simp) h12 (by simp;omega)
   have h103:=f103_last c F ((lastN F+1),([]:List Int),(0:Int)) hD2 (ints (newR s)) (by rw[ints_len];have:=newR_len M;omega)
   rw[usedN_snoc,ints_len] at h103
   have h59:=f59_eq 1 (by omega) (encS s) (by omega)
   rw[if_pos (show (encS s).length≤1000 by omega)] at h59
   have h59:f59 1 (ints (encS s))=some (ints (newR s),true,()):=h59
   simp only[cond_false,Option.bind_some,h59,Bool.not_true,decide_true,cond_true,f60_eq]
   simp only[List.length_nil,Nat.add_zero,List.nil_append] at h103
   rw[h103]
   by_cases hr:c-(usedN F:Int)<((newR s).length:Int)
   ·have:newE c F s=9:=by unfold newE;rw[if_neg hnb,if_neg h12,if_pos hr]
    unfold newW
    rw[this,decide_eq_true hr];rfl
   ·have:newE c F s=0:=by unfold newE;rw[if_neg hnb,if_neg h12,if_neg hr]
    unfold newW
    rw[this,decide_eq_false hr]
    have hD3:mayD c (F++[((lastN F+1),ints (newR s),(0:Int))])=true:=mayD_snoc hm hlt (by simp only;omega) (by simp only;omega) (by simp) (by simp) h12 (by simp only[ints_len];omega)
    have h61:=f61_last c F ((lastN F+1),ints (newR s),(0:Int)) hD3
    simp only[ints_len] at h61
    simp only[cond_false,Option.bind_some,decide_true,cond_true,h61,Bool.not_true,if_true]
    rfl
noncomputable def turnW (c:Int)(F:List FD)(no now:Int)(s:ST):WT×(Int×Unit):=
 if ¬ MayW c F no now then (((c,F),no,now),1,())
 else if (tailD F).length<300 then (((c,F),no,now),0,())
 else if newE c F s=0 then newW c F s else (((c,F),no,now),newE c F s,())
theorem f14_eq (c:Int)(F:List FD)(no now:Int)(s:ST)(hD:SzD F)(hs:Sm s) :
  f14 c F no now s.1.1.1 s.1.1.2 s.1.2.1.1 s.1.2.1.2 s.1.2.2.1 s.1.2.2.2.1 s.1.2.2.2.2.1 s.1.2.2.2.2.2 s.2.1.1 s.2.1.2.1 s.2.1.2.2.1 s.2.1.2.2.2 s.2.2.1 s.2.2.2.1 s.2.2.2.2.1 s.2.2.2.2.2=some (turnW c F no now s):=by
 have h12:=f12_eq c F s hD hs
 unfold f14 turnW
 rw[f11_eq c F no now hD,f33_eq c F no now hD,f25_eq c F hD,h12]
 simp only[Option.bind_some]
 by_cases hm:MayW c F no now
 ·rw[decide_eq_true hm,if_neg (fun h=>h hm)]
  rcases snoc_or F with rfl|⟨G,f,rfl⟩
  ·have:=hm.2.1;simp[lastN] at this
  have hl:(((G++[f]).length:Nat):Int)-1=(G.length:Int):=by rw[List.length_append,List.length_singleton];omega
  have hg:=tailD_snoc G f
  rw[hl]
  have hlt:G.length<(G++[f]).length:=by simp
  simp only[Bool.not_true,cond_false,ge0,ltn hlt,Bool.and_self,cond_true,Int.toNat_natCast,rdFD hlt,get_snoc]
  by_cases h3:(tailD (G++[f])).length<300
  ·rw[if_pos h3]
   rw[hg] at h3
   rw[decide_eq_true (show ((f.2.1.length:Nat):Int)<300 by omega)];rfl
  ·rw[if_neg h3]
   rw[hg] at h3
   rw[decide_eq_false (show ¬ ((f.2.1.length:Nat):Int)<300 by omega)]
   by_cases he:newE c (G++[f]) s=0
   ·rw[if_pos he]
    unfold newW
    rw[if_pos he];rfl
   ·rw[if_neg he]
    unfold newW
    rw[if_neg he]
    simp only[cond_false,decide_eq_false he,Bool.not_false,cond_true]
 ·rw[decide_eq_false hm,if_pos hm];rfl
noncomputable def addR (body:List Nat):List Nat:=recB crcB 2 body
noncomputable def addW (c:Int)(F:List FD)(no now:Int)(l:List ET):WT×(Int×Unit):=
 if ¬ MayW c F no now∨l=[] then (((c,F),no,now),1,())
 else match putE now l with
  | none=>(((c,F),no,now),1,())
  | some body=>
   if 1000<body.length then (((c,F),no,now),1,())
   else if c-(usedN F:Int)<((addR body).length:Int) then (((c,F),no,now),9,())
   else (((c,F.dropLast++[(no,(tailD F)++ints (addR body),(((tailD F)++ints (addR body)).length:Int))]),no,(l.getLast?).elim 0 (·.2.1)),0,())
theorem f17_eq (c:Int)(F:List FD)(no now:Int)(l:List ET)(hD:SzD F)(hl:l.length≤1000):f17 c F no now l=some (addW c F no now l):=by
 unfold f17 addW
 rw[f11_eq c F no now hD,f33_eq c F no now hD,f35_eq now l (by omega)]
 simp only[Option.bind_some]
 by_cases hm:MayW c F no now
 case neg=>rw[decide_eq_false hm,if_pos (.inl hm)];rfl
 rw[decide_eq_true hm]
 rcases snoc_or l with rfl|⟨K,e,rfl⟩
 ·rw[if_pos (.inr rfl)];rfl
 rw[if_neg (by rintro (h|h);exact h hm;simp at h)]
 have hll:(K++[e]).length=K.length+1:=by simp
 rw[decide_eq_false (show ¬ (((K++[e]).length:Nat):Int)=0 by rw[hll];omega)]
 simp only[Bool.not_true,cond_false]
 cases hp:putE now (K++[e]) with
 | none=>rfl
 | some body=>
  have hb:=putE_lt hp
  have h59:=f59_eq 2 (by omega) body (by omega)
  have h59:f59 2 (ints body)=_:=h59
  simp only[Bool.not_true,cond_false,h59,Option.bind_some]
  by_cases h1000:1000<body.length
  ·rw[if_pos h1000,if_neg (by omega)];rfl
  rw[if_neg h1000,if_pos (by omega)]
  rcases snoc_or F with rfl|⟨G,f,rfl⟩
  ·have:=hm.2.1;simp[lastN] at this
  obtain⟨hmD,h0,hno,hnow⟩:=hm
  rw[lastN_snoc] at h0 hno
  subst hno
  have hR:(recB crcB 2 body).length≤1011:=recB_len crcB crcB_len 2 body (by omega)
  have h103:=f103_last c G f hmD (ints (addR body)) (by rw[ints_len];unfold addR;omega)
  rw[ints_len] at h103
  have hg:=tailD_snoc G f
  have hg2:(K++[e]).getLast? = some e:=by rw[List.getLast?_append];rfl
  rw[hg,hg2,List.dropLast_concat]
  simp only[Bool.not_true,cond_false,f60_eq,Option.elim_some]
  have e2:recB crcB 2 body=addR body:=rfl
  rw[e2,h103]
  by_cases hr:c-(usedN (G++[f]):Int)<((addR body).length:Int)
  ·rw[if_pos hr,decide_eq_true hr];rfl
  ·rw[if_neg hr,decide_eq_false hr]
   have hF:=mayD_F hmD
   have hi:=mayF_init hF.1
   have hu:(usedN (G++[f]):Int)=(usedN G:Int)+(f.2.1.length:Int):=by rw[usedN_snoc];omega
   have hD2:=mayD_last (b:=f.2.1++ints (addR body)) (k:=f.2.2) hmD hi.2.2.2.2.1 (by rw[List.length_append];have:=hi.2.2.2.2.2;omega) (by rw[List.length_append,ints_len];omega)
   have h61:=f61_last c G (f.1,f.2.1++ints (addR body),f.2.2) hD2
   have ew:IntKind.wrap .i64 ((((K++[e]).length:Nat):Int)-1)=(K.length:Int):=by rw[hll,w64 (by omega) (by omega)];omega
   have hlt:K.length<(K++[e]).length:=by simp
   have hge:(K++[e])[K.length]'hlt=e:=by rw[List.getElem_append_right (Nat.le_refl _)];simp
   simp only[cond_false,Option.bind_some,decide_true,cond_true,h61,Bool.not_true,ew,ge0,ltn hlt,Bool.and_self,Int.toNat_natCast,rdE hlt,hge]
theorem cond_tt {α:Type}{c:Bool}{a b:α}(h:c=true):cond c a b=a:=by rw[h];rfl
theorem cond_ff {α:Type}{c:Bool}{a b:α}(h:c=false):cond c a b=b:=by rw[h];rfl
theorem take_own {α:Type}(r A B C:List α):List.take r.length (List.take r.length (r++A)++B++C)=r:=by
 rw[List.take_left' rfl,List.append_assoc,List.take_left' rfl]
theorem f34_first (c:Int)(f:FD)(r:List FD)(h:mayD c (f::r)=true):f34 c (f::r) f.1=some ((c,r),0,()):=by
 have hS:=mayD_Sz h
 have hl:=hS.1
 rw[List.length_cons] at hl
 have h56:f56 c (f::r) f.1=some ((0:Int),()):=f56_at c (f::r) h (i:=0) (by simp)
 unfold f34
 rw[f26_eq c _ hS,h,h56,f39_eq c _ hS]
 have e1:IntKind.wrap .i64 ((0:Int)+1)=1:=by rw[w64 (by omega) (by omega)];omega
 have s1:List.drop (0+1) (List.take (0+(r.length+1)) (f::r))=r:=by
  rw[List.take_of_length_le (by rw[List.length_cons];omega)];rfl
 have d1:decide ((0:Int) = -1)=false:=rfl
 have d2:decide ((0:Int)=1)=false:=rfl
 simp only[Option.bind_some,Bool.not_true,cond_false,d1,d2,e1,List.length_cons,decide_eq_true (Int.le_refl 0),decide_eq_true (show (0:Int)≤1 by omega),decide_eq_true (show (1:Int)≤((r.length+1:Nat):Int) by omega),decide_eq_true (show (0:Int)+((r.length+1:Nat):Int)≤((r.length+1:Nat):Int) by omega),Bool.and_self,cond_true,
  decide_eq_true (show (0:Int)+0≤((r.length+1:Nat):Int) by omega),Nat.sub_zero,Int.toNat_natCast,Int.toNat_one,Int.toNat_zero,s1,List.take_zero,decide_eq_true (show 0+0+r.length≤r.length+1 by omega)]
 refine (cond_tt ?_).trans ?_
 ·simp only[Bool.and_eq_true,decide_eq_true_eq,List.length_append,List.length_drop,List.length_cons,List.length_nil];omega
 ·simp only[Nat.zero_add,List.drop_zero,List.take_zero,List.nil_append]
  rw[take_own]
def BytL (d:List Int):Prop:=∃ b:List Nat,d=ints b∧∀ c∈b,c<256
def BytD (F:List FD):Prop:=∀ f∈F,BytL f.2.1
noncomputable def firstD (d:List Int):Option (ST×Nat):=firstS (d.map Int.toNat)
theorem ints_toNat (b:List Nat):(ints b).map Int.toNat=b:=by simp[ints,List.map_map,Function.comp_def]
theorem f13_byt {d:List Int}(h:BytL d)(hl:d.length≤1000000):f13 d=some (firstO (firstD d)):=by
 obtain⟨b,rfl,hb⟩:=h
 unfold firstD
 rw[ints_toNat]
 exact f13_eq b hb (by rw[ints_len] at hl;exact hl)
theorem firstD_may {d:List Int}(h:BytL d){s:ST}{n:Nat}(hs:firstD d=some (s,n)):MayS s∧Settled s∧n≤d.length:=by
 obtain⟨b,rfl,hb⟩:=h
 unfold firstD at hs
 rw[ints_toNat] at hs
 rw[ints_len]
 exact firstS_may hb hs
theorem MayS.nowB {s:ST}(h:MayS s):0≤s.2.2.1∧s.2.2.1≤1073741824:=⟨h.now0,h.now1⟩
noncomputable def goesB (now:Int)(f:FD):Bool:=match firstD f.2.1 with
 | some y=>decide (y.1.2.2.1+1000≤now)
 | none=>false
noncomputable def trimF (now:Int):List FD→List FD
 | []=>[]
 | f::r=>match r with
  | []=>[f]
  | g::_=>cond (goesB now g) (trimF now r) (f::r)
theorem mayD_tail {c:Int}{f:FD}{r:List FD}(h:mayD c (f::r)=true):mayD c r=true:=by
 have hF:=mayD_F h
 have h1:mayF f.1 r=true:=by
  have:=hF.1
  rw[mayF] at this
  simp only[Bool.and_eq_true] at this
  exact this.2
 have h0:0<f.1:=by
  have:=(mayF_lt hF.1 f (List.mem_cons_self ..)).1;omega
 have h2:mayF 0 r=true:=by
  cases r with
  | nil=>rfl
  | cons g q=>
   simp only[mayF,Bool.and_eq_true,decide_eq_true_eq] at h1 ⊢
   exact⟨⟨⟨⟨by omega,h1.1.1.1.2⟩,h1.1.1.2⟩,h1.1.2⟩,h1.2⟩
 have hu:=hF.2.2.2.2
 have hl:=hF.2.2.2.1
 rw[List.length_cons] at hl
 simp only[usedN] at hu
 unfold mayD
 rw[h2,decide_eq_true hF.2.1,decide_eq_true hF.2.2.1,decide_eq_true (show r.length≤12 by omega),decide_eq_true (by omega)];rfl
theorem f16_eq (c:Int)(F:List FD)(no now t:Int)(hD:SzD F)(hB:BytD F):f16 c F no now t=some (((c,if MayW c F no now then trimF t F else F),no,now),()):=by
 unfold f16
 rw[f33_eq c F no now hD,f11_eq c F no now hD]
 simp only[Option.bind_some]
 by_cases hm:MayW c F no now
 case neg=>rw[decide_eq_false hm,if_neg hm];rfl
 rw[decide_eq_true hm,if_pos hm]
 have key:∀ (F:List FD) (W:List FD),mayD c F=true→BytD F →
   iter (F.length+1) u16_4 ((t,(),(),()),((0,(),0,0,()),(c,F,no,now,()),()),W,())=some (.inr (((),()),((c,trimF t F,no,now,()),()),())):=by
  intro F
  induction F with
  | nil=>
   intro W _ _
   refine it_ret ?_
   rfl
  | cons f r ih=>
   intro W h hB
   cases r with
   | nil=>refine it_ret ?_;rfl
   | cons g q=>
    have hS:=mayD_Sz h
    have hg:=hB g (by simp)
    have hgl:=hS.2 g (by simp)
    have e1:rd (.pair (.int .i64) (.pair (.row (.int .u8)) (.int .i64))) (f::g::q) 1=g:=rfl
    have e0:rd (.pair (.int .i64) (.pair (.row (.int .u8)) (.int .i64))) (f::g::q) 0=f:=rfl
    have hlen:(f::g::q).length=q.length+2:=rfl
    have step:u16_4 ((t,(),(),()),((0,(),0,0,()),(c,(f::g::q,no,now,())),()),W,()) =
      some (cond (goesB t g) (.next ((t,(),(),()),((0,(),0,0,()),(c,(g::q,no,now,())),()),W,())) (.ret (((),()),((c,(f::g::q,no,now,())),()),()))):=by
     simp only[u16_4,t16_4,hlen,decide_eq_false (show ¬ ((q.length+2:Nat):Int)<2 by omega),cond_false,decide_eq_true (show (1:Int)<((q.length+2:Nat):Int) by omega),cond_true,e1,e0,f13_byt hg hgl,Option.bind_some,decide_eq_true (show (0:Int)<((q.length+2:Nat):Int) by omega),f34_first c f (g::q) h]
     unfold goesB
     cases hf:firstD g.2.1 with
     | none=>rfl
     | some y=>
      obtain⟨s,n⟩:=y
      have hn:=(firstD_may hg hf).1.nowB
      show cond (decide (t<IntKind.wrap .i64 (s.2.2.1+1000))) _ _=some (cond (decide (s.2.2.1+1000≤t)) _ _)
      rw[w64 (x:=s.2.2.1+1000) (by omega) (by omega)]
      by_cases hq:s.2.2.1+1000≤t
      ·rw[decide_eq_true hq,decide_eq_false (by omega)];rfl
      ·rw[decide_eq_false hq,decide_eq_true (by omega)];rfl
    have hr:mayD c (g::q)=true:=mayD_tail h
    rw[List.length_cons]
    cases hq:goesB t g with
    | true=>
     rw[hq] at step
     rw[it_next step,ih W hr fun x hx=>hB x (List.mem_cons_of_mem _ hx)]
     simp only[trimF,hq,cond_true]
    | false=>
     rw[hq] at step
     rw[it_ret step]
     simp only[trimF,hq,cond_false]
 have hl:=hD.1
 have k:=it_mono (show F.length+1≤big by unfold big;omega) (key F [] hm.1 hB)
 simp only[Bool.not_true,cond_false,k,Option.bind_some]
theorem f20_sure (c:Int)(F:List FD)(picks:List Int)(hD:SzD F)(hS:∀ f∈F,f.2.2=(f.2.1.length:Int)):f20 c F picks=some ((c,F),()):=by
 have hl:=hD.1
 unfold f20
 rw[f1039_eq c F hD,f26_eq c F hD]
 simp only[Option.bind_some]
 cases hm:mayD c F with
 | false=>rfl
 | true=>
  have k:=it_outs (u:=u20_6) (fun j=>(((),(),(),((F.length:Nat):Int),((j:Nat):Int),()),((0,(),()),(c,(),()),F,(picks,()),()),[],())) (n:=F.length)
   (y:=(((),(),()),((0,(),()),(c,(),()),F,()),[],())) (fun j hj=>by
   have hs:=hS _ (List.getElem_mem hj)
   have hd:=hD.at hj
   unfold u20_6 t20_6
   refine (cond_tt (ltn hj)).trans ?_
   refine (cond_tt (by rw[Bool.and_eq_true];exact⟨ge0 j,ltn hj⟩)).trans ?_
   refine (cond_tt (decide_eq_true (show Int.toNat ((j:Nat):Int)<F.length by rw[Int.toNat_natCast];exact hj))).trans ?_
   refine (cond_tt (decide_eq_true (show Int.toNat ((j:Nat):Int)<F.length by rw[Int.toNat_natCast];exact hj))).trans ?_
   refine (cond_tt (by simp only[Int.toNat_natCast,rdFD hj,hs,Bool.and_eq_true,decide_eq_true_eq,Nat.sub_zero];exact⟨⟨⟨hj,Int.natCast_nonneg _⟩,Int.le_refl _⟩,Int.le_refl _⟩)).trans ?_
   refine (cond_tt (by simp only[Int.toNat_natCast,rdFD hj,hs,decide_eq_true_eq,Nat.sub_zero,Nat.sub_self];rfl)).trans ?_
   simp only[nx hj (show F.length≤9223372036854775807 by omega)]) (by
   unfold u20_6 t20_6
   refine (cond_ff (nlt _)).trans ?_
   rfl) (by omega)
  have k:iter big u20_6 (((),(),(),((F.length:Nat):Int),0,()),((0,(),()),(c,(),()),F,(picks,()),()),[],())=_:=k
  simp only[Bool.not_true,cond_false,k,Option.bind_some]
def FewD (F:List FD):Prop:=(∀ f∈F,f.2.1.length≤3000)∧F.length≤14
theorem FewD.sz {F:List FD}(h:FewD F):SzD F:=⟨by have:=h.2;omega,fun f hf=>by have:=h.1 f hf;omega⟩
theorem f23_eq (c:Int)(F:List FD)(hl:F.length≤9223372036854775807):∃ q:Bool,f23 c F=some (q,())∧(q=true→FewD F):=by
 have key:∀ (r:List FD) (j:Nat),F.drop j=r→(∀ f∈F.take j,f.2.1.length≤3000) →
   iter (r.length+1) u23_2 (((),((j:Nat):Int),()),((c,F,()),()),())=some (if ∀ f∈F,f.2.1.length≤3000 then .inl (((),()),((c,F,()),()),()) else .inr ((false,()),(),())):=by
  intro r
  induction r with
  | nil=>
   intro j hj hp
   have hjl:F.length≤j:=List.drop_eq_nil_iff.1 hj
   rw[List.take_of_length_le hjl] at hp
   rw[if_pos hp]
   refine it_out ?_
   simp only[u23_2,t23_2]
   rw[decide_eq_false (by omega)];rfl
  | cons f r ih=>
   intro j hj hp
   have hjl:j<F.length:=by
    rcases Nat.lt_or_ge j F.length with h|h
    ·exact h
    ·rw[List.drop_eq_nil_of_le h] at hj;cases hj
   have hc:=List.getElem_cons_drop hjl
   rw[hj] at hc
   obtain⟨hf,hr⟩:=List.cons.inj hc
   have step:u23_2 (((),((j:Nat):Int),()),((c,F,()),()),())=some (cond (decide (f.2.1.length≤3000)) (.next (((),((j+1:Nat):Int),()),((c,F,()),()),())) (.ret ((false,()),(),()))):=by
    simp only[u23_2,t23_2,ltn hjl,ge0,Bool.and_self,cond_true,Int.toNat_natCast,rdFD hjl,hf,nx hjl (show F.length≤9223372036854775807 by omega)]
    by_cases hq:f.2.1.length≤3000
    ·rw[decide_eq_true hq,decide_eq_false (by omega)];rfl
    ·rw[decide_eq_false hq,decide_eq_true (by omega)];rfl
   rw[List.length_cons]
   by_cases hq:f.2.1.length≤3000
   ·rw[decide_eq_true hq] at step
    rw[it_next step]
    refine ih (j+1) hr fun g hg=>?_
    rw[List.take_succ_eq_append_getElem hjl] at hg
    rcases List.mem_append.1 hg with hg|hg
    ·exact hp g hg
    ·rw[List.mem_singleton.1 hg,hf];exact hq
   ·rw[decide_eq_false hq] at step
    rw[it_ret step,if_neg (fun h=>hq (by rw[← hf];exact h _ (List.getElem_mem hjl)))]
 have k:=it_mono (show F.length+1≤big by unfold big;omega) (key F 0 rfl (by simp))
 have k:iter big u23_2 (((),0,()),((c,F,()),()),())=_:=k
 unfold f23
 rw[k]
 by_cases h:∀ f∈F,f.2.1.length≤3000
 ·rw[if_pos h]
  refine⟨decide (((F.length:Nat):Int)≤14),rfl,fun hq=>⟨h,?_⟩⟩
  have:=of_decide_eq_true hq;omega
 ·rw[if_neg h]
  exact⟨false,rfl,fun h=>by cases h⟩
theorem f9_eq (c:Int)(F:List FD)(no now:Int)(hl:F.length≤9223372036854775807):∃ q:Bool,f9 c F no now=some (q,())∧(q=true→FewD F):=by
 obtain⟨q,h1,h2⟩:=f23_eq c F hl
 exact⟨q,by unfold f9;rw[h1];rfl,h2⟩
def Few (s:ST):Prop:=s.2.2.2.2.1.length≤40∧s.2.2.2.2.2.length≤40∧s.2.2.2.1.length≤6
instance (s:ST):Decidable (Few s):=by unfold Few;infer_instance
theorem Few.sm {s:ST}(h:Few s):Sm s:=⟨by have:=h.2.2;omega,by have:=h.1;omega,by have:=h.2.1;omega⟩
theorem f10_eq (s:ST) :
  f10 s.1.1.1 s.1.1.2 s.1.2.1.1 s.1.2.1.2 s.1.2.2.1 s.1.2.2.2.1 s.1.2.2.2.2.1 s.1.2.2.2.2.2 s.2.1.1 s.2.1.2.1 s.2.1.2.2.1 s.2.1.2.2.2 s.2.2.1 s.2.2.2.1 s.2.2.2.2.1 s.2.2.2.2.2=some (decide (Few s),()):=by
 have d:∀ (n:Nat) (k:Nat),decide ((n:Int)≤(k:Int))=decide (n≤k):=fun n k=>decide_eq_decide.2 (by omega)
 have h1:=d s.2.2.2.2.1.length 40
 have h2:=d s.2.2.2.2.2.length 40
 have h3:=d s.2.2.2.1.length 6
 unfold f10 f24
 by_cases h1:s.2.2.2.2.1.length≤40
 ·by_cases h2:s.2.2.2.2.2.length≤40
  ·by_cases h3:s.2.2.2.1.length≤6
   ·rw[decide_eq_true (show ((s.2.2.2.2.1.length:Nat):Int)≤40 by omega),decide_eq_true (show ((s.2.2.2.2.2.length:Nat):Int)≤40 by omega),decide_eq_true (show ((s.2.2.2.1.length:Nat):Int)≤6 by omega),decide_eq_true (show Few s from ⟨h1,h2,h3⟩)];rfl
   ·rw[decide_eq_true (show ((s.2.2.2.2.1.length:Nat):Int)≤40 by omega),decide_eq_true (show ((s.2.2.2.2.2.length:Nat):Int)≤40 by omega),decide_eq_false (show ¬ ((s.2.2.2.1.length:Nat):Int)≤6 by omega),decide_eq_false (show ¬ Few s from fun h=>h3 h.2.2)];rfl
  ·rw[decide_eq_true (show ((s.2.2.2.2.1.length:Nat):Int)≤40 by omega),decide_eq_false (show ¬ ((s.2.2.2.2.2.length:Nat):Int)≤40 by omega),decide_eq_false (show ¬ Few s from fun h=>h2 h.2.1)];rfl
 ·rw[decide_eq_false (show ¬ ((s.2.2.2.2.1.length:Nat):Int)≤40 by omega),decide_eq_false (show ¬ Few s from fun h=>h1 h.1)];rfl
set_option maxRecDepth 100000
theorem f8_eq:f8=some (true,()):=by kernel_rfl
theorem newE_zero {c:Int}{F:List FD}{s:ST}(h:newE c F s=0):MayS s∧Settled s∧mayD c F=true∧lastN F<1073741824∧F.length≠12∧((newR s).length:Int)≤c-(usedN F:Int):=by
 unfold newE at h
 by_cases hb:badNew c F s
 ·rw[if_pos hb] at h;cases h
 rw[if_neg hb] at h
 by_cases h12:F.length=12
 ·rw[if_pos h12] at h;cases h
 rw[if_neg h12] at h
 by_cases hr:c-(usedN F:Int)<((newR s).length:Int)
 ·rw[if_pos hr] at h;cases h
 have hb1:MayS s∧Settled s:=Classical.byContradiction fun k=>hb (.inl k)
 have hb2:mayD c F=true:=by
  cases hm:mayD c F with
  | true=>rfl
  | false=>exact absurd (.inr (.inl hm)) hb
 have hb3:lastN F≠1073741824:=fun k=>hb (.inr (.inr k))
 have hL:=lastN_le hb2
 exact⟨hb1.1,hb1.2,hb2,by omega,h12,by omega⟩
theorem newF_may {c:Int}{F:List FD}{s:ST}(h:newE c F s=0):mayD c (newF F s)=true:=by
 obtain⟨M,hS,hm,hl,h12,hr⟩:=newE_zero h
 have hL:=lastN_le hm
 unfold newF
 exact mayD_snoc hm (fun f hf=>by have:=hL.2.2 f hf;simp only;omega) (by simp only;omega) (by simp only;omega) (by simp only;omega) (by simp only[ints_len];omega) h12 (by simp only[ints_len];omega)
theorem newF_mayW {c:Int}{F:List FD}{s:ST}(h:newE c F s=0):MayW c (newF F s) (lastN F+1) s.2.2.1:=by
 obtain⟨M,hS,hm,hl,h12,hr⟩:=newE_zero h
 have hL:=lastN_le hm
 refine⟨newF_may h,?_,?_,M.now0,M.now1⟩
 ·unfold newF;rw[lastN_snoc];simp only;omega
 ·unfold newF;rw[lastN_snoc]
theorem newW_ok {c:Int}{F:List FD}{s:ST}(h:newE c F s=0):newW c F s=(((c,newF F s),lastN F+1,s.2.2.1),0,()):=by
 unfold newW;rw[if_pos h]
theorem newW_no {c:Int}{F:List FD}{s:ST}(h:newE c F s≠0):newW c F s=(((0,[]),0,0),newE c F s,()):=by
 unfold newW;rw[if_neg h]
theorem newF_len (F:List FD)(s:ST):(newF F s).length=F.length+1:=by unfold newF;simp
theorem newF_sz {c:Int}{F:List FD}{s:ST}(h:newE c F s=0):SzD (newF F s):=mayD_Sz (newF_may h)
theorem f13_new {s:ST}(M:MayS s)(hS:Settled s):f13 (ints (newR s))=some (s,((newR s).length:Int),true,()):=by
 have hb:∀ c∈newR s,c<256:=recB_lt crcB crcB_lt 1 (by omega) (encS s) (encS_lt s)
 have k:=f13_eq (newR s) hb (by have:=newR_len M;omega)
 have hf:=firstS_put M hS []
 rw[List.append_nil] at hf
 rw[show firstS (newR s)=_ from hf] at k
 exact k
theorem strEq (x:List Int):((bytesStr x).toList == (bytesStr x).toList)=true:=beq_self_eq_true _
theorem same_self (c:Int)(F:List FD)(no now:Int)(h:SzD F):f15 c F no now c F no now=some (true,()):=by
 rw[f15_eq c F no now c F no now h,decide_eq_true rfl]
theorem trimF_two (t:Int)(f g:FD)(q:List FD):trimF t (f::g::q)=cond (goesB t g) (trimF t (g::q)) (f::g::q):=rfl
theorem trimF_len (t:Int):∀ (F:List FD),F≠[]→1≤(trimF t F).length∧(trimF t F).length≤F.length∧trimF t F=F.drop (F.length-(trimF t F).length)
 | [],h=>absurd rfl h
 | [f],_=>⟨Nat.le_refl 1,Nat.le_refl 1,rfl⟩
 | f::g::q,_=>by
  have ih:=trimF_len t (g::q) (by simp)
  rw[trimF_two]
  cases hq:goesB t g with
  | true=>
   simp only[cond_true]
   refine⟨ih.1,by rw[List.length_cons];omega,?_⟩
   rw[show (f::g::q).length-(trimF t (g::q)).length=((g::q).length-(trimF t (g::q)).length)+1 by rw[List.length_cons];omega,List.drop_succ_cons]
   exact ih.2.2
  | false=>
   simp only[cond_false,Nat.sub_self,List.drop_zero]
   exact⟨by simp,Nat.le_refl _,trivial⟩
theorem trimF_idem (t:Int):∀ (F:List FD),trimF t (trimF t F)=trimF t F
 | []=>rfl
 | [f]=>rfl
 | f::g::q=>by
  have ih:=trimF_idem t (g::q)
  cases hq:goesB t g with
  | true=>rw[trimF_two,hq];exact ih
  | false=>rw[trimF_two,hq,cond_false,trimF_two,hq];rfl
theorem goesB_mono {t t':Int}(h:t≤t')(g:FD)(hg:goesB t g=true):goesB t' g=true:=by
 unfold goesB at hg ⊢
 cases hf:firstD g.2.1 with
 | none=>rw[hf] at hg;cases hg
 | some y=>
  rw[hf] at hg
  simp only[decide_eq_true_eq] at hg ⊢
  omega
theorem trimF_mono {t t':Int}(h:t≤t'):∀ (F:List FD),(trimF t' F).length≤(trimF t F).length
 | []=>Nat.le_refl _
 | [f]=>Nat.le_refl _
 | f::g::q=>by
  have ih:=trimF_mono h (g::q)
  rw[trimF_two,trimF_two]
  cases hq:goesB t g with
  | true=>rw[goesB_mono h g hq];exact ih
  | false=>
   cases hq':goesB t' g with
   | true=>
    have:=(trimF_len t' (g::q) (by simp)).2.1
    simp only[cond_true,cond_false,List.length_cons] at this ⊢;omega
   | false=>exact Nat.le_refl _
theorem trimF_head (t:Int):∀ (F:List FD),trimF t F=F∨∃ g q,trimF t F=g::q∧goesB t g=true
 | []=>.inl rfl
 | [f]=>.inl rfl
 | f::g::q=>by
  rw[trimF_two]
  cases hq:goesB t g with
  | false=>exact .inl rfl
  | true=>
   rcases trimF_head t (g::q) with h|⟨g',q',h,h'⟩
   ·exact .inr ⟨g,q,h,hq⟩
   ·exact .inr ⟨g',q',h,h'⟩
theorem mayD_drop {c:Int}:∀ (k:Nat) (F:List FD),mayD c F=true→mayD c (F.drop k)=true
 | 0,F,h=>h
 | k+1,[],h=>h
 | k+1,f::r,h=>mayD_drop k r (mayD_tail h)
theorem lastN_drop (F:List FD)(k:Nat)(h:k<F.length):lastN (F.drop k)=lastN F:=by
 rcases snoc_or F with rfl|⟨G,f,rfl⟩
 ·simp at h
 ·rw[List.length_append,List.length_singleton] at h
  rw[List.drop_append_of_le_length (by omega),lastN_snoc,lastN_snoc]
theorem trim_may {c:Int}{F:List FD}{no now:Int}(t:Int)(h:MayW c F no now):MayW c (trimF t F) no now:=by
 have hne:F≠[]:=fun k=>by have:=h.2.1;rw[k] at this;simp[lastN] at this
 have hl:=trimF_len t F hne
 rw[hl.2.2]
 refine⟨mayD_drop _ _ h.1,?_,?_,h.2.2.2⟩
 ·rw[lastN_drop _ _ (by omega)];exact h.2.1
 ·rw[lastN_drop _ _ (by omega)];exact h.2.2.1
theorem addW_cases {c:Int}{F:List FD}{no now:Int}(l:List ET)(h:MayW c F no now) :
  (∃ e,addW c F no now l=(((c,F),no,now),e,())∧e≠0) ∨
  ∃ G f body now',F=G++[f]∧f.1=no∧addW c F no now l=(((c,G++[(no,f.2.1++ints (addR body),((f.2.1++ints (addR body)).length:Int))]),no,now'),0,()) ∧
   MayW c (G++[(no,f.2.1++ints (addR body),((f.2.1++ints (addR body)).length:Int))]) no now'∧1≤(addR body).length:=by
 unfold addW
 rcases snoc_or l with rfl|⟨K,e,rfl⟩
 ·rw[if_pos (.inr rfl)];exact .inl ⟨1,rfl,by omega⟩
 rw[if_neg (by rintro (k|k);exact k h;simp at k)]
 cases hp:putE now (K++[e]) with
 | none=>exact .inl ⟨1,rfl,by omega⟩
 | some body=>
  simp only
  by_cases h1000:1000<body.length
  ·rw[if_pos h1000];exact .inl ⟨1,rfl,by omega⟩
  rw[if_neg h1000]
  by_cases hr:c-(usedN F:Int)<((addR body).length:Int)
  ·rw[if_pos hr];exact .inl ⟨9,rfl,by omega⟩
  rw[if_neg hr]
  right
  rcases snoc_or F with rfl|⟨G,f,rfl⟩
  ·have:=h.2.1;simp[lastN] at this
  obtain⟨hmD,h0,hno,hnow⟩:=h
  rw[lastN_snoc] at h0 hno
  subst hno
  have hg2:(K++[e]).getLast? = some e:=by rw[List.getLast?_append];rfl
  rw[tailD_snoc,hg2,List.dropLast_concat]
  have hF:=mayD_F hmD
  have hu:(usedN (G++[f]):Int)=(usedN G:Int)+(f.2.1.length:Int):=by rw[usedN_snoc];omega
  have hE:=(putE_some hp).2.1 e (by simp)
  have hE2:=hE.1.1
  unfold rng at hE2
  refine⟨G,f,body,e.2.1,rfl,rfl,rfl,⟨?_,?_,?_,hE2.1,hE2.2⟩,recB_pos _ _ _⟩
  ·exact mayD_last (b:=f.2.1++ints (addR body)) hmD (by omega) (Int.le_refl _) (by rw[List.length_append,ints_len];omega)
  ·rw[lastN_snoc];exact h0
  ·rw[lastN_snoc]
theorem turnW_cases {c:Int}{F:List FD}{no now:Int}(s:ST):(∃ e,turnW c F no now s=(((c,F),no,now),e,()))∨(newE c F s=0∧turnW c F no now s=(((c,newF F s),lastN F+1,s.2.2.1),0,())):=by
 unfold turnW
 by_cases h:MayW c F no now
 ·rw[if_neg (fun k=>k h)]
  by_cases h3:(tailD F).length<300
  ·rw[if_pos h3];exact .inl ⟨0,rfl⟩
  ·rw[if_neg h3]
   by_cases he:newE c F s=0
   ·rw[if_pos he];exact .inr ⟨he,newW_ok he⟩
   ·rw[if_neg he];exact .inl ⟨_,rfl⟩
 ·rw[if_pos h];exact .inl ⟨1,rfl⟩
theorem lenW {n:Nat}(h:n≤maxLen):n≤9223372036854775807:=Nat.le_trans h (by decide)
theorem int64W {t:Int}(h:(Lit.int .i64 t).wf=true):t≤9223372036854775807:=by
 simp only[Lit.wf,Bool.and_eq_true,decide_eq_true_eq] at h
 exact h.2
theorem bytL_of {xs:List Int}(h:∀ y∈xs,(Lit.int .u8 y).wf=true):BytL xs:=by
 have hr:∀ y∈xs,0≤y∧y≤255:=fun y hy=>by
  have:=h y hy
  simp only[Lit.wf,Bool.and_eq_true,decide_eq_true_eq] at this
  exact this
 refine⟨xs.map Int.toNat,?_,fun c hc=>?_⟩
 ·unfold ints
  rw[List.map_map]
  conv=>lhs;rw[← List.map_id xs]
  exact List.map_congr_left fun x hx=>(toNat_cast (hr x hx).1).symm
 ·obtain⟨x,hx,rfl⟩:=List.mem_map.1 hc
  have:=hr x hx
  omega
theorem bytD_of {F:List FD}(h:∀ f∈F,Wf (.pair (.int .i64) (.pair (.row (.int .u8)) (.int .i64))) f):BytD F:=fun f hf=>bytL_of (h f hf).2.1.2
end Go.Proofs.Zz
namespace Go.Proofs.YtadlmipfbockgaaGreat
open Go Go.Sy Go.RowKit Go.Proofs.Zz
set_option linter.unusedVariables false
set_option maxRecDepth 100000
theorem own:ownKnob Tryz.prog.godebug=none:=by kernel_rfl
theorem laidOut:laidOutB Tryz.prog=true:=by kernel_rfl
end Go.Proofs.YtadlmipfbockgaaGreat
