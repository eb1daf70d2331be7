/- P17l, P17m, P17n, P17o, P17p. -/
import Derived.Test.YtjkplgcpgpicnaaGreatPA
import Derived.Test.YtjkplgcpgpicnaaGreatFI
namespace Go.Proofs.Zz
open Go Go.Sy
set_option linter.unusedSimpArgs false
set_option linter.unusedVariables false
abbrev ints (l:List Nat):List Int:=l.map fun n=>((n:Nat):Int)
theorem aC (l:List Nat):(ints l).length=l.length:=List.length_map _
theorem vG (l m:List Nat):ints l++ints m=ints (l++m):=(List.map_append).symm
theorem vm {l:List Nat}{j:Nat}(h:j<(ints l).length):(ints l)[j]=((l[j]'(by rw[aC] at h;exact h):Nat):Int):=List.getElem_map _
theorem Ft {l:List Nat}{j:Nat}(h:j<l.length):rd (.int .i64) (ints l) j=((l[j]:Nat):Int):=by
 rw[ZP (by rw[aC];exact h),vm]
theorem YC {l:List Nat}{j:Nat}(h:j<l.length):rd (.int .u8) (ints l) j=((l[j]:Nat):Int):=by
 rw[rdB (by rw[aC];exact h),vm]
theorem Ll {l m:List Nat}(h:ints l=ints m):l=m:=by
 have:=congrArg (List.map Int.toNat) h
 simpa [ints,List.map_map,Function.comp_def] using this
theorem cI (k:Nat)(l:List Nat):(ints l).drop k=ints (l.drop k):=(List.map_drop).symm
theorem bF (k:Nat)(l:List Nat):(ints l).take k=ints (l.take k):=(List.map_take).symm
theorem Rb (n:Int):f126 n=some (decide (0≤n∧n≤1099511627776),()):=by
 unfold f126
 by_cases h:0≤n<;>simp[h]
theorem JU {c:Nat}(h:c<256):aG .andNot .u8 (c:Int) 128=((c % 128:Nat):Int):=by
 have hall:∀ c:Fin 256,aG .andNot .u8 ((c.val:Nat):Int) 128=((c.val % 128:Nat):Int):=by decide +kernel
 exact hall ⟨c,h⟩
theorem Lo (at':Nat)(b:List Nat)(hb:∀ c∈b,c<256)(h6:b.length≤6){i acc:Nat}(hi:i<b.length)(hacc:acc<2 ^ (7 * i)) :
  IntKind.wrap .i64 (7 * (i:Int))=((7 * i:Nat):Int) ∧
  aG .or .i64 (acc:Int) (IntKind.wrap .i64 (IntKind.wrap .i64 (aG .andNot .u8 ((b[i]:Nat):Int) 128) * ((2:Int) ^ ((min (Int.toNat (IntKind.wrap .i64 (7 * (i:Int)))) 64):Nat))))=((acc+b[i] % 128 * 2 ^ (7 * i):Nat):Int)∧acc+b[i] % 128 * 2 ^ (7 * i)<2 ^ (7 * (i+1)):=by
 have hc:=hb b[i] (List.getElem_mem hi)
 have hw:IntKind.wrap .i64 (7 * (i:Int))=((7 * i:Nat):Int):=by rw[bN (by omega) (by omega)];omega
 have hp:2 ^ (7 * i)≤2 ^ 35:=Nat.pow_le_pow_right (by omega) (by omega)
 have hm:b[i] % 128 * 2 ^ (7 * i)≤127 * 2 ^ (7 * i):=Nat.mul_le_mul_right _ (by omega)
 refine⟨hw,?_,?_⟩
 ·rw[hw,Int.toNat_natCast,Nat.min_eq_left (by omega),JU hc,bN (x:=((b[i] % 128:Nat):Int)) (by omega) (by omega)]
  have e:((b[i] % 128:Nat):Int) * ((2:Int) ^ (7 * i))=((b[i] % 128 * 2 ^ (7 * i):Nat):Int):=by simp
  rw[e,bN (by omega) (by omega),Z9 (by omega) (by omega),Nat.or_comm]
  have:=Nat.two_pow_add_eq_or_of_lt hacc (b[i] % 128)
  rw[Nat.mul_comm] at this
  rw[← this]
  omega
 ·rw[Wn];omega
theorem Kk (at':Nat)(b:List Nat)(hb:∀ c∈b,c<256)(h6:b.length≤6)(hat:at'≤9000000000000000000):∀ (d i acc fuel:Nat),i+d=b.length→d<fuel→acc<2 ^ (7 * i) →
  iter fuel uT ((((at':Nat):Int),((acc:Nat):Int),ints b,((b.length:Nat):Int),((i:Nat):Int),()),(),()) =
   some (match OR i acc (b.drop i) with
    | none=>.inl ((),(),())
    | some (v,k)=>.inr ((((v:Nat):Int),((at'+k:Nat):Int),()),(),()))
 | d,i,acc,0,_,h,_=>by omega
 | 0,i,acc,fuel+1,hi,_,_=>by
  have:i=b.length:=by omega
  subst this
  rw[List.drop_length]
  refine bJ ?_
  simp only[uT,Om,nG,cond_false]
 | d+1,i,acc,fuel+1,hi,hf,hacc=>by
  have hlt:i<b.length:=by omega
  obtain⟨s1,s2,s3⟩:=Lo at' b hb h6 hlt hacc
  have hc:=hb b[i] (List.getElem_mem hlt)
  rw[List.drop_eq_getElem_cons hlt,OR]
  have hu:uT ((((at':Nat):Int),((acc:Nat):Int),ints b,((b.length:Nat):Int),((i:Nat):Int),()),(),()) =
    cond (decide ((128:Int)≤((b[i]:Nat):Int))) (some (R3.next ((((at':Nat):Int),((acc+b[i] % 128 * 2 ^ (7 * i):Nat):Int),ints b,((b.length:Nat):Int),((i+1:Nat):Int),()),(),())))
    (cond (decide (((b[i]:Nat):Int)=0)) (cond (decide ((0:Int)<((i:Nat):Int))) (some (R3.out ((),(),())))
     (cond (!decide ((0:Int)≤((acc+b[i] % 128 * 2 ^ (7 * i):Nat):Int)∧((acc+b[i] % 128 * 2 ^ (7 * i):Nat):Int)≤1099511627776)) (some (R3.out ((),(),()))) (some (R3.ret ((((acc+b[i] % 128 * 2 ^ (7 * i):Nat):Int),((at'+(i+1):Nat):Int),()),(),())))))
     (cond (!decide ((0:Int)≤((acc+b[i] % 128 * 2 ^ (7 * i):Nat):Int)∧((acc+b[i] % 128 * 2 ^ (7 * i):Nat):Int)≤1099511627776)) (some (R3.out ((),(),()))) (some (R3.ret ((((acc+b[i] % 128 * 2 ^ (7 * i):Nat):Int),((at'+(i+1):Nat):Int),()),(),()))))):=by
   have hend:IntKind.wrap .i64 (IntKind.wrap .i64 (((at':Nat):Int)+((i:Nat):Int))+1)=((at'+(i+1):Nat):Int):=by
    rw[bN (x:=((at':Nat):Int)+((i:Nat):Int)) (by omega) (by omega),bN (by omega) (by omega)];omega
   have hneg:decide (((7 * i:Nat):Int)<0)=false:=decide_eq_false (by omega)
   rw[s1,Int.toNat_natCast] at s2
   simp only[uT,Om,eO hlt,aC,fe,cond_true,Bool.and_self,Int.toNat_natCast,YC hlt,s1,hneg,Bool.not_false,s2,Rb,Option.bind_some,nx hlt (show b.length≤9223372036854775807 by omega),hend]
  rw[iter,hu]
  by_cases h128:128≤b[i]
  ·rw[decide_eq_true (show (128:Int)≤((b[i]:Nat):Int) by omega),if_pos h128]
   simp only[cond_true]
   rw[Kk at' b hb h6 hat d (i+1) _ fuel (by omega) (by omega) s3,show b[i] % 128=b[i]-128 by omega]
  ·rw[decide_eq_false (show ¬ (128:Int)≤((b[i]:Nat):Int) by omega),if_neg h128,show b[i] % 128=b[i] by omega]
   simp only[cond_false]
   have fin:cond (!decide ((0:Int)≤((acc+b[i] * 2 ^ (7 * i):Nat):Int)∧((acc+b[i] * 2 ^ (7 * i):Nat):Int)≤1099511627776)) (some (R3.out ((),(),()):R3 HY N0 OH)) (some (R3.ret ((((acc+b[i] * 2 ^ (7 * i):Nat):Int),((at'+(i+1):Nat):Int),()),(),()))) =
     if 1099511627776<acc+b[i] * 2 ^ (7 * i) then some (R3.out ((),(),())) else some (R3.ret ((((acc+b[i] * 2 ^ (7 * i):Nat):Int),((at'+(i+1):Nat):Int),()),(),())):=by
    by_cases h:1099511627776<acc+b[i] * 2 ^ (7 * i)
    ·rw[if_pos h,decide_eq_false (by omega)];rfl
    ·rw[if_neg h,decide_eq_true (by omega)];rfl
   by_cases h0:b[i]=0
   ·rw[decide_eq_true (show ((b[i]:Nat):Int)=0 by omega)]
    by_cases hi0:0<i
    ·rw[decide_eq_true (show (0:Int)<((i:Nat):Int) by omega),if_pos ⟨h0,hi0⟩];rfl
    ·rw[decide_eq_false (show ¬ (0:Int)<((i:Nat):Int) by omega),if_neg (fun k=>hi0 k.2)]
     simp only[cond_true,cond_false]
     rw[fin]
     by_cases hm:1099511627776<acc+b[i] * 2 ^ (7 * i)
     ·rw[if_pos hm,if_pos hm]
     ·rw[if_neg hm,if_neg hm]
   ·rw[decide_eq_false (show ¬ ((b[i]:Nat):Int)=0 by omega),if_neg (fun k=>h0 k.1)]
    simp only[cond_false]
    rw[fin]
    by_cases hm:1099511627776<acc+b[i] * 2 ^ (7 * i)
    ·rw[if_pos hm,if_pos hm]
    ·rw[if_neg hm,if_neg hm]
theorem vw (b:List Nat)(hb:∀ c∈b,c<256)(hl:b.length≤1000000000)(at':Nat)(hat:at'≤b.length) :
  f88 (ints b) (at':Int)=some (match qp (b.drop at') with
   | none=>(0,-1,())
   | some (v,k)=>(((v:Nat):Int),((at'+k:Nat):Int),())):=by
 have hm:(cond (decide ((IntKind.wrap .i64 (((b.length:Nat):Int)-(at':Int)))<6)) (IntKind.wrap .i64 (((b.length:Nat):Int)-(at':Int))) 6)=((min (b.length-at') 6:Nat):Int):=by
  rw[bN (by omega) (by omega)]
  by_cases h:b.length-at'<6
  ·rw[decide_eq_true (by omega)];show _=_;simp only[cond_true];omega
  ·rw[decide_eq_false (by omega)];show _=_;simp only[cond_false];omega
 have he:(cond (decide ((IntKind.wrap .i64 ((at':Int)+((min (b.length-at') 6:Nat):Int)))<((b.length:Nat):Int))) (IntKind.wrap .i64 ((at':Int)+((min (b.length-at') 6:Nat):Int))) ((b.length:Nat):Int))=((at'+min (b.length-at') 6:Nat):Int):=by
  rw[bN (by omega) (by omega)]
  by_cases h:at'+min (b.length-at') 6<b.length
  ·rw[decide_eq_true (by omega)];simp only[cond_true];omega
  ·rw[decide_eq_false (by omega)];simp only[cond_false];omega
 have hsl:List.drop at' (List.take (at'+min (b.length-at') 6) (ints b))=ints ((b.drop at').take 6):=by
  rw[bF,cI,List.drop_take]
  congr 1
  rw[Nat.add_sub_cancel_left,List.take_eq_take_iff,List.length_drop]
  omega
 unfold f88 qp sS
 rw[aC,decide_eq_false (show ¬ (at':Int)<0 by omega),decide_eq_false (show ¬ ((b.length:Nat):Int)<(at':Int) by omega)]
 simp only[cond_false,hm,he,Int.toNat_natCast]
 rw[fe,bh (show at'≤at'+min (b.length-at') 6 by omega),bh (show at'+min (b.length-at') 6≤b.length by omega)]
 simp only[Bool.and_self,cond_true,hsl,aC]
 have hlp:=Kk at' ((b.drop at').take 6) (fun c hc=>hb c (List.mem_of_mem_drop (List.mem_of_mem_take hc))) (by rw[List.length_take];omega) (by omega) ((b.drop at').take 6).length 0 0 aA (by omega) (by rw[List.length_take];unfold aA;omega) (by simp)
 rw[List.drop_zero] at hlp
 have hlp':iter aA uT ((((at':Nat):Int),0,ints ((b.drop at').take 6),((((b.drop at').take 6).length:Nat):Int),0,()),(),())=_:=hlp
 rw[hlp']
 cases OR 0 0 ((b.drop at').take 6) with
 | none=>rfl
 | some p=>obtain⟨v,k⟩:=p;rfl
abbrev Dp (b:List Nat)(at':Nat)(is:Bool)(out:List Nat):iG:=(((),(),((at':Nat):Int),()),(((),()),(is,()),(ints b,()),((),(),(),(),(),(),(),(),(),(),(),(),(),(),(),(),(),(),(),(),(),(),(),(),(),(),()),()),ints out,())
abbrev T6 (b:List Nat)(is:Bool)(out:List Nat):mL:=((),(((),()),(is,()),(ints b,()),((),(),(),(),(),(),(),(),(),(),(),(),(),(),(),(),(),(),(),(),(),(),(),(),(),(),()),()),ints out,())
abbrev Ur (b:List Nat)(is:Bool)(out:List Nat):mE:=((),(((),()),(is,()),(ints b,()),((),(),(),(),(),(),(),(),(),(),(),(),(),(),(),(),(),(),(),(),(),(),(),(),(),(),()),()),ints out,())
theorem Vl (b:List Nat)(hb:∀ c∈b,c<256)(hl:b.length≤1000000000):∀ (k at' fuel:Nat) (out:List Nat),out.length+k=400→at'≤b.length→k+1≤fuel →
  ∃ r,iter fuel bL (Dp b at' true out)=some r∧(match tf k (b.drop at') with
   | some ms=>r = .inl (T6 b true (out++ms))
   | none=>∃ o,r = .inr (Ur b false o)):=by
 intro k
 induction k with
 | zero=>
  intro at' fuel out hk hat hf
  obtain⟨fuel,rfl⟩:∃ g,fuel=g+1:=⟨fuel-1,by omega⟩
  by_cases hlt:at'<b.length
  ·obtain⟨c,l,e⟩:∃ c l,b.drop at'=c::l:=by
    match h:b.drop at' with
    | []=>have:=congrArg List.length h;rw[List.length_drop] at this;simp at this;omega
    | c::l=>exact⟨c,l,rfl⟩
   rw[e]
   refine⟨.inr (Ur b false out),eP ?_,⟨out,rfl⟩⟩
   simp only[Dp,bL,dX,aC,eO hlt,cond_true,vw b hb hl at' hat,Option.bind_some]
   cases qp (b.drop at') with
   | none=>rfl
   | some p=>
    obtain⟨v,m⟩:=p
    simp only
    rw[decide_eq_false (show ¬ ((at'+m:Nat):Int) = -1 by omega),decide_eq_true (show ((out.length:Nat):Int)=400 by omega)]
    rfl
  ·have:at'=b.length:=by omega
   subst this
   rw[List.drop_length]
   refine⟨.inl (T6 b true out),bJ ?_,by simp[tf]⟩
   simp only[Dp,bL,dX,aC,nG,cond_false]
 | succ k ih=>
  intro at' fuel out hk hat hf
  obtain⟨fuel,rfl⟩:∃ g,fuel=g+1:=⟨fuel-1,by omega⟩
  by_cases hlt:at'<b.length
  ·obtain⟨c,l,e⟩:∃ c l,b.drop at'=c::l:=by
    match h:b.drop at' with
    | []=>have:=congrArg List.length h;rw[List.length_drop] at this;simp at this;omega
    | c::l=>exact⟨c,l,rfl⟩
   rw[e,tf,← e]
   have hb':∀ c∈b.drop at',c<256:=fun c hc=>hb c (List.mem_of_mem_drop hc)
   cases hg:qp (b.drop at') with
   | none=>
    refine⟨.inr (Ur b false out),eP ?_,⟨out,rfl⟩⟩
    simp only[Dp,bL,dX,aC,eO hlt,cond_true,vw b hb hl at' hat,Option.bind_some,hg]
    rfl
   | some p=>
    obtain⟨v,m⟩:=p
    obtain⟨g1,g2,g3⟩:=j7 hb' hg
    have hml:at'+m≤b.length:=by
     have:=congrArg List.length g3
     rw[List.length_append,List.length_drop,List.length_drop,List.length_drop] at this
     have:=Lv v
     omega
    obtain⟨r,h1,h2⟩:=ih (at'+m) fuel (out++[v]) (by rw[List.length_append,List.length_singleton];omega) hml (by omega)
    have hn:bL (Dp b at' true out)=some (.next (Dp b (at'+m) true (out++[v]))):=by
     simp only[Dp,bL,dX,aC,eO hlt,cond_true,vw b hb hl at' hat,Option.bind_some,hg]
     rw[decide_eq_false (show ¬ ((at'+m:Nat):Int) = -1 by omega),decide_eq_false (show ¬ ((out.length:Nat):Int)=400 by omega),decide_eq_true (show (out.length+1) * 8≤140737488355328 by omega),decide_eq_true (show out.length+1≤9223372036854775807 by omega)]
     simp only[cond_false,Bool.and_self,cond_true]
     rw[show [((v:Nat):Int)]=ints [v] from rfl,vG]
    refine⟨r,by rw[br hn];exact h1,?_⟩
    simp only[List.drop_drop]
    cases hv:tf k (b.drop (at'+m)) with
    | none=>rw[hv] at h2;exact h2
    | some ms=>
     rw[hv] at h2
     simp only[Option.map_some]
     rw[h2,List.append_assoc];rfl
  ·have:at'=b.length:=by omega
   subst this
   rw[List.drop_length]
   refine⟨.inl (T6 b true out),bJ ?_,by simp[tf]⟩
   simp only[Dp,bL,dX,aC,nG,cond_false]
theorem zD (b:List Nat)(hb:∀ c∈b,c<256)(hl:b.length≤1000000000):f91 (ints b)=some (match tf 400 b with
  | some ms=>(ints ms,true,())
  | none=>([],false,())):=by
 obtain⟨r,h1,h2⟩:=Vl b hb hl 400 0 aA [] (by simp) (by omega) (by unfold aA;omega)
 rw[List.drop_zero] at h2
 unfold f91
 have h1':iter aA bL (((),(),0,()),(((),()),(true,()),(ints b,()),((),(),(),(),(),(),(),(),(),(),(),(),(),(),(),(),(),(),(),(),(),(),(),(),(),(),()),()),[],())=some r:=h1
 rw[h1']
 cases hv:tf 400 b with
 | none=>
  rw[hv] at h2
  obtain⟨o,rfl⟩:=h2
  rfl
 | some ms=>
  rw[hv] at h2
  subst h2
  rfl
theorem Ic (n:Int):f136 n=some (decide (0≤n∧n<274877906944),()):=by
 unfold f136
 by_cases h:0≤n<;>simp[h]
theorem HH (k:Nat)(h:k≤549755813888):f135 (k:Int)=some (qA k,()):=by
 unfold f135
 rw[decide_eq_false (show ¬ (k:Int)<0 by omega),decide_eq_false (show ¬ (549755813888:Int)<(k:Int) by omega)]
 simp only[cond_false]
 have hfd:Int.fdiv (k:Int) 2=((k / 2:Nat):Int):=by rw[Int.fdiv_eq_ediv_of_nonneg _ (by omega)];rfl
 have ha:aG .and .i64 (k:Int) 1=((k % 2:Nat):Int):=by
  have:=Tg (a:=k) (b:=1) (by omega) (by omega)
  rw[show ((1:Nat):Int)=1 from rfl] at this
  rw[this,Nat.and_one_is_mod]
 rw[hfd,ha,bN (by omega) (by omega)]
 unfold qA
 by_cases h2:k % 2=0
 ·rw[if_pos h2,h2]
  have:=Tm (a:=k / 2) (b:=0) (by omega) (by omega)
  rw[show ((0:Nat):Int)=0 from rfl] at this
  rw[show (0:Int)-((0:Nat):Int)=0 from rfl,this,Nat.xor_zero]
 ·rw[if_neg h2,show k % 2=1 by omega]
  have e:aG .xor .i64 ((k / 2:Nat):Int) (0-((1:Nat):Int)) = -((k / 2:Nat):Int)-1:=by
   show IntKind.wrap .i64 (((BitVec.ofInt 64 ((k / 2:Nat):Int)) ^^^ (BitVec.ofInt 64 (0-((1:Nat):Int)))).toNat:Int)=_
   have e1:BitVec.ofInt 64 (0-((1:Nat):Int))=BitVec.allOnes 64:=by decide
   rw[e1,BitVec.xor_allOnes,BitVec.toNat_not,cV (by omega),IntKind.wrap_i64]
   omega
  rw[e]
theorem UJ (ks:List Nat)(hl:ks.length≤400):∀ (d j fuel:Nat) (a:Int) (out:List Nat),j+d=ks.length→d<fuel→out.length=j→0≤a→a<274877906944 →
  ∃ r,iter fuel qz ((ints ks,(),(),((ks.length:Nat):Int),((j:Nat):Int),()),((a,()),()),ints out,())=some r∧(match kQ a (ks.drop j) with
   | some xs=>r = .inl ((),(),ints (out++xs),())
   | none=>r = .inr ((false,()),(),[],())):=by
 intro d
 induction d with
 | zero=>
  intro j fuel a out hj hf ho h0 h1
  obtain⟨fuel,rfl⟩:∃ g,fuel=g+1:=⟨fuel-1,by omega⟩
  have:j=ks.length:=by omega
  subst this
  rw[List.drop_length]
  refine⟨_,bJ (y:=((),(),ints out,())) ?_,by simp[kQ]⟩
  simp only[qz,G1,nG,cond_false]
 | succ d ih=>
  intro j fuel a out hj hf ho h0 h1
  obtain⟨fuel,rfl⟩:∃ g,fuel=g+1:=⟨fuel-1,by omega⟩
  have hlt:j<ks.length:=by omega
  rw[List.drop_eq_getElem_cons hlt,kQ]
  have bad:∀ (hb:¬ (ks[j]≤549755813888∧0≤a+qA ks[j]∧a+qA ks[j]<274877906944)),qz ((ints ks,(),(),((ks.length:Nat):Int),((j:Nat):Int),()),((a,()),()),ints out,())=some (.ret ((false,()),(),[],())):=by
   intro hb
   simp only[qz,G1,eO hlt,aC,fe,cond_true,Bool.and_self,Int.toNat_natCast,Ft hlt]
   by_cases hk:ks[j]≤549755813888
   ·have hz : -274877906945≤qA ks[j]∧qA ks[j]≤274877906944:=by unfold qA;split<;>omega
    rw[HH _ hk,decide_eq_true (show ((ks[j]:Nat):Int)≤549755813888 by omega)]
    simp only[Option.bind_some,cond_true]
    rw[bN (x:=a+qA ks[j]) (by omega) (by omega),Ic,decide_eq_false (fun h=>hb ⟨hk,h.1,h.2⟩)]
    rfl
   ·have:f135 ((ks[j]:Nat):Int)=some (0,()):=by
     unfold f135
     rw[decide_eq_false (show ¬ ((ks[j]:Nat):Int)<0 by omega),decide_eq_true (show (549755813888:Int)<((ks[j]:Nat):Int) by omega)];rfl
    rw[this,decide_eq_false (show ¬ ((ks[j]:Nat):Int)≤549755813888 by omega)]
    rfl
  by_cases hc:ks[j]≤549755813888∧0≤a+qA ks[j]∧a+qA ks[j]<274877906944
  ·rw[if_pos hc]
   obtain⟨r,k1,k2⟩:=ih (j+1) fuel (a+qA ks[j]) (out++[(a+qA ks[j]).toNat]) (by omega) (by omega) (by rw[List.length_append,ho];rfl) hc.2.1 hc.2.2
   have hn:qz ((ints ks,(),(),((ks.length:Nat):Int),((j:Nat):Int),()),((a,()),()),ints out,())=some (.next ((ints ks,(),(),((ks.length:Nat):Int),((j+1:Nat):Int),()),((a+qA ks[j],()),()),ints (out++[(a+qA ks[j]).toNat]),())):=by
    simp only[qz,G1,eO hlt,aC,fe,cond_true,Bool.and_self,Int.toNat_natCast,Ft hlt,HH _ hc.1,Option.bind_some,nx hlt (show ks.length≤9223372036854775807 by omega)]
    rw[decide_eq_true (show ((ks[j]:Nat):Int)≤549755813888 by have:=hc.1;omega),bN (x:=a+qA ks[j]) (by omega) (by omega),Ic,decide_eq_true hc.2,decide_eq_true (show (out.length+1) * 8≤140737488355328 by omega),decide_eq_true (show out.length+1≤9223372036854775807 by omega)]
    simp only[Option.bind_some,Bool.not_true,cond_false,cond_true,Bool.and_self]
    rw[show [a+qA ks[j]]=ints [(a+qA ks[j]).toNat] by simp[ints];omega,vG]
   refine⟨r,by rw[br hn];exact k1,?_⟩
   cases hv:kQ (a+qA ks[j]) (ks.drop (j+1)) with
   | none=>rw[hv] at k2;exact k2
   | some xs=>
    rw[hv] at k2
    simp only[Option.map_some]
    rw[k2,List.append_assoc];rfl
  ·rw[if_neg hc]
   exact⟨_,eP (bad hc),rfl⟩
theorem Uv (b:List Nat)(hb:∀ c∈b,c<256)(hl:b.length≤1000000000):f94 (ints b)=some (match (tf 400 b).bind (kQ 0) with
  | some xs=>(ints xs,true,())
  | none=>([],false,())):=by
 unfold f94
 rw[zD b hb hl]
 cases hv:tf 400 b with
 | none=>rfl
 | some ks=>
  obtain⟨g1,_,_⟩:=nZ 400 b ks hb hv
  simp only[Option.bind_some,Bool.not_true,cond_false,aC]
  obtain⟨r,h1,h2⟩:=UJ ks g1 ks.length 0 aA 0 [] (by omega) (by unfold aA;omega) rfl (by omega) (by omega)
  rw[List.drop_zero] at h2
  have h1':iter aA qz ((ints ks,(),(),((ks.length:Nat):Int),0,()),((0,()),()),[],())=some r:=h1
  rw[h1']
  cases hs:kQ 0 ks with
  | none=>rw[hs] at h2;subst h2;rfl
  | some xs=>rw[hs] at h2;subst h2;rfl
theorem QG (n w:Nat)(hn:n≤400)(hw:w≤32):f133 (n:Int) (w:Int)=some (((mg n w:Nat):Int),()):=by
 unfold f133 mg
 have hm:n * w≤400 * 32:=Nat.mul_le_mul hn hw
 rw[decide_eq_false (show ¬ (n:Int)<0 by omega),decide_eq_false (show ¬ (400:Int)<(n:Int) by omega),decide_eq_false (show ¬ (w:Int)<0 by omega),decide_eq_false (show ¬ (32:Int)<(w:Int) by omega)]
 simp only[cond_false]
 have e:(n:Int) * (w:Int)=((n * w:Nat):Int):=by simp
 rw[e,bN (x:=((n * w:Nat):Int)) (by omega) (by omega),bN (x:=((n * w:Nat):Int)+8) (by omega) (by omega),bN (x:=((n * w:Nat):Int)+8-1) (by omega) (by omega),Int.tdiv_eq_ediv_of_nonneg (by omega),bN (by omega) (by omega)]
 congr 2
 omega
theorem IA {n:Nat}(h:n<2 ^ 64):IntKind.wrap .u64 (n:Int)=(n:Int):=by rw[IntKind.wrap_u64];omega
theorem Xj {a b:Nat}(ha:a<2 ^ 64)(hb:b<2 ^ 64):aG .or .u64 (a:Int) (b:Int)=((a ||| b:Nat):Int):=by
 show IntKind.wrap .u64 ((BitVec.ofInt 64 (a:Int) ||| BitVec.ofInt 64 (b:Int)).toNat:Int)=_
 rw[BitVec.toNat_or,cV ha,cV hb,IA (Nat.or_lt_two_pow ha hb)]
theorem UF {a b:Nat}(ha:a<2 ^ 64)(hb:b<2 ^ 64):aG .and .u64 (a:Int) (b:Int)=((a &&& b:Nat):Int):=by
 show IntKind.wrap .u64 ((BitVec.ofInt 64 (a:Int) &&& BitVec.ofInt 64 (b:Int)).toNat:Int)=_
 rw[BitVec.toNat_and,cV ha,cV hb,IA (Nat.lt_of_le_of_lt Nat.and_le_left ha)]
theorem Lr {left h n:Nat}(hl:left<2 ^ h)(hh:h≤30)(hn:n<2 ^ 20) :
  aG .or .u64 (left:Int) (IntKind.wrap .u64 ((IntKind.wrap .u64 (n:Int)) * ((2:Int) ^ ((min (Int.toNat (h:Int)) 64):Nat))))=((left+n * 2 ^ h:Nat):Int)∧left+n * 2 ^ h<2 ^ 51:=by
 have hp:2 ^ h≤2 ^ 30:=Nat.pow_le_pow_right (by omega) hh
 have hm:n * 2 ^ h≤(2 ^ 20-1) * 2 ^ 30:=Nat.mul_le_mul (by omega) hp
 rw[Int.toNat_natCast,Nat.min_eq_left (by omega),IA (by omega)]
 have e:(n:Int) * ((2:Int) ^ h)=((n * 2 ^ h:Nat):Int):=by simp
 rw[e,IA (by omega),Xj (by omega) (by omega),Nat.or_comm]
 have:=Nat.two_pow_add_eq_or_of_lt hl n
 rw[Nat.mul_comm] at this
 rw[← this]
 omega
theorem fill (w:Nat)(hw1:1≤w)(hw:w≤20)(n i:Int):∀ (fuel h left:Nat) (b:List Nat) (out:List Int),(∀ c∈b,c<256)→h<w+8→left<2 ^ h→w≤h+8 * b.length→0<fuel∧w+1≤h+fuel→out.length≤1000 →
  ∃ b' h' left',iter fuel DD ((ints b,((w:Nat):Int),((left:Nat):Int),((h:Nat):Int),n,i,()),(),out,()) =
    some (.inl ((ints b',((w:Nat):Int),((left' / 2 ^ w:Nat):Int),((h'-w:Nat):Int),n,i,()),(),out++[((left' % 2 ^ w:Nat):Int)],())) ∧
   (∀ c∈b',c<256)∧left'+2 ^ h' * l9 b'=left+2 ^ h * l9 b∧w≤h'∧h'<w+8∧left'<2 ^ h'∧h'+8 * b'.length=h+8 * b.length:=by
 intro fuel
 induction fuel with
 | zero=>
  intro h left b out hb hh hl hlen hf ho
  omega
 | succ fuel ih=>
  intro h left b out hb hh hl hlen hf ho
  by_cases hc:h<w
  ·match b,hb,hlen with
   | [],_,hlen=>simp at hlen;omega
   | c::r,hb,hlen=>
    have hc256:=hb c (by simp)
    obtain⟨o1,o2⟩:=Lr hl (by omega) (show c<2 ^ 20 by omega)
    have hl2:left+c * 2 ^ h<2 ^ (h+8):=by
     rw[Nat.pow_add]
     have:2 ^ h * (c+1)≤2 ^ h * 256:=Nat.mul_le_mul_left _ hc256
     rw[Nat.mul_add,Nat.mul_one,Nat.mul_comm (2 ^ h) c] at this
     have e8:2 ^ 8=256:=rfl
     rw[e8]
     omega
    obtain⟨b',h',left',k1,k2,k3,k4,k5,k6,k7⟩:=ih (h+8) (left+c * 2 ^ h) r out (fun x hx=>hb x (by simp[hx])) (by omega) hl2 (by rw[List.length_cons] at hlen;omega) (by omega) ho
    refine⟨b',h',left',?_,k2,?_,k4,k5,k6,by rw[k7,List.length_cons];omega⟩
    ·rw[br (x':=((ints r,((w:Nat):Int),((left+c * 2 ^ h:Nat):Int),((h+8:Nat):Int),n,i,()),(),out,()))]
     ·exact k1
     ·have hr0:rd (.int .u8) (ints (c::r)) 0=((c:Nat):Int):=YC (l:=c::r) (j:=0) (by simp)
      simp only[DD,NT,aC,List.length_cons]
      rw[decide_eq_true (show ((h:Nat):Int)<((w:Nat):Int) by omega),decide_eq_true (show (0:Int)<((r.length+1:Nat):Int) by omega),decide_eq_false (show ¬ ((h:Nat):Int)<0 by omega),decide_eq_true (show (1:Int)≤((r.length+1:Nat):Int) by omega),bh (Nat.le_refl (r.length+1)),hr0,o1,bN (by omega) (by omega)]
      simp only[cond_true,Bool.not_false,Bool.and_self,Int.toNat_natCast]
      rw[List.take_of_length_le (by rw[aC,List.length_cons];exact Nat.le_refl _)]
      rfl
    ·rw[k3,l9,Nat.pow_add,Nat.mul_add]
     have e8:2 ^ 8=256:=rfl
     rw[e8,Nat.mul_assoc,Nat.mul_comm c (2 ^ h)]
     omega
  ·refine⟨b,h,left,bJ ?_,hb,rfl,by omega,hh,hl,rfl⟩
   have hp:2 ^ h≤2 ^ 28:=Nat.pow_le_pow_right (by omega) (by omega)
   have hpw:1≤2 ^ w:=Nat.one_le_two_pow
   have hpw2:2 ^ w≤2 ^ 20:=Nat.pow_le_pow_right (by omega) hw
   have e1:(1:Int) * ((2:Int) ^ w)=((2 ^ w:Nat):Int):=by simp
   have e2:IntKind.wrap .u64 (((2 ^ w:Nat):Int)-1)=((2 ^ w-1:Nat):Int):=by
    rw[show ((2 ^ w:Nat):Int)-1=((2 ^ w-1:Nat):Int) by omega,IA (by omega)]
   have hm:left % 2 ^ w<2 ^ w:=Nat.mod_lt _ (Nat.two_pow_pos w)
   simp only[DD,NT]
   rw[decide_eq_false (show ¬ ((h:Nat):Int)<((w:Nat):Int) by omega),decide_eq_false (show ¬ ((w:Nat):Int)<0 by omega),decide_eq_true (show (out.length+1) * 8≤140737488355328 by omega),decide_eq_true (show out.length+1≤9223372036854775807 by omega)]
   simp only[cond_true,cond_false,Bool.not_false,Bool.and_self,Int.toNat_natCast,Nat.min_eq_left (show w≤64 by omega)]
   rw[e1,IA (n:=2 ^ w) (by omega),e2,UF (by omega) (by omega),Nat.and_two_pow_sub_one_eq_mod,fdiv_pow,bN (x:=((left % 2 ^ w:Nat):Int)) (by omega) (by omega),bN (x:=((h:Nat):Int)-((w:Nat):Int)) (by omega) (by omega),show ((h:Nat):Int)-((w:Nat):Int)=((h-w:Nat):Int) by omega]
theorem VN (w n:Nat)(hw1:1≤w)(hw:w≤20)(hn:n≤400):∀ (d i fuel h left t:Nat) (b:List Nat) (out:List Nat),i+d=n→d<fuel→(∀ c∈b,c<256)→h<8→left<2 ^ h→left+2 ^ h * l9 b=t→w * d≤h+8 * b.length→h+8 * b.length<w * d+8→out.length=i →
  iter fuel xN ((ints b,((w:Nat):Int),((left:Nat):Int),((h:Nat):Int),((n:Nat):Int),((i:Nat):Int),()),(),ints out,())=some (.inl ((((t / 2 ^ (w * d):Nat):Int),()),(),ints (out++JW w d t),())):=by
 intro d
 induction d with
 | zero=>
  intro i fuel h left t b out hi hf hb h8 hl ht h1 h2 ho
  obtain⟨fuel,rfl⟩:∃ g,fuel=g+1:=⟨fuel-1,by omega⟩
  have:i=n:=by omega
  subst this
  have hb0:b=[]:=by
   match b with
   | []=>rfl
   | c::r=>simp at h2;omega
  subst hb0
  simp only[l9,Nat.mul_zero,Nat.add_zero] at ht
  subst ht
  refine bJ ?_
  simp only[xN,LA,nG,cond_false,Nat.mul_zero,Nat.pow_zero,Nat.div_one,JW,List.append_nil]
 | succ d ih=>
  intro i fuel h left t b out hi hf hb h8 hl ht h1 h2 ho
  obtain⟨fuel,rfl⟩:∃ g,fuel=g+1:=⟨fuel-1,by omega⟩
  have hil:i<n:=by omega
  have hwd:w * (d+1)=w * d+w:=by rw[Nat.mul_add,Nat.mul_one]
  obtain⟨b',h',left',k1,k2,k3,k4,k5,k6,k7⟩:=fill w hw1 hw ((n:Nat):Int) ((i:Nat):Int) aA h left b (ints out) hb (by omega) hl (by omega) (by unfold aA;omega) (by rw[aC];omega)
  have e1:left' % 2 ^ w=t % 2 ^ w:=by
   rw[← ht,← k3,show 2 ^ h'=2 ^ w * 2 ^ (h'-w) by rw[← Nat.pow_add];congr 1;omega,Nat.mul_assoc,Nat.add_mul_mod_self_left]
  have e2:left' / 2 ^ w+2 ^ (h'-w) * l9 b'=t / 2 ^ w:=by
   rw[← ht,← k3,show 2 ^ h'=2 ^ w * 2 ^ (h'-w) by rw[← Nat.pow_add];congr 1;omega,Nat.mul_assoc,Nat.add_mul_div_left _ _ (Nat.two_pow_pos w)]
  have:=ih (i+1) fuel (h'-w) (left' / 2 ^ w) (t / 2 ^ w) b' (out++[left' % 2 ^ w]) (by omega) (by omega) k2 (by omega) (Nat.div_lt_of_lt_mul (by rw[← Nat.pow_add,show w+(h'-w)=h' by omega];exact k6)) e2 (by omega) (by omega) (by rw[List.length_append,ho];rfl)
  rw[br (x':=((ints b',((w:Nat):Int),((left' / 2 ^ w:Nat):Int),((h'-w:Nat):Int),((n:Nat):Int),((i+1:Nat):Int),()),(),ints (out++[left' % 2 ^ w]),()))]
  ·rw[this,Nat.div_div_eq_div_mul,← Nat.pow_add,show w+w * d=w * (d+1) by omega,List.append_assoc,e1,JW]
   rfl
  ·simp only[xN,LA,eO hil,cond_true]
   rw[k1]
   simp only[Option.bind_some,nx hil (show n≤9223372036854775807 by omega)]
   rw[show [((left' % 2 ^ w:Nat):Int)]=ints [left' % 2 ^ w] from rfl,vG]
theorem WD (b:List Nat)(hb:∀ c∈b,c<256)(n w:Nat)(hw1:1≤w)(hw:w≤20):f93 (ints b) (n:Int) (w:Int)=some (if n≤400 then (match mO w n b with
  | some l=>(ints l,true,())
  | none=>([],false,())) else ([],false,())):=by
 unfold f93
 by_cases hn:n≤400
 case neg=>
  rw[if_neg hn]
  have:f133 (n:Int) (w:Int)=some (-1,()):=by
   unfold f133
   rw[decide_eq_false (show ¬ (n:Int)<0 by omega),decide_eq_true (show (400:Int)<(n:Int) by omega)];rfl
  rw[this,aC]
  simp only[Option.bind_some]
  rw[decide_eq_false (show ¬ (-1:Int)=((b.length:Nat):Int) by omega)];rfl
 rw[if_pos hn,QG n w hn (by omega),aC]
 simp only[Option.bind_some]
 unfold mO
 by_cases hs:mg n w=b.length
 case neg=>
  rw[decide_eq_false (show ¬ ((mg n w:Nat):Int)=((b.length:Nat):Int) by omega),if_neg (fun h=>hs h.1.symm)];rfl
 rw[decide_eq_true (show ((mg n w:Nat):Int)=((b.length:Nat):Int) by omega)]
 simp only[Bool.not_true,cond_false]
 have hsz:w * n≤8 * b.length∧8 * b.length<w * n+8:=by
  rw[← hs]
  unfold mg
  rw[Nat.mul_comm w]
  omega
 have hlp:=VN w n hw1 hw hn n 0 aA 0 0 (l9 b) b [] (by omega) (by unfold aA;omega) hb (by omega) (by simp) (by simp) (by omega) (by omega) rfl
 have hlp':iter aA xN ((ints b,((w:Nat):Int),0,0,((n:Nat):Int),0,()),(),[],())=_:=hlp
 rw[hlp']
 simp only[Option.bind_some,List.nil_append]
 by_cases hv:l9 b<2 ^ (w * n)
 ·rw[if_pos ⟨hs.symm,hv⟩,Nat.div_eq_of_lt hv];rfl
 ·rw[if_neg (fun h=>hv h.2)]
  have:1≤l9 b / 2 ^ (w * n):=(Nat.le_div_iff_mul_le (Nat.two_pow_pos _)).2 (by omega)
  rw[decide_eq_false (show ¬ ((l9 b / 2 ^ (w * n):Nat):Int)=0 by omega)];rfl
section
variable {s:ST}
end
set_option maxRecDepth 100000
noncomputable def vL {R:Type}(b:List Int)(KF:Option R)(K:List Int→List Int→Option R):Option R:=
 (f88 b 0).bind fun y=>cond (decide (y.2.1=(-1))) KF (cond (decide ((IntKind.wrap .i64 (((b.length:Nat):Int)-y.2.1))<y.1)) KF
  (cond ((((decide (0≤y.2.1))&&(decide (y.2.1≤(IntKind.wrap .i64 (y.2.1+y.1)))))&&(decide ((IntKind.wrap .i64 (y.2.1+y.1))≤(IntKind.wrap .i64 (y.2.1+y.1)))))&&(decide ((IntKind.wrap .i64 (y.2.1+y.1))≤((b.length:Nat):Int))))
   (cond (((decide (0≤(IntKind.wrap .i64 (y.2.1+y.1))))&&(decide ((IntKind.wrap .i64 (y.2.1+y.1))≤((b.length:Nat):Int))))&&(decide (((b.length:Nat):Int)≤((b.length:Nat):Int))))
    (K (List.drop (Int.toNat y.2.1) (List.take (Int.toNat (IntKind.wrap .i64 (y.2.1+y.1))) b)) (List.drop (Int.toNat (IntKind.wrap .i64 (y.2.1+y.1))) (List.take (Int.toNat ((b.length:Nat):Int)) b))) none) none))
theorem mH {R:Type}(b:List Nat)(hb:∀ c∈b,c<256)(hl:b.length≤1000000000)(KF:Option R)(K:List Int→List Int→Option R) :
  vL (ints b) KF K=match gB b with
   | none=>KF
   | some (p,r)=>K (ints p) (ints r):=by
 unfold vL gB
 have h97:=vw b hb hl 0 (by omega)
 rw[List.drop_zero,show ((0:Nat):Int)=0 from rfl] at h97
 rw[h97]
 cases hg:qp b with
 | none=>rfl
 | some q=>
  obtain⟨n,k⟩:=q
  obtain⟨g1,g2,g3⟩:=j7 hb hg
  have hk:k≤b.length:=by
   rw[g3,List.length_append,← g2];omega
  simp only[Option.bind_some,aC,Nat.zero_add]
  rw[decide_eq_false (show ¬ ((k:Nat):Int) = -1 by omega),bN (x:=((b.length:Nat):Int)-((k:Nat):Int)) (by omega) (by omega)]
  simp only[cond_false]
  by_cases hn:n≤b.length-k
  ·rw[if_pos hn,decide_eq_false (show ¬ ((b.length:Nat):Int)-((k:Nat):Int)<((n:Nat):Int) by omega),bN (x:=((k:Nat):Int)+((n:Nat):Int)) (by omega) (by omega),show ((k:Nat):Int)+((n:Nat):Int)=((k+n:Nat):Int) by omega]
   simp only[cond_false,Int.toNat_natCast,fe,Bool.true_and]
   rw[bh (show k≤k+n by omega),bh (Nat.le_refl (k+n)),bh (show k+n≤b.length by omega),bh (Nat.le_refl b.length)]
   simp only[Bool.and_self,cond_true]
   congr 1
   ·rw[bF,cI,List.drop_take,Nat.add_sub_cancel_left]
   ·rw[bF,cI,List.take_of_length_le (Nat.le_refl _),List.drop_drop]
  ·rw[if_neg hn,decide_eq_true (show ((b.length:Nat):Int)-((k:Nat):Int)<((n:Nat):Int) by omega)]
   rfl
theorem PO (b:List Int):f90 b=vL b (some (([],[],[],[],[]),false,())) fun p0 r0=>vL r0 (some ((p0,[],[],[],[]),false,())) fun p1 r1=>vL r1 (some ((p0,p1,[],[],[]),false,())) fun p2 r2=>
  vL r2 (some ((p0,p1,p2,[],[]),false,())) fun p3 r3=>vL r3 (some ((p0,p1,p2,p3,[]),false,())) fun p4 r4=>some ((p0,p1,p2,p3,p4),decide (((r4.length:Nat):Int)=0),()):=rfl
theorem mW {b p r:List Nat}(hb:∀ c∈b,c<256)(h:gB b=some (p,r)):p.length≤b.length∧r.length≤b.length:=by
 have:=congrArg List.length (dI hb h).1
 unfold yE at this
 simp only[List.length_append] at this
 omega
theorem Wx (b:List Nat)(hb:∀ c∈b,c<256)(hl:b.length≤1000000000) :
  ∃ (X0:List Nat) (X1:List Int×List Int×List Int×List Int) (is:Bool),f90 (ints b)=some ((ints X0,X1),is,())∧(∀ c∈X0,c<256)∧X0.length≤b.length ∧
   (match lT b with
    | some (p,r)=>if r=[] then is=true∧X0=p.1∧X1=(ints p.2.1,ints p.2.2.1,ints p.2.2.2.1,ints p.2.2.2.2) else is=false
    | none=>is=false):=by
 rw[PO,mH b hb hl]
 unfold lT
 cases h0:gB b with
 | none=>exact⟨[],_,false,rfl,by simp,by simp,rfl⟩
 | some q0=>
 obtain⟨p0,r0⟩:=q0
 obtain⟨e0,_,b0,c0⟩:=dI hb h0
 obtain⟨l0,m0⟩:=mW hb h0
 simp only[Option.bind_some]
 rw[mH r0 c0 (by omega)]
 cases h1:gB r0 with
 | none=>exact⟨p0,_,false,rfl,b0,l0,rfl⟩
 | some q1=>
 obtain⟨p1,r1⟩:=q1
 obtain⟨e1,_,b1,c1⟩:=dI c0 h1
 obtain⟨l1,m1⟩:=mW c0 h1
 simp only[Option.bind_some]
 rw[mH r1 c1 (by omega)]
 cases h2:gB r1 with
 | none=>exact⟨p0,_,false,rfl,b0,l0,rfl⟩
 | some q2=>
 obtain⟨p2,r2⟩:=q2
 obtain⟨e2,_,b2,c2⟩:=dI c1 h2
 obtain⟨l2,m2⟩:=mW c1 h2
 simp only[Option.bind_some]
 rw[mH r2 c2 (by omega)]
 cases h3:gB r2 with
 | none=>exact⟨p0,_,false,rfl,b0,l0,rfl⟩
 | some q3=>
 obtain⟨p3,r3⟩:=q3
 obtain⟨e3,_,b3,c3⟩:=dI c2 h3
 obtain⟨l3,m3⟩:=mW c2 h3
 simp only[Option.bind_some]
 rw[mH r3 c3 (by omega)]
 cases h4:gB r3 with
 | none=>exact⟨p0,_,false,rfl,b0,l0,rfl⟩
 | some q4=>
 obtain⟨p4,r4⟩:=q4
 simp only[Option.bind_some,aC]
 refine⟨p0,_,_,rfl,b0,l0,?_⟩
 by_cases hr:r4=[]
 ·rw[if_pos hr,hr]
  exact⟨rfl,rfl,rfl⟩
 ·rw[if_neg hr]
  refine decide_eq_false ?_
  intro h
  exact hr (List.eq_nil_of_length_eq_zero (by omega))
abbrev IR:=((),(),(),(),(),(),(),(),(),(),(),(),(),(),(),(),(),(),(),(),(),(),(),(),(),(),(),(),(),(),(),(),(),(),(),(),(),(),(),(),(),(),(),(),(),(),(),(),(),(),(),(),(),(),(),(),(),(),(),(),(),(),(),(),(),(),(),(),(),(),(),(),(),(),(),(),(),(),(),(),(),(),(),(),(),(),(),(),(),(),(),(),(),(),(),(),(),(),(),(),(),(),(),(),(),(),(),(),(),(),(),(),(),(),(),(),(),(),(),(),(),(),(),(),(),(),(),(),(),(),(),(),(),(),(),(),(),(),(),(),(),(),(),(),(),(),(),(),(),(),(),(),(),(),(),(),(),(),(),(),(),(),(),(),(),(),(),(),(),(),(),(),(),(),(),(),(),(),(),(),(),(),(),(),(),(),(),(),(),(),(),(),(),(),(),(),(),(),(),(),(),(),(),(),(),(),(),(),(),(),(),(),(),(),(),(),(),(),(),(),(),(),(),(),(),(),(),(),(),(),(),(),(),(),(),(),(),())
abbrev nc (p:P5):List Int×List Int×List Int×List Int×List Int×Unit:=(ints p.1,ints p.2.1,ints p.2.2.1,ints p.2.2.2.1,ints p.2.2.2.2,())
abbrev Ed (ns:List Nat):Int×Int×Int×Int×Int×Int×Int×Int×Int×Int×Int×Bool×Int×Unit×Unit×Unit×Unit:=
 (gN ns 0,gN ns 1,gN ns 2,gN ns 3,gN ns 4,gN ns 5,gN ns 6,gN ns 7,gN ns 8,gN ns 9,gN ns 10,decide (gN ns 11=1),gN ns 12,(),(),(),())
theorem Js (n:Nat)(l:List Nat)(h:l.length=3 * n):(fX l).length=n:=(om n l h).2
theorem Ii (ns m:List Nat)(p:P5)(hm:m.length≤100000):∀ (d i fuel:Nat) (out:List HT),m.length=i+3 * d→d<fuel→out.length+d≤100000 →
  iter fuel de (((),(),(),((i:Nat):Int),()),(nk,nc p,Ed ns,(ints m,()),(3,()),IR,()),[],[],[],out,[],[],()) =
   some (.inl ((),(nk,nc p,Ed ns,(ints m,()),(3,()),IR,()),[],[],[],out++fX (m.drop i),[],[],()))
 | d,i,0,out,_,h,_=>by omega
 | 0,i,fuel+1,out,hi,_,_=>by
  have:i=m.length:=by omega
  subst this
  rw[List.drop_length]
  refine bJ ?_
  simp only[de,lY,aC,nG,cond_false,fX,List.append_nil]
 | d+1,i,fuel+1,out,hi,hf,ho=>by
  obtain⟨a,b,c,r,e⟩:∃ a b c r,m.drop i=a::b::c::r:=by
   have hlen:(m.drop i).length=3 * (d+1):=by rw[List.length_drop];omega
   match h:m.drop i,hlen with
   | [],hlen=>simp at hlen
   | [_],hlen=>simp at hlen;omega
   | [_,_],hlen=>simp at hlen;omega
   | a::b::c::r,_=>exact⟨a,b,c,r,rfl⟩
  have e3:m.drop (i+3)=r:=by rw[← List.drop_drop,e];rfl
  have hd:List.drop i (List.take m.length (ints m))=ints (m.drop i):=by rw[bF,cI,List.take_of_length_le (Nat.le_refl _)]
  have hlen:(m.drop i).length=m.length-i:=List.length_drop
  have hn:de (((),(),(),((i:Nat):Int),()),(nk,nc p,Ed ns,(ints m,()),(3,()),IR,()),[],[],[],out,[],[],())
    = some (.next (((),(),(),((i+3:Nat):Int),()),(nk,nc p,Ed ns,(ints m,()),(3,()),IR,()),[],[],[],out++[((a:Int),(b:Int),(c:Int))],[],[],())):=by
   have hw:IntKind.wrap .i64 (((i:Nat):Int)+3)=((i+3:Nat):Int):=by rw[bN (by omega) (by omega)];omega
   have hsl:List.drop i (List.take (i+3) (ints m))=ints [a,b,c]:=by
    rw[bF,cI,List.drop_take,Nat.add_sub_cancel_left,e];rfl
   have h3:decide (((m.length-i:Nat):Int)<3)=false:=decide_eq_false (by omega)
   simp only[de,lY,sS,aC,eO (show i<m.length by omega),cond_true,fe,Bool.true_and,bh (show i≤m.length by omega),bh (Nat.le_refl m.length),Int.toNat_natCast,hd,hlen,h3,cond_false,hw,hsl]
   rw[bh (show i≤i+3 by omega),bh (Nat.le_refl (i+3)),bh (show i+3≤m.length by omega),decide_eq_true (show (out.length+1) * 24≤140737488355328 by omega),decide_eq_true (show out.length+1≤9223372036854775807 by omega)]
   rfl
  rw[br hn,Ii ns m p hm d (i+3) fuel _ (by omega) (by omega) (by rw[List.length_append,List.length_singleton];omega),e3,e,List.append_assoc]
  rfl
theorem YI (x:Nat)(h:x<2 ^ 20):aG .and .i64 ((x:Nat):Int) 31=((x % 32:Nat):Int):=by
 have:=jD (a:=x) (m:=5) (by omega) (by omega)
 exact this
theorem HJ (ns:List Nat)(P0:List HT)(whose fr which till:List Nat)(hl:fr.length=whose.length)(h4:whose.length≤400)(hx:∀ x∈whose,x<2 ^ 20) :
  ∀ (d i fuel:Nat) (out:List LT),i+d=whose.length→d<fuel→out.length=i →
   iter fuel qG (((),(),ints fr,ints which,ints till,ints whose,((whose.length:Nat):Int),((i:Nat):Int),()),(nk,Ed ns,()),[],[],[],P0,out,[],()) =
    some (.inl (((),(),ints which,ints till,()),(nk,Ed ns,()),[],[],[],P0,out++mA (gN ns 12) (whose.drop i) (fr.drop i),[],()))
 | d,i,0,out,_,h,_=>by omega
 | 0,i,fuel+1,out,hi,_,_=>by
  have:i=whose.length:=by omega
  subst this
  rw[List.drop_length]
  refine bJ ?_
  simp only[qG,E3,nG,cond_false,mA,List.append_nil]
 | d+1,i,fuel+1,out,hi,hf,ho=>by
  have hiw:i<whose.length:=by omega
  have hif:i<fr.length:=by omega
  have hxi:=hx whose[i] (List.getElem_mem hiw)
  have hn:qG (((),(),ints fr,ints which,ints till,ints whose,((whose.length:Nat):Int),((i:Nat):Int),()),(nk,Ed ns,()),[],[],[],P0,out,[],())
    = some (.next (((),(),ints fr,ints which,ints till,ints whose,((whose.length:Nat):Int),((i+1:Nat):Int),()),(nk,Ed ns,()),[],[],[],P0,out++[(((whose[i] / 32:Nat):Int),((whose[i] % 32 / 8:Nat):Int),((whose[i] % 8:Nat):Int),(fr[i]:Int),gN ns 12)],[],())):=by
   have hfd:Int.fdiv ((whose[i]:Nat):Int) 32=((whose[i] / 32:Nat):Int):=by rw[Int.fdiv_eq_ediv_of_nonneg _ (by omega)];rfl
   have h1:IntKind.wrap .i64 (Int.tdiv ((whose[i] % 32:Nat):Int) 8)=((whose[i] % 32 / 8:Nat):Int):=by
    rw[Int.tdiv_eq_ediv_of_nonneg (by omega),bN (by omega) (by omega)];rfl
   have h2:Int.tmod ((whose[i] % 32:Nat):Int) 8=((whose[i] % 8:Nat):Int):=by
    rw[Int.tmod_eq_emod_of_nonneg (by omega)];omega
   simp only[qG,E3,aC,eO hiw,eO hif,fe,cond_true,Bool.and_self,Int.toNat_natCast,Ft hiw,Ft hif,nx hiw (show whose.length≤9223372036854775807 by omega),hfd,YI _ hxi,h1,h2]
   rw[decide_eq_true (show (out.length+1) * 40≤140737488355328 by omega),decide_eq_true (show out.length+1≤9223372036854775807 by omega)]
   rfl
  rw[br hn,HJ ns P0 whose fr which till hl h4 hx d (i+1) fuel _ (by omega) (by omega) (by rw[List.length_append,ho];rfl),List.drop_eq_getElem_cons hiw,List.drop_eq_getElem_cons hif,mA,List.append_assoc]
  rfl
theorem HE (ns:List Nat)(P0:List HT)(L0:List LT)(which till:List Nat)(hl:till.length=which.length)(h4:which.length≤400)(hx:∀ x∈which,x<2 ^ 20) :
  ∀ (d i fuel:Nat) (out:List HT),i+d=which.length→d<fuel→out.length=i →
   iter fuel rL (((),(),ints till,ints which,((which.length:Nat):Int),((i:Nat):Int),()),(nk,Ed ns,()),[],[],[],P0,L0,out,()) =
    some (.inl (((),(),()),(nk,Ed ns,()),[],[],[],P0,L0,out++pJ (which.drop i) (till.drop i),()))
 | d,i,0,out,_,h,_=>by omega
 | 0,i,fuel+1,out,hi,_,_=>by
  have:i=which.length:=by omega
  subst this
  rw[List.drop_length]
  refine bJ ?_
  simp only[rL,FQ,nG,cond_false,pJ,List.append_nil]
 | d+1,i,fuel+1,out,hi,hf,ho=>by
  have hiw:i<which.length:=by omega
  have hif:i<till.length:=by omega
  have hn:rL (((),(),ints till,ints which,((which.length:Nat):Int),((i:Nat):Int),()),(nk,Ed ns,()),[],[],[],P0,L0,out,())
    = some (.next (((),(),ints till,ints which,((which.length:Nat):Int),((i+1:Nat):Int),()),(nk,Ed ns,()),[],[],[],P0,L0,out++[(((which[i] / 8:Nat):Int),((which[i] % 8:Nat):Int),(till[i]:Int))],())):=by
   have hxi:=hx which[i] (List.getElem_mem hiw)
   ·have h1:IntKind.wrap .i64 (Int.tdiv ((which[i]:Nat):Int) 8)=((which[i] / 8:Nat):Int):=by
     rw[Int.tdiv_eq_ediv_of_nonneg (by omega),bN (by omega) (by omega)];rfl
    have h2:Int.tmod ((which[i]:Nat):Int) 8=((which[i] % 8:Nat):Int):=by
     rw[Int.tmod_eq_emod_of_nonneg (by omega)];omega
    simp only[rL,FQ,aC,eO hiw,eO hif,fe,cond_true,Bool.and_self,Int.toNat_natCast,Ft hiw,Ft hif,nx hiw (show which.length≤9223372036854775807 by omega),h1,h2]
    rw[decide_eq_true (show (out.length+1) * 24≤140737488355328 by omega),decide_eq_true (show out.length+1≤9223372036854775807 by omega)]
    rfl
  rw[br hn,HE ns P0 L0 which till hl h4 hx d (i+1) fuel _ (by omega) (by omega) (by rw[List.length_append,ho];rfl),List.drop_eq_getElem_cons hiw,List.drop_eq_getElem_cons hif,pJ,List.append_assoc]
  rfl
def Vm (o:Option (List Nat)):List Int×Bool×Unit:=match o with
 | some l=>(ints l,true,())
 | none=>([],false,())
theorem Gs (b:List Nat)(hb:∀ c∈b,c<256)(n w:Nat)(hw1:1≤w)(hw:w≤20):f93 (ints b) (n:Int) (w:Int)=some (Vm (gh w n b)):=by
 rw[WD b hb n w hw1 hw]
 unfold gh
 by_cases h:n≤400
 ·rw[if_pos h,if_pos h]
  cases mO w n b<;>rfl
 ·rw[if_neg h,if_neg h];rfl
theorem G0 (b:List Nat)(hb:∀ c∈b,c<256)(hl:b.length≤1000000000):f94 (ints b)=some (Vm (si b)):=by
 rw[Uv b hb hl]
 unfold si
 cases (tf 400 b).bind (kQ 0)<;>rfl
abbrev lI:ST:=(((0,0),(0,0),0,0,0,0),(0,0,0,false),0,[],[],[])
theorem ic {ns:List Nat}(h:15≤ns.length){i:Nat}(hi:i<15):rd (.int .i64) (ints ns) i=gN ns i:=by
 have hlt:i<ns.length:=by omega
 rw[Ft hlt]
 show _=((ns.getD i 0:Nat):Int)
 rw[List.getD_eq_getElem?_getD,List.getElem?_eq_getElem hlt];rfl
theorem V2 (b:List Nat)(hb:∀ c∈b,c<256)(hl:b.length≤1000000000):f41 (ints b)=some (match iD b with
  | some s=>(s,true,())
  | none=>(lI,false,())):=by
 obtain⟨X0,X1,is,h30,hX,hXl,hm⟩:=Wx b hb hl
 unfold f41
 rw[h30]
 simp only[Option.bind_some]
 rw[zD X0 hX (by omega)]
 have bad:is=false→f41 (ints b)=some (lI,false,()):=by
  intro hi
  unfold f41
  rw[h30]
  simp only[Option.bind_some]
  rw[zD X0 hX (by omega),hi]
  cases tf 400 X0<;>rfl
 have badr:iD b=none→is=false∨(∃ p,lT b=some (p,[])):=by
  intro h
  cases hs:lT b with
  | none=>rw[hs] at hm;exact .inl hm
  | some q=>
   obtain⟨p,r⟩:=q
   rw[hs] at hm
   by_cases hr:r=[]
   ·subst hr;exact .inr ⟨p,rfl⟩
   ·simp only[if_neg hr] at hm;exact .inl hm
 cases hs:lT b with
 | none=>
  rw[hs] at hm
  have hm':is=false:=hm
  have hr:iD b=none:=by unfold iD;rw[hs];rfl
  rw[hr,hm']
  cases tf 400 X0<;>rfl
 | some q=>
 obtain⟨p,r⟩:=q
 rw[hs] at hm
 by_cases hr:r=[]
 case neg=>
  simp only[if_neg hr] at hm
  have hr':iD b=none:=by unfold iD;rw[hs];simp only[Option.bind_some];rw[if_neg hr]
  rw[hr',hm]
  cases tf 400 X0<;>rfl
 subst hr
 simp only[if_true] at hm
 obtain⟨rfl,rfl,rfl⟩:=hm
 obtain⟨eb,_,b0,b1,b2,b3,b4⟩:=xL hb hs
 have lens:p.2.1.length≤b.length∧p.2.2.1.length≤b.length∧p.2.2.2.1.length≤b.length∧p.2.2.2.2.length≤b.length:=by
  rw[eb]
  unfold Rm yE
  simp only[List.length_append]
  omega
 have hrd:iD b=ofParts p:=by unfold iD;rw[hs];rfl
 rw[hrd]
 unfold ofParts
 cases h0:tf 400 p.1 with
 | none=>rfl
 | some ns=>
 obtain⟨n1,n2,n3⟩:=nZ 400 _ ns b0 h0
 simp only[Option.bind_some,Bool.not_true,cond_false,aC]
 by_cases g12:15≤ns.length
 case neg=>
  have:nB ns=false:=by unfold nB;rw[decide_eq_false g12];rfl
  rw[this,decide_eq_true (show ((ns.length:Nat):Int)<15 by omega)]
  rfl
 rw[decide_eq_false (show ¬ ((ns.length:Nat):Int)<15 by omega),bN (x:=((ns.length:Nat):Int)-15) (by omega) (by omega),Int.tmod_eq_emod_of_nonneg (by omega)]
 simp only[cond_false]
 by_cases g3:(ns.length-15) % 3=0
 case neg=>
  have:nB ns=false:=by unfold nB;rw[decide_eq_false g3,Bool.false_and,Bool.and_false]
  rw[this,decide_eq_false (show ¬ (((ns.length:Nat):Int)-15) % 3=0 by omega)]
  rfl
 rw[decide_eq_true (show (((ns.length:Nat):Int)-15) % 3=0 by omega)]
 have hi:∀ i<15,decide ((i:Int)<((ns.length:Nat):Int))=true:=fun i h=>decide_eq_true (by omega)
 have i0:=hi 0 (by omega);have i1:=hi 1 (by omega);have i2:=hi 2 (by omega);have i3:=hi 3 (by omega);have i4:=hi 4 (by omega);have i5:=hi 5 (by omega);have i6:=hi 6 (by omega)
 have i7:=hi 7 (by omega);have i8:=hi 8 (by omega);have i9:=hi 9 (by omega);have i10:=hi 10 (by omega);have i11:=hi 11 (by omega);have i12:=hi 12 (by omega);have i13:=hi 13 (by omega);have i14:=hi 14 (by omega)
 simp only[Bool.not_true,cond_false,i11,cond_true,ic g12 (show 11<15 by omega)]
 by_cases g10:ns.getD 11 0≤1
 case neg=>
  have:nB ns=false:=by unfold nB;rw[decide_eq_false g10,Bool.and_false,Bool.and_false]
  rw[this,decide_eq_true (show (1:Int)<gN ns 11 by show (1:Int)<((ns.getD 11 0:Nat):Int);omega)]
  rfl
 have hgood:nB ns=true:=by unfold nB;rw[decide_eq_true g12,decide_eq_true g3,decide_eq_true g10];rfl
 rw[hgood,decide_eq_false (show ¬ (1:Int)<gN ns 11 by show ¬ (1:Int)<((ns.getD 11 0:Nat):Int);omega)]
 simp only[cond_false,cond_true,i0,i1,i2,i3,i4,i5,i6,i7,i8,i9,i10,i12,i13,i14,if_true,ic g12 (show 0<15 by omega),ic g12 (show 1<15 by omega),ic g12 (show 2<15 by omega),ic g12 (show 3<15 by omega),ic g12 (show 4<15 by omega),ic g12 (show 5<15 by omega),ic g12 (show 6<15 by omega),ic g12 (show 7<15 by omega),ic g12 (show 8<15 by omega),ic g12 (show 9<15 by omega),ic g12 (show 10<15 by omega),ic g12 (show 12<15 by omega),ic g12 (show 13<15 by omega),ic g12 (show 14<15 by omega)]
 rw[decide_eq_true (show (15:Int)≤((ns.length:Nat):Int) by omega),bh (Nat.le_refl ns.length)]
 simp only[Bool.and_self,cond_true,Int.toNat_natCast]
 have hm15:List.drop 15 (List.take ns.length (ints ns))=ints (ns.drop 15):=by rw[bF,cI,List.take_of_length_le (Nat.le_refl _)]
 rw[hm15]
 obtain⟨q,hq⟩:∃ q,ns.length-15=3 * q:=⟨(ns.length-15) / 3,by omega⟩
 have hml:(ns.drop 15).length=3 * q:=by rw[List.length_drop];exact hq
 have l1:=Ii ns (ns.drop 15) p (by omega) q 0 aA [] (by omega) (by unfold aA;omega) (by simp;omega)
 have l1':iter aA de (((),(),(),0,()),(nk,nc p,Ed ns,(ints (ns.drop 15),()),(3,()),IR,()),[],[],[],[],[],[],())=_:=l1
 rw[List.drop_zero,List.nil_append] at l1'
 simp only[nk,nc,Ed,IR] at l1'
 rw[l1']
 simp only[Option.bind_some]
 have hcl:=Js q (ns.drop 15) hml
 have gI:∀ i,gN ns i=((ns.getD i 0:Nat):Int):=fun _=>rfl
 have e33a:=Gs p.2.1 b1 (ns.getD 13 0) 10 (by omega) (by omega)
 have e33b:=Gs p.2.2.2.1 b3 (ns.getD 14 0) 5 (by omega) (by omega)
 rw[show ((10:Nat):Int)=10 from rfl] at e33a
 rw[show ((5:Nat):Int)=5 from rfl] at e33b
 rw[e33a]
 simp only[Option.bind_some]
 rw[G0 p.2.2.1 b2 (by omega)]
 simp only[Option.bind_some]
 rw[e33b]
 simp only[Option.bind_some]
 rw[G0 p.2.2.2.2 b4 (by omega)]
 simp only[Option.bind_some]
 cases ha:gh 10 (ns.getD 13 0) p.2.1 with
 | none=>rfl
 | some whose=>
 cases hb2:si p.2.2.1 with
 | none=>rfl
 | some fr=>
 cases hc:gh 5 (ns.getD 14 0) p.2.2.2.1 with
 | none=>rfl
 | some which=>
 cases hd:si p.2.2.2.2 with
 | none=>rfl
 | some till=>
 have hw4:whose.length≤400∧∀ x∈whose,x<2 ^ 20:=by
  unfold gh at ha
  split at ha
  case isFalse=>cases ha
  rename_i h4
  obtain⟨_,w2,w3⟩:=ix b1 ha
  exact⟨by omega,fun x hx=>by have:=w3 x hx;omega⟩
 have hh4:which.length≤400∧∀ x∈which,x<2 ^ 20:=by
  unfold gh at hc
  split at hc
  case isFalse=>cases hc
  rename_i h4
  obtain⟨_,w2,w3⟩:=ix b3 hc
  exact⟨by omega,fun x hx=>by have:=w3 x hx;omega⟩
 simp only[Option.bind_some,Vm,Bool.not_true,cond_false,aC]
 by_cases k1:fr.length=whose.length
 case neg=>
  rw[decide_eq_false (show ¬ ((fr.length:Nat):Int)=((whose.length:Nat):Int) by omega),if_neg (fun h=>k1 h.1)]
  rfl
 rw[decide_eq_true (show ((fr.length:Nat):Int)=((whose.length:Nat):Int) by omega)]
 by_cases k2:till.length=which.length
 case neg=>
  rw[decide_eq_false (show ¬ ((till.length:Nat):Int)=((which.length:Nat):Int) by omega),if_neg (fun h=>k2 h.2.1)]
  rfl
 rw[decide_eq_true (show ((till.length:Nat):Int)=((which.length:Nat):Int) by omega)]
 simp only[Bool.not_true,cond_false]
 have l2:=HJ ns (fX (ns.drop 15)) whose fr which till k1 hw4.1 hw4.2 whose.length 0 aA [] (by omega) (by have:=hw4.1;unfold aA;omega) rfl
 rw[List.drop_zero,List.drop_zero,List.nil_append,show ((0:Nat):Int)=0 from rfl] at l2
 simp only[nk,Ed] at l2
 rw[l2]
 simp only[Option.bind_some,aC]
 have l3:=HE ns (fX (ns.drop 15)) (mA (gN ns 12) whose fr) which till k2 hh4.1 hh4.2 which.length 0 aA [] (by omega) (by have:=hh4.1;unfold aA;omega) rfl
 rw[List.drop_zero,List.drop_zero,List.nil_append,show ((0:Nat):Int)=0 from rfl] at l3
 simp only[nk,Ed] at l3
 rw[l3]
 simp only[Option.bind_some]
 have hB:Sm (kK ns whose fr which till):=by
  refine⟨?_,?_,?_⟩
  ·show (fX (ns.drop 15)).length≤1000
   omega
  ·show (mA (gN ns 12) whose fr).length≤1000
   rw[(AY (gN ns 12) whose fr k1).2.2.1];have:=hw4.1;omega
  ·show (pJ which till).length≤1000
   rw[(zJ which till k2).2.2];have:=hh4.1;omega
 have e11:decide (gN ns 11=1)=decide (ns.getD 11 0=1):=by
  rw[decide_eq_decide]
  show ((ns.getD 11 0:Nat):Int)=1↔_
  omega
 have h14:=uj (kK ns whose fr which till) hB.WX hB.Wq hB.WN
 have h14':f11 (gN ns 0) (gN ns 1) (gN ns 2) (gN ns 3) (gN ns 4) (gN ns 5) (gN ns 6) (gN ns 7) (gN ns 8) (gN ns 9) (gN ns 10) (decide (ns.getD 11 0=1)) (gN ns 12) (fX (ns.drop 15)) (mA (gN ns 12) whose fr) (pJ which till)=some (decide (bR (kK ns whose fr which till)),()):=h14
 rw[e11,h14']
 simp only[Option.bind_some]
 by_cases hM:bR (kK ns whose fr which till)
 ·rw[decide_eq_true hM,if_pos ⟨k1,k2,hM⟩]
  rfl
 ·rw[decide_eq_false hM,if_neg (fun h=>hM h.2.2)]
  rfl
end Go.Proofs.Zz
