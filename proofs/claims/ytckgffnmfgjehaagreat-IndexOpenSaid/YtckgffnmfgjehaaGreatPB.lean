/- P18l, P18m, P18n, P18o, P18p. -/
import Derived.Test.YtckgffnmfgjehaaGreatPA
import Derived.Test.YtckgffnmfgjehaaGreatFI
open Option renaming bind_some → ae
open Go.IntKind renaming wrap → al
open Int renaming toNat_natCast → ap, tdiv_eq_ediv_of_nonneg → dd, tmod_eq_emod_of_nonneg → dj, toNat → eh, fdiv_eq_ediv_of_nonneg → eI
open List renaming length_append → aw, drop_eq_getElem_cons → ba, length_drop → bi, drop_zero → bj, drop_length → bm, append_assoc → cd, take_of_length_le → cn, getElem_mem → dq, length_cons → dt, append_nil → dv, nil_append → dC, drop → eJ, take → eK, length_singleton → fb, drop_take → fj, length → ft, drop_drop → fx
open Bool renaming and_self → be, not_true → da, not_false → fg, and_false → gg
open Nat renaming le_refl → cf, pow_le_pow_right → db, add_sub_cancel_left → dp, pow_add → du, two_pow_add_eq_or_of_lt → dE, mul_comm → ee, min_eq_left → eQ, two_pow_pos → fa, mul_assoc → gk
open BitVec renaming ofInt → dk
namespace Go.Proofs.Zz
open Go Go.Sy
set_option linter.unusedSimpArgs false
set_option linter.unusedVariables false
abbrev ints (l:List Nat):List Int:=l.map fun n=>((n:Nat):Int)
theorem aE (l:List Nat):(ints l).length=l.length:=List.length_map _
theorem wi (l m:List Nat):ints l++ints m=ints (l++m):=(List.map_append).symm
theorem xI {l:List Nat}{j:Nat}(h:j<(ints l).length):(ints l)[j]=((l[j]'(by rw[aE] at h;exact h):Nat):Int):=List.getElem_map _
theorem GJ {l:List Nat}{j:Nat}(h:j<l.length):rd (.int .i64) (ints l) j=((l[j]:Nat):Int):=by
 rw[rdI (by rw[aE];exact h),xI]
theorem Z1 {l:List Nat}{j:Nat}(h:j<l.length):rd (.int .u8) (ints l) j=((l[j]:Nat):Int):=by
 rw[rdB (by rw[aE];exact h),xI]
theorem Pd {l m:List Nat}(h:ints l=ints m):l=m:=by
 have:=congrArg (List.map eh) h
 simpa [ints,List.map_map,Function.comp_def] using this
theorem cO (k:Nat)(l:List Nat):(ints l).drop k=ints (l.drop k):=(List.map_drop).symm
theorem cz (k:Nat)(l:List Nat):(ints l).take k=ints (l.take k):=(List.map_take).symm
theorem Ue (n:Int):f120 n=some (decide (0≤n∧n≤1099511627776),()):=by
 unfold f120
 by_cases h:0≤n<;>simp[h]
theorem K6 {c:Nat}(h:c<256):aG .andNot .u8 (c:Int) 128=((c % 128:Nat):Int):=by
 have hall:∀ c:Fin 256,aG .andNot .u8 ((c.val:Nat):Int) 128=((c.val % 128:Nat):Int):=by decide +kernel
 exact hall ⟨c,h⟩
theorem Qj (at':Nat)(b:List Nat)(hb:∀ c∈b,c<256)(h6:b.length≤6){i acc:Nat}(hi:i<b.length)(hacc:acc<2 ^ (7 * i)) :
  al .i64 (7 * (i:Int))=((7 * i:Nat):Int) ∧
  aG .or .i64 (acc:Int) (al .i64 (al .i64 (aG .andNot .u8 ((b[i]:Nat):Int) 128) * ((2:Int) ^ ((min (eh (al .i64 (7 * (i:Int)))) 64):Nat))))=((acc+b[i] % 128 * 2 ^ (7 * i):Nat):Int)∧acc+b[i] % 128 * 2 ^ (7 * i)<2 ^ (7 * (i+1)):=by
 have hc:=hb b[i] (dq hi)
 have hw:al .i64 (7 * (i:Int))=((7 * i:Nat):Int):=by rw[bY (by omega) (by omega)];omega
 have hp:2 ^ (7 * i)≤2 ^ 35:=db (by omega) (by omega)
 have hm:b[i] % 128 * 2 ^ (7 * i)≤127 * 2 ^ (7 * i):=Nat.mul_le_mul_right _ (by omega)
 refine⟨hw,?_,?_⟩
 ·rw[hw,ap,eQ (by omega),K6 hc,bY (x:=((b[i] % 128:Nat):Int)) (by omega) (by omega)]
  have e:((b[i] % 128:Nat):Int) * ((2:Int) ^ (7 * i))=((b[i] % 128 * 2 ^ (7 * i):Nat):Int):=by simp
  rw[e,bY (by omega) (by omega),acB (by omega) (by omega),Nat.or_comm]
  have:=dE hacc (b[i] % 128)
  rw[ee] at this
  rw[← this]
  omega
 ·rw[XB];omega
theorem OY (at':Nat)(b:List Nat)(hb:∀ c∈b,c<256)(h6:b.length≤6)(hat:at'≤9000000000000000000):∀ (d i acc fuel:Nat),i+d=b.length→d<fuel→acc<2 ^ (7 * i) →
  iter fuel vC ((((at':Nat):Int),((acc:Nat):Int),ints b,((b.length:Nat):Int),((i:Nat):Int),()),(),()) =
   some (match Ol i acc (b.drop i) with
    | none=>.inl ((),(),())
    | some (v,k)=>.inr ((((v:Nat):Int),((at'+k:Nat):Int),()),(),()))
 | d,i,acc,0,_,h,_=>by omega
 | 0,i,acc,fuel+1,hi,_,_=>by
  have:i=b.length:=by omega
  subst this
  rw[bm]
  refine bW ?_
  simp only[vC,MR,ow,cond_false]
 | d+1,i,acc,fuel+1,hi,hf,hacc=>by
  have hlt:i<b.length:=by omega
  obtain⟨s1,s2,s3⟩:=Qj at' b hb h6 hlt hacc
  have hc:=hb b[i] (dq hlt)
  rw[ba hlt,Ol]
  have hu:vC ((((at':Nat):Int),((acc:Nat):Int),ints b,((b.length:Nat):Int),((i:Nat):Int),()),(),()) =
    cond (decide ((128:Int)≤((b[i]:Nat):Int))) (some (R3.next ((((at':Nat):Int),((acc+b[i] % 128 * 2 ^ (7 * i):Nat):Int),ints b,((b.length:Nat):Int),((i+1:Nat):Int),()),(),())))
    (cond (decide (((b[i]:Nat):Int)=0)) (cond (decide ((0:Int)<((i:Nat):Int))) (some (R3.out ((),(),())))
     (cond (!decide ((0:Int)≤((acc+b[i] % 128 * 2 ^ (7 * i):Nat):Int)∧((acc+b[i] % 128 * 2 ^ (7 * i):Nat):Int)≤1099511627776)) (some (R3.out ((),(),()))) (some (R3.ret ((((acc+b[i] % 128 * 2 ^ (7 * i):Nat):Int),((at'+(i+1):Nat):Int),()),(),())))))
     (cond (!decide ((0:Int)≤((acc+b[i] % 128 * 2 ^ (7 * i):Nat):Int)∧((acc+b[i] % 128 * 2 ^ (7 * i):Nat):Int)≤1099511627776)) (some (R3.out ((),(),()))) (some (R3.ret ((((acc+b[i] % 128 * 2 ^ (7 * i):Nat):Int),((at'+(i+1):Nat):Int),()),(),()))))):=by
   have hend:al .i64 (al .i64 (((at':Nat):Int)+((i:Nat):Int))+1)=((at'+(i+1):Nat):Int):=by
    rw[bY (x:=((at':Nat):Int)+((i:Nat):Int)) (by omega) (by omega),bY (by omega) (by omega)];omega
   have hneg:decide (((7 * i:Nat):Int)<0)=false:=decide_eq_false (by omega)
   rw[s1,ap] at s2
   simp only[vC,MR,gp hlt,aE,eL,cond_true,be,ap,Z1 hlt,s1,hneg,fg,s2,Ue,ae,nx hlt (show b.length≤9223372036854775807 by omega),hend]
  rw[iter,hu]
  by_cases h128:128≤b[i]
  ·rw[decide_eq_true (show (128:Int)≤((b[i]:Nat):Int) by omega),if_pos h128]
   simp only[cond_true]
   rw[OY at' b hb h6 hat d (i+1) _ fuel (by omega) (by omega) s3,show b[i] % 128=b[i]-128 by omega]
  ·rw[decide_eq_false (show ¬ (128:Int)≤((b[i]:Nat):Int) by omega),if_neg h128,show b[i] % 128=b[i] by omega]
   simp only[cond_false]
   have fin:cond (!decide ((0:Int)≤((acc+b[i] * 2 ^ (7 * i):Nat):Int)∧((acc+b[i] * 2 ^ (7 * i):Nat):Int)≤1099511627776)) (some (R3.out ((),(),()):R3 Jq Nf Nb)) (some (R3.ret ((((acc+b[i] * 2 ^ (7 * i):Nat):Int),((at'+(i+1):Nat):Int),()),(),()))) =
     if 1099511627776<acc+b[i] * 2 ^ (7 * i) then some (R3.out ((),(),())) else some (R3.ret ((((acc+b[i] * 2 ^ (7 * i):Nat):Int),((at'+(i+1):Nat):Int),()),(),())):=by
    by_cases h:1099511627776<acc+b[i] * 2 ^ (7 * i)
    ·rw[if_pos h,decide_eq_false (by omega)];rfl
    ·rw[if_neg h,decide_eq_true (by omega)];rfl
   by_cases h0:b[i]=0
   ·rw[decide_eq_true (show ((b[i]:Nat):Int)=0 by omega)]
    by_cases hi0:0<i
    ·rw[decide_eq_true (show (0:Int)<((i:Nat):Int) by omega),if_pos ⟨h0,hi0⟩];rfl
    ·rw[decide_eq_false (show ¬ (0:Int)<((i:Nat):Int) by omega),if_neg (fun k=>hi0 k.2)]
     simp only[cond_true,cond_false]
     rw[fin]
     by_cases hm:1099511627776<acc+b[i] * 2 ^ (7 * i)
     ·rw[if_pos hm,if_pos hm]
     ·rw[if_neg hm,if_neg hm]
   ·rw[decide_eq_false (show ¬ ((b[i]:Nat):Int)=0 by omega),if_neg (fun k=>h0 k.1)]
    simp only[cond_false]
    rw[fin]
    by_cases hm:1099511627776<acc+b[i] * 2 ^ (7 * i)
    ·rw[if_pos hm,if_pos hm]
    ·rw[if_neg hm,if_neg hm]
theorem xb (b:List Nat)(hb:∀ c∈b,c<256)(hl:b.length≤1000000000)(at':Nat)(hat:at'≤b.length) :
  f98 (ints b) (at':Int)=some (match qO (b.drop at') with
   | none=>(0,-1,())
   | some (v,k)=>(((v:Nat):Int),((at'+k:Nat):Int),())):=by
 have hm:(cond (decide ((al .i64 (((b.length:Nat):Int)-(at':Int)))<6)) (al .i64 (((b.length:Nat):Int)-(at':Int))) 6)=((min (b.length-at') 6:Nat):Int):=by
  rw[bY (by omega) (by omega)]
  by_cases h:b.length-at'<6
  ·rw[decide_eq_true (by omega)];show _=_;simp only[cond_true];omega
  ·rw[decide_eq_false (by omega)];show _=_;simp only[cond_false];omega
 have he:(cond (decide ((al .i64 ((at':Int)+((min (b.length-at') 6:Nat):Int)))<((b.length:Nat):Int))) (al .i64 ((at':Int)+((min (b.length-at') 6:Nat):Int))) ((b.length:Nat):Int))=((at'+min (b.length-at') 6:Nat):Int):=by
  rw[bY (by omega) (by omega)]
  by_cases h:at'+min (b.length-at') 6<b.length
  ·rw[decide_eq_true (by omega)];simp only[cond_true];omega
  ·rw[decide_eq_false (by omega)];simp only[cond_false];omega
 have hsl:eJ at' (eK (at'+min (b.length-at') 6) (ints b))=ints ((b.drop at').take 6):=by
  rw[cz,cO,fj]
  congr 1
  rw[dp,List.take_eq_take_iff,bi]
  omega
 unfold f98 qO td
 rw[aE,decide_eq_false (show ¬ (at':Int)<0 by omega),decide_eq_false (show ¬ ((b.length:Nat):Int)<(at':Int) by omega)]
 simp only[cond_false,hm,he,ap]
 rw[eL,bu (show at'≤at'+min (b.length-at') 6 by omega),bu (show at'+min (b.length-at') 6≤b.length by omega)]
 simp only[be,cond_true,hsl,aE]
 have hlp:=OY at' ((b.drop at').take 6) (fun c hc=>hb c (List.mem_of_mem_drop (List.mem_of_mem_take hc))) (by rw[List.length_take];omega) (by omega) ((b.drop at').take 6).length 0 0 az (by omega) (by rw[List.length_take];unfold az;omega) (by simp)
 rw[bj] at hlp
 have hlp':iter az vC ((((at':Nat):Int),0,ints ((b.drop at').take 6),((((b.drop at').take 6).length:Nat):Int),0,()),(),())=_:=hlp
 rw[hlp']
 cases Ol 0 0 ((b.drop at').take 6) with
 | none=>rfl
 | some p=>obtain⟨v,k⟩:=p;rfl
abbrev DY (b:List Nat)(at':Nat)(is:Bool)(out:List Nat):gE:=(((),(),((at':Nat):Int),()),(((),()),(is,()),(ints b,()),((),(),(),(),(),(),(),(),(),(),(),(),(),(),(),(),(),(),(),(),(),(),(),(),(),(),()),()),ints out,())
abbrev WJ (b:List Nat)(is:Bool)(out:List Nat):lD:=((),(((),()),(is,()),(ints b,()),((),(),(),(),(),(),(),(),(),(),(),(),(),(),(),(),(),(),(),(),(),(),(),(),(),(),()),()),ints out,())
abbrev Ze (b:List Nat)(is:Bool)(out:List Nat):j0:=((),(((),()),(is,()),(ints b,()),((),(),(),(),(),(),(),(),(),(),(),(),(),(),(),(),(),(),(),(),(),(),(),(),(),(),()),()),ints out,())
theorem XH (b:List Nat)(hb:∀ c∈b,c<256)(hl:b.length≤1000000000):∀ (k at' fuel:Nat) (out:List Nat),out.length+k=400→at'≤b.length→k+1≤fuel →
  ∃ r,iter fuel bG (DY b at' true out)=some r∧(match uJ k (b.drop at') with
   | some ms=>r = .inl (WJ b true (out++ms))
   | none=>∃ o,r = .inr (Ze b false o)):=by
 intro k
 induction k with
 | zero=>
  intro at' fuel out hk hat hf
  obtain⟨fuel,rfl⟩:∃ g,fuel=g+1:=⟨fuel-1,by omega⟩
  by_cases hlt:at'<b.length
  ·obtain⟨c,l,e⟩:∃ c l,b.drop at'=c::l:=by
    match h:b.drop at' with
    | []=>have:=congrArg ft h;rw[bi] at this;simp at this;omega
    | c::l=>exact⟨c,l,rfl⟩
   rw[e]
   refine⟨.inr (Ze b false out),fQ ?_,⟨out,rfl⟩⟩
   simp only[DY,bG,dL,aE,gp hlt,cond_true,xb b hb hl at' hat,ae]
   cases qO (b.drop at') with
   | none=>rfl
   | some p=>
    obtain⟨v,m⟩:=p
    simp only
    rw[decide_eq_false (show ¬ ((at'+m:Nat):Int) = -1 by omega),decide_eq_true (show ((out.length:Nat):Int)=400 by omega)]
    rfl
  ·have:at'=b.length:=by omega
   subst this
   rw[bm]
   refine⟨.inl (WJ b true out),bW ?_,by simp[uJ]⟩
   simp only[DY,bG,dL,aE,ow,cond_false]
 | succ k ih=>
  intro at' fuel out hk hat hf
  obtain⟨fuel,rfl⟩:∃ g,fuel=g+1:=⟨fuel-1,by omega⟩
  by_cases hlt:at'<b.length
  ·obtain⟨c,l,e⟩:∃ c l,b.drop at'=c::l:=by
    match h:b.drop at' with
    | []=>have:=congrArg ft h;rw[bi] at this;simp at this;omega
    | c::l=>exact⟨c,l,rfl⟩
   rw[e,uJ,← e]
   have hb':∀ c∈b.drop at',c<256:=fun c hc=>hb c (List.mem_of_mem_drop hc)
   cases hg:qO (b.drop at') with
   | none=>
    refine⟨.inr (Ze b false out),fQ ?_,⟨out,rfl⟩⟩
    simp only[DY,bG,dL,aE,gp hlt,cond_true,xb b hb hl at' hat,ae,hg]
    rfl
   | some p=>
    obtain⟨v,m⟩:=p
    obtain⟨g1,g2,g3⟩:=j6 hb' hg
    have hml:at'+m≤b.length:=by
     have:=congrArg ft g3
     rw[aw,bi,bi,bi] at this
     have:=MB v
     omega
    obtain⟨r,h1,h2⟩:=ih (at'+m) fuel (out++[v]) (by rw[aw,fb];omega) hml (by omega)
    have hn:bG (DY b at' true out)=some (.next (DY b (at'+m) true (out++[v]))):=by
     simp only[DY,bG,dL,aE,gp hlt,cond_true,xb b hb hl at' hat,ae,hg]
     rw[decide_eq_false (show ¬ ((at'+m:Nat):Int) = -1 by omega),decide_eq_false (show ¬ ((out.length:Nat):Int)=400 by omega),decide_eq_true (show (out.length+1) * 8≤140737488355328 by omega),decide_eq_true (show out.length+1≤9223372036854775807 by omega)]
     simp only[cond_false,be,cond_true]
     rw[show [((v:Nat):Int)]=ints [v] from rfl,wi]
    refine⟨r,by rw[bH hn];exact h1,?_⟩
    simp only[fx]
    cases hv:uJ k (b.drop (at'+m)) with
    | none=>rw[hv] at h2;exact h2
    | some ms=>
     rw[hv] at h2
     simp only[Option.map_some]
     rw[h2,cd];rfl
  ·have:at'=b.length:=by omega
   subst this
   rw[bm]
   refine⟨.inl (WJ b true out),bW ?_,by simp[uJ]⟩
   simp only[DY,bG,dL,aE,ow,cond_false]
theorem uU (b:List Nat)(hb:∀ c∈b,c<256)(hl:b.length≤1000000000):f101 (ints b)=some (match uJ 400 b with
  | some ms=>(ints ms,true,())
  | none=>([],false,())):=by
 obtain⟨r,h1,h2⟩:=XH b hb hl 400 0 az [] (by simp) (by omega) (by unfold az;omega)
 rw[bj] at h2
 unfold f101
 have h1':iter az bG (((),(),0,()),(((),()),(true,()),(ints b,()),((),(),(),(),(),(),(),(),(),(),(),(),(),(),(),(),(),(),(),(),(),(),(),(),(),(),()),()),[],())=some r:=h1
 rw[h1']
 cases hv:uJ 400 b with
 | none=>
  rw[hv] at h2
  obtain⟨o,rfl⟩:=h2
  rfl
 | some ms=>
  rw[hv] at h2
  subst h2
  rfl
theorem JU (n:Int):f143 n=some (decide (0≤n∧n<274877906944),()):=by
 unfold f143
 by_cases h:0≤n<;>simp[h]
theorem Kj (k:Nat)(h:k≤549755813888):f142 (k:Int)=some (rN k,()):=by
 unfold f142
 rw[decide_eq_false (show ¬ (k:Int)<0 by omega),decide_eq_false (show ¬ (549755813888:Int)<(k:Int) by omega)]
 simp only[cond_false]
 have hfd:Int.fdiv (k:Int) 2=((k / 2:Nat):Int):=by rw[eI _ (by omega)];rfl
 have ha:aG .and .i64 (k:Int) 1=((k % 2:Nat):Int):=by
  have:=VV (a:=k) (b:=1) (by omega) (by omega)
  rw[show ((1:Nat):Int)=1 from rfl] at this
  rw[this,Nat.and_one_is_mod]
 rw[hfd,ha,bY (by omega) (by omega)]
 unfold rN
 by_cases h2:k % 2=0
 ·rw[if_pos h2,h2]
  have:=Vj (a:=k / 2) (b:=0) (by omega) (by omega)
  rw[show ((0:Nat):Int)=0 from rfl] at this
  rw[show (0:Int)-((0:Nat):Int)=0 from rfl,this,Nat.xor_zero]
 ·rw[if_neg h2,show k % 2=1 by omega]
  have e:aG .xor .i64 ((k / 2:Nat):Int) (0-((1:Nat):Int)) = -((k / 2:Nat):Int)-1:=by
   show al .i64 (((dk 64 ((k / 2:Nat):Int)) ^^^ (dk 64 (0-((1:Nat):Int)))).toNat:Int)=_
   have e1:dk 64 (0-((1:Nat):Int))=BitVec.allOnes 64:=by decide
   rw[e1,BitVec.xor_allOnes,BitVec.toNat_not,dw (by omega),IntKind.wrap_i64]
   omega
  rw[e]
theorem YU (ks:List Nat)(hl:ks.length≤400):∀ (d j fuel:Nat) (a:Int) (out:List Nat),j+d=ks.length→d<fuel→out.length=j→0≤a→a<274877906944 →
  ∃ r,iter fuel kw ((ints ks,(),(),((ks.length:Nat):Int),((j:Nat):Int),()),((a,()),()),ints out,())=some r∧(match lM a (ks.drop j) with
   | some xs=>r = .inl ((),(),ints (out++xs),())
   | none=>r = .inr ((false,()),(),[],())):=by
 intro d
 induction d with
 | zero=>
  intro j fuel a out hj hf ho h0 h1
  obtain⟨fuel,rfl⟩:∃ g,fuel=g+1:=⟨fuel-1,by omega⟩
  have:j=ks.length:=by omega
  subst this
  rw[bm]
  refine⟨_,bW (y:=((),(),ints out,())) ?_,by simp[lM]⟩
  simp only[kw,Ba,ow,cond_false]
 | succ d ih=>
  intro j fuel a out hj hf ho h0 h1
  obtain⟨fuel,rfl⟩:∃ g,fuel=g+1:=⟨fuel-1,by omega⟩
  have hlt:j<ks.length:=by omega
  rw[ba hlt,lM]
  have bad:∀ (hb:¬ (ks[j]≤549755813888∧0≤a+rN ks[j]∧a+rN ks[j]<274877906944)),kw ((ints ks,(),(),((ks.length:Nat):Int),((j:Nat):Int),()),((a,()),()),ints out,())=some (.ret ((false,()),(),[],())):=by
   intro hb
   simp only[kw,Ba,gp hlt,aE,eL,cond_true,be,ap,GJ hlt]
   by_cases hk:ks[j]≤549755813888
   ·have hz : -274877906945≤rN ks[j]∧rN ks[j]≤274877906944:=by unfold rN;split<;>omega
    rw[Kj _ hk,decide_eq_true (show ((ks[j]:Nat):Int)≤549755813888 by omega)]
    simp only[ae,cond_true]
    rw[bY (x:=a+rN ks[j]) (by omega) (by omega),JU,decide_eq_false (fun h=>hb ⟨hk,h.1,h.2⟩)]
    rfl
   ·have:f142 ((ks[j]:Nat):Int)=some (0,()):=by
     unfold f142
     rw[decide_eq_false (show ¬ ((ks[j]:Nat):Int)<0 by omega),decide_eq_true (show (549755813888:Int)<((ks[j]:Nat):Int) by omega)];rfl
    rw[this,decide_eq_false (show ¬ ((ks[j]:Nat):Int)≤549755813888 by omega)]
    rfl
  by_cases hc:ks[j]≤549755813888∧0≤a+rN ks[j]∧a+rN ks[j]<274877906944
  ·rw[if_pos hc]
   obtain⟨r,k1,k2⟩:=ih (j+1) fuel (a+rN ks[j]) (out++[(a+rN ks[j]).toNat]) (by omega) (by omega) (by rw[aw,ho];rfl) hc.2.1 hc.2.2
   have hn:kw ((ints ks,(),(),((ks.length:Nat):Int),((j:Nat):Int),()),((a,()),()),ints out,())=some (.next ((ints ks,(),(),((ks.length:Nat):Int),((j+1:Nat):Int),()),((a+rN ks[j],()),()),ints (out++[(a+rN ks[j]).toNat]),())):=by
    simp only[kw,Ba,gp hlt,aE,eL,cond_true,be,ap,GJ hlt,Kj _ hc.1,ae,nx hlt (show ks.length≤9223372036854775807 by omega)]
    rw[decide_eq_true (show ((ks[j]:Nat):Int)≤549755813888 by have:=hc.1;omega),bY (x:=a+rN ks[j]) (by omega) (by omega),JU,decide_eq_true hc.2,decide_eq_true (show (out.length+1) * 8≤140737488355328 by omega),decide_eq_true (show out.length+1≤9223372036854775807 by omega)]
    simp only[ae,da,cond_false,cond_true,be]
    rw[show [a+rN ks[j]]=ints [(a+rN ks[j]).toNat] by simp[ints];omega,wi]
   refine⟨r,by rw[bH hn];exact k1,?_⟩
   cases hv:lM (a+rN ks[j]) (ks.drop (j+1)) with
   | none=>rw[hv] at k2;exact k2
   | some xs=>
    rw[hv] at k2
    simp only[Option.map_some]
    rw[k2,cd];rfl
  ·rw[if_neg hc]
   exact⟨_,fQ (bad hc),rfl⟩
theorem RO (b:List Nat)(hb:∀ c∈b,c<256)(hl:b.length≤1000000000):f104 (ints b)=some (match (uJ 400 b).bind (lM 0) with
  | some xs=>(ints xs,true,())
  | none=>([],false,())):=by
 unfold f104
 rw[uU b hb hl]
 cases hv:uJ 400 b with
 | none=>rfl
 | some ks=>
  obtain⟨g1,_,_⟩:=oG 400 b ks hb hv
  simp only[ae,da,cond_false,aE]
  obtain⟨r,h1,h2⟩:=YU ks g1 ks.length 0 az 0 [] (by omega) (by unfold az;omega) rfl (by omega) (by omega)
  rw[bj] at h2
  have h1':iter az kw ((ints ks,(),(),((ks.length:Nat):Int),0,()),((0,()),()),[],())=some r:=h1
  rw[h1']
  cases hs:lM 0 ks with
  | none=>rw[hs] at h2;subst h2;rfl
  | some xs=>rw[hs] at h2;subst h2;rfl
theorem RW (n w:Nat)(hn:n≤400)(hw:w≤32):f140 (n:Int) (w:Int)=some (((nC n w:Nat):Int),()):=by
 unfold f140 nC
 have hm:n * w≤400 * 32:=Nat.mul_le_mul hn hw
 rw[decide_eq_false (show ¬ (n:Int)<0 by omega),decide_eq_false (show ¬ (400:Int)<(n:Int) by omega),decide_eq_false (show ¬ (w:Int)<0 by omega),decide_eq_false (show ¬ (32:Int)<(w:Int) by omega)]
 simp only[cond_false]
 have e:(n:Int) * (w:Int)=((n * w:Nat):Int):=by simp
 rw[e,bY (x:=((n * w:Nat):Int)) (by omega) (by omega),bY (x:=((n * w:Nat):Int)+8) (by omega) (by omega),bY (x:=((n * w:Nat):Int)+8-1) (by omega) (by omega),dd (by omega),bY (by omega) (by omega)]
 congr 2
 omega
theorem Mi {n:Nat}(h:n<2 ^ 64):al .u64 (n:Int)=(n:Int):=by rw[IntKind.wrap_u64];omega
theorem aav {a b:Nat}(ha:a<2 ^ 64)(hb:b<2 ^ 64):aG .or .u64 (a:Int) (b:Int)=((a ||| b:Nat):Int):=by
 show al .u64 ((dk 64 (a:Int) ||| dk 64 (b:Int)).toNat:Int)=_
 rw[BitVec.toNat_or,dw ha,dw hb,Mi (Nat.or_lt_two_pow ha hb)]
theorem WR {a b:Nat}(ha:a<2 ^ 64)(hb:b<2 ^ 64):aG .and .u64 (a:Int) (b:Int)=((a &&& b:Nat):Int):=by
 show al .u64 ((dk 64 (a:Int) &&& dk 64 (b:Int)).toNat:Int)=_
 rw[BitVec.toNat_and,dw ha,dw hb,Mi (Nat.lt_of_le_of_lt Nat.and_le_left ha)]
theorem Ql {left h n:Nat}(hl:left<2 ^ h)(hh:h≤30)(hn:n<2 ^ 20) :
  aG .or .u64 (left:Int) (al .u64 ((al .u64 (n:Int)) * ((2:Int) ^ ((min (eh (h:Int)) 64):Nat))))=((left+n * 2 ^ h:Nat):Int)∧left+n * 2 ^ h<2 ^ 51:=by
 have hp:2 ^ h≤2 ^ 30:=db (by omega) hh
 have hm:n * 2 ^ h≤(2 ^ 20-1) * 2 ^ 30:=Nat.mul_le_mul (by omega) hp
 rw[ap,eQ (by omega),Mi (by omega)]
 have e:(n:Int) * ((2:Int) ^ h)=((n * 2 ^ h:Nat):Int):=by simp
 rw[e,Mi (by omega),aav (by omega) (by omega),Nat.or_comm]
 have:=dE hl n
 rw[ee] at this
 rw[← this]
 omega
theorem fill (w:Nat)(hw1:1≤w)(hw:w≤20)(n i:Int):∀ (fuel h left:Nat) (b:List Nat) (out:List Int),(∀ c∈b,c<256)→h<w+8→left<2 ^ h→w≤h+8 * b.length→0<fuel∧w+1≤h+fuel→out.length≤1000 →
  ∃ b' h' left',iter fuel wO ((ints b,((w:Nat):Int),((left:Nat):Int),((h:Nat):Int),n,i,()),(),out,()) =
    some (.inl ((ints b',((w:Nat):Int),((left' / 2 ^ w:Nat):Int),((h'-w:Nat):Int),n,i,()),(),out++[((left' % 2 ^ w:Nat):Int)],())) ∧
   (∀ c∈b',c<256)∧left'+2 ^ h' * mC b'=left+2 ^ h * mC b∧w≤h'∧h'<w+8∧left'<2 ^ h'∧h'+8 * b'.length=h+8 * b.length:=by
 intro fuel
 induction fuel with
 | zero=>
  intro h left b out hb hh hl hlen hf ho
  omega
 | succ fuel ih=>
  intro h left b out hb hh hl hlen hf ho
  by_cases hc:h<w
  ·match b,hb,hlen with
   | [],_,hlen=>simp at hlen;omega
   | c::r,hb,hlen=>
    have hc256:=hb c (by simp)
    obtain⟨o1,o2⟩:=Ql hl (by omega) (show c<2 ^ 20 by omega)
    have hl2:left+c * 2 ^ h<2 ^ (h+8):=by
     rw[du]
     have:2 ^ h * (c+1)≤2 ^ h * 256:=Nat.mul_le_mul_left _ hc256
     rw[Nat.mul_add,Nat.mul_one,ee (2 ^ h) c] at this
     have e8:2 ^ 8=256:=rfl
     rw[e8]
     omega
    obtain⟨b',h',left',k1,k2,k3,k4,k5,k6,k7⟩:=ih (h+8) (left+c * 2 ^ h) r out (fun x hx=>hb x (by simp[hx])) (by omega) hl2 (by rw[dt] at hlen;omega) (by omega) ho
    refine⟨b',h',left',?_,k2,?_,k4,k5,k6,by rw[k7,dt];omega⟩
    ·rw[bH (x':=((ints r,((w:Nat):Int),((left+c * 2 ^ h:Nat):Int),((h+8:Nat):Int),n,i,()),(),out,()))]
     ·exact k1
     ·have hr0:rd (.int .u8) (ints (c::r)) 0=((c:Nat):Int):=Z1 (l:=c::r) (j:=0) (by simp)
      simp only[wO,Ga,aE,dt]
      rw[decide_eq_true (show ((h:Nat):Int)<((w:Nat):Int) by omega),decide_eq_true (show (0:Int)<((r.length+1:Nat):Int) by omega),decide_eq_false (show ¬ ((h:Nat):Int)<0 by omega),decide_eq_true (show (1:Int)≤((r.length+1:Nat):Int) by omega),bu (cf (r.length+1)),hr0,o1,bY (by omega) (by omega)]
      simp only[cond_true,fg,be,ap]
      rw[cn (by rw[aE,dt];exact cf _)]
      rfl
    ·rw[k3,mC,du,Nat.mul_add]
     have e8:2 ^ 8=256:=rfl
     rw[e8,gk,ee c (2 ^ h)]
     omega
  ·refine⟨b,h,left,bW ?_,hb,rfl,by omega,hh,hl,rfl⟩
   have hp:2 ^ h≤2 ^ 28:=db (by omega) (by omega)
   have hpw:1≤2 ^ w:=Nat.one_le_two_pow
   have hpw2:2 ^ w≤2 ^ 20:=db (by omega) hw
   have e1:(1:Int) * ((2:Int) ^ w)=((2 ^ w:Nat):Int):=by simp
   have e2:al .u64 (((2 ^ w:Nat):Int)-1)=((2 ^ w-1:Nat):Int):=by
    rw[show ((2 ^ w:Nat):Int)-1=((2 ^ w-1:Nat):Int) by omega,Mi (by omega)]
   have hm:left % 2 ^ w<2 ^ w:=Nat.mod_lt _ (fa w)
   simp only[wO,Ga]
   rw[decide_eq_false (show ¬ ((h:Nat):Int)<((w:Nat):Int) by omega),decide_eq_false (show ¬ ((w:Nat):Int)<0 by omega),decide_eq_true (show (out.length+1) * 8≤140737488355328 by omega),decide_eq_true (show out.length+1≤9223372036854775807 by omega)]
   simp only[cond_true,cond_false,fg,be,ap,eQ (show w≤64 by omega)]
   rw[e1,Mi (n:=2 ^ w) (by omega),e2,WR (by omega) (by omega),Nat.and_two_pow_sub_one_eq_mod,fdiv_pow,bY (x:=((left % 2 ^ w:Nat):Int)) (by omega) (by omega),bY (x:=((h:Nat):Int)-((w:Nat):Int)) (by omega) (by omega),show ((h:Nat):Int)-((w:Nat):Int)=((h-w:Nat):Int) by omega]
theorem Y4 (w n:Nat)(hw1:1≤w)(hw:w≤20)(hn:n≤400):∀ (d i fuel h left t:Nat) (b:List Nat) (out:List Nat),i+d=n→d<fuel→(∀ c∈b,c<256)→h<8→left<2 ^ h→left+2 ^ h * mC b=t→w * d≤h+8 * b.length→h+8 * b.length<w * d+8→out.length=i →
  iter fuel s6 ((ints b,((w:Nat):Int),((left:Nat):Int),((h:Nat):Int),((n:Nat):Int),((i:Nat):Int),()),(),ints out,())=some (.inl ((((t / 2 ^ (w * d):Nat):Int),()),(),ints (out++Mv w d t),())):=by
 intro d
 induction d with
 | zero=>
  intro i fuel h left t b out hi hf hb h8 hl ht h1 h2 ho
  obtain⟨fuel,rfl⟩:∃ g,fuel=g+1:=⟨fuel-1,by omega⟩
  have:i=n:=by omega
  subst this
  have hb0:b=[]:=by
   match b with
   | []=>rfl
   | c::r=>simp at h2;omega
  subst hb0
  simp only[mC,Nat.mul_zero,Nat.add_zero] at ht
  subst ht
  refine bW ?_
  simp only[s6,HA,ow,cond_false,Nat.mul_zero,Nat.pow_zero,Nat.div_one,Mv,dv]
 | succ d ih=>
  intro i fuel h left t b out hi hf hb h8 hl ht h1 h2 ho
  obtain⟨fuel,rfl⟩:∃ g,fuel=g+1:=⟨fuel-1,by omega⟩
  have hil:i<n:=by omega
  have hwd:w * (d+1)=w * d+w:=by rw[Nat.mul_add,Nat.mul_one]
  obtain⟨b',h',left',k1,k2,k3,k4,k5,k6,k7⟩:=fill w hw1 hw ((n:Nat):Int) ((i:Nat):Int) az h left b (ints out) hb (by omega) hl (by omega) (by unfold az;omega) (by rw[aE];omega)
  have e1:left' % 2 ^ w=t % 2 ^ w:=by
   rw[← ht,← k3,show 2 ^ h'=2 ^ w * 2 ^ (h'-w) by rw[← du];congr 1;omega,gk,Nat.add_mul_mod_self_left]
  have e2:left' / 2 ^ w+2 ^ (h'-w) * mC b'=t / 2 ^ w:=by
   rw[← ht,← k3,show 2 ^ h'=2 ^ w * 2 ^ (h'-w) by rw[← du];congr 1;omega,gk,Nat.add_mul_div_left _ _ (fa w)]
  have:=ih (i+1) fuel (h'-w) (left' / 2 ^ w) (t / 2 ^ w) b' (out++[left' % 2 ^ w]) (by omega) (by omega) k2 (by omega) (Nat.div_lt_of_lt_mul (by rw[← du,show w+(h'-w)=h' by omega];exact k6)) e2 (by omega) (by omega) (by rw[aw,ho];rfl)
  rw[bH (x':=((ints b',((w:Nat):Int),((left' / 2 ^ w:Nat):Int),((h'-w:Nat):Int),((n:Nat):Int),((i+1:Nat):Int),()),(),ints (out++[left' % 2 ^ w]),()))]
  ·rw[this,Nat.div_div_eq_div_mul,← du,show w+w * d=w * (d+1) by omega,cd,e1,Mv]
   rfl
  ·simp only[s6,HA,gp hil,cond_true]
   rw[k1]
   simp only[ae,nx hil (show n≤9223372036854775807 by omega)]
   rw[show [((left' % 2 ^ w:Nat):Int)]=ints [left' % 2 ^ w] from rfl,wi]
theorem Uf (b:List Nat)(hb:∀ c∈b,c<256)(n w:Nat)(hw1:1≤w)(hw:w≤20):f103 (ints b) (n:Int) (w:Int)=some (if n≤400 then (match nG w n b with
  | some l=>(ints l,true,())
  | none=>([],false,())) else ([],false,())):=by
 unfold f103
 by_cases hn:n≤400
 case neg=>
  rw[if_neg hn]
  have:f140 (n:Int) (w:Int)=some (-1,()):=by
   unfold f140
   rw[decide_eq_false (show ¬ (n:Int)<0 by omega),decide_eq_true (show (400:Int)<(n:Int) by omega)];rfl
  rw[this,aE]
  simp only[ae]
  rw[decide_eq_false (show ¬ (-1:Int)=((b.length:Nat):Int) by omega)];rfl
 rw[if_pos hn,RW n w hn (by omega),aE]
 simp only[ae]
 unfold nG
 by_cases hs:nC n w=b.length
 case neg=>
  rw[decide_eq_false (show ¬ ((nC n w:Nat):Int)=((b.length:Nat):Int) by omega),if_neg (fun h=>hs h.1.symm)];rfl
 rw[decide_eq_true (show ((nC n w:Nat):Int)=((b.length:Nat):Int) by omega)]
 simp only[da,cond_false]
 have hsz:w * n≤8 * b.length∧8 * b.length<w * n+8:=by
  rw[← hs]
  unfold nC
  rw[ee w]
  omega
 have hlp:=Y4 w n hw1 hw hn n 0 az 0 0 (mC b) b [] (by omega) (by unfold az;omega) hb (by omega) (by simp) (by simp) (by omega) (by omega) rfl
 have hlp':iter az s6 ((ints b,((w:Nat):Int),0,0,((n:Nat):Int),0,()),(),[],())=_:=hlp
 rw[hlp']
 simp only[ae,dC]
 by_cases hv:mC b<2 ^ (w * n)
 ·rw[if_pos ⟨hs.symm,hv⟩,Nat.div_eq_of_lt hv];rfl
 ·rw[if_neg (fun h=>hv h.2)]
  have:1≤mC b / 2 ^ (w * n):=(Nat.le_div_iff_mul_le (fa _)).2 (by omega)
  rw[decide_eq_false (show ¬ ((mC b / 2 ^ (w * n):Nat):Int)=0 by omega)];rfl
section
variable {s:ST}
theorem ck (n:Nat)(h:n≤100000):(decide (n * 1≤140737488355328)&&decide (n≤9223372036854775807))=true:=by
 rw[decide_eq_true (by omega),decide_eq_true (by omega)];rfl
end
set_option maxRecDepth 100000
noncomputable def xm {R:Type}(b:List Int)(KF:Option R)(K:List Int→List Int→Option R):Option R:=
 (f98 b 0).bind fun y=>cond (decide (y.2.1=(-1))) KF (cond (decide ((al .i64 (((b.length:Nat):Int)-y.2.1))<y.1)) KF
  (cond ((((decide (0≤y.2.1))&&(decide (y.2.1≤(al .i64 (y.2.1+y.1)))))&&(decide ((al .i64 (y.2.1+y.1))≤(al .i64 (y.2.1+y.1)))))&&(decide ((al .i64 (y.2.1+y.1))≤((b.length:Nat):Int))))
   (cond (((decide (0≤(al .i64 (y.2.1+y.1))))&&(decide ((al .i64 (y.2.1+y.1))≤((b.length:Nat):Int))))&&(decide (((b.length:Nat):Int)≤((b.length:Nat):Int))))
    (K (eJ (eh y.2.1) (eK (eh (al .i64 (y.2.1+y.1))) b)) (eJ (eh (al .i64 (y.2.1+y.1))) (eK (eh ((b.length:Nat):Int)) b))) none) none))
theorem mL {R:Type}(b:List Nat)(hb:∀ c∈b,c<256)(hl:b.length≤1000000000)(KF:Option R)(K:List Int→List Int→Option R) :
  xm (ints b) KF K=match iy b with
   | none=>KF
   | some (p,r)=>K (ints p) (ints r):=by
 unfold xm iy
 have h97:=xb b hb hl 0 (by omega)
 rw[bj,show ((0:Nat):Int)=0 from rfl] at h97
 rw[h97]
 cases hg:qO b with
 | none=>rfl
 | some q=>
  obtain⟨n,k⟩:=q
  obtain⟨g1,g2,g3⟩:=j6 hb hg
  have hk:k≤b.length:=by
   rw[g3,aw,← g2];omega
  simp only[ae,aE,Nat.zero_add]
  rw[decide_eq_false (show ¬ ((k:Nat):Int) = -1 by omega),bY (x:=((b.length:Nat):Int)-((k:Nat):Int)) (by omega) (by omega)]
  simp only[cond_false]
  by_cases hn:n≤b.length-k
  ·rw[if_pos hn,decide_eq_false (show ¬ ((b.length:Nat):Int)-((k:Nat):Int)<((n:Nat):Int) by omega),bY (x:=((k:Nat):Int)+((n:Nat):Int)) (by omega) (by omega),show ((k:Nat):Int)+((n:Nat):Int)=((k+n:Nat):Int) by omega]
   simp only[cond_false,ap,eL,Bool.true_and]
   rw[bu (show k≤k+n by omega),bu (cf (k+n)),bu (show k+n≤b.length by omega),bu (cf b.length)]
   simp only[be,cond_true]
   congr 1
   ·rw[cz,cO,fj,dp]
   ·rw[cz,cO,cn (cf _),fx]
  ·rw[if_neg hn,decide_eq_true (show ((b.length:Nat):Int)-((k:Nat):Int)<((n:Nat):Int) by omega)]
   rfl
theorem Uj (b:List Int):f100 b=xm b (some (([],[],[],[],[]),false,())) fun p0 r0=>xm r0 (some ((p0,[],[],[],[]),false,())) fun p1 r1=>xm r1 (some ((p0,p1,[],[],[]),false,())) fun p2 r2=>
  xm r2 (some ((p0,p1,p2,[],[]),false,())) fun p3 r3=>xm r3 (some ((p0,p1,p2,p3,[]),false,())) fun p4 r4=>some ((p0,p1,p2,p3,p4),decide (((r4.length:Nat):Int)=0),()):=rfl
theorem nP {b p r:List Nat}(hb:∀ c∈b,c<256)(h:iy b=some (p,r)):p.length≤b.length∧r.length≤b.length:=by
 have:=congrArg ft (dW hb h).1
 unfold Ch at this
 simp only[aw] at this
 omega
theorem Uk (b:List Nat)(hb:∀ c∈b,c<256)(hl:b.length≤1000000000) :
  ∃ (X0:List Nat) (X1:List Int×List Int×List Int×List Int) (is:Bool),f100 (ints b)=some ((ints X0,X1),is,())∧(∀ c∈X0,c<256)∧X0.length≤b.length ∧
   (match mM b with
    | some (p,r)=>if r=[] then is=true∧X0=p.1∧X1=(ints p.2.1,ints p.2.2.1,ints p.2.2.2.1,ints p.2.2.2.2) else is=false
    | none=>is=false):=by
 rw[Uj,mL b hb hl]
 unfold mM
 cases h0:iy b with
 | none=>exact⟨[],_,false,rfl,by simp,by simp,rfl⟩
 | some q0=>
 obtain⟨p0,r0⟩:=q0
 obtain⟨e0,_,b0,c0⟩:=dW hb h0
 obtain⟨l0,m0⟩:=nP hb h0
 simp only[ae]
 rw[mL r0 c0 (by omega)]
 cases h1:iy r0 with
 | none=>exact⟨p0,_,false,rfl,b0,l0,rfl⟩
 | some q1=>
 obtain⟨p1,r1⟩:=q1
 obtain⟨e1,_,b1,c1⟩:=dW c0 h1
 obtain⟨l1,m1⟩:=nP c0 h1
 simp only[ae]
 rw[mL r1 c1 (by omega)]
 cases h2:iy r1 with
 | none=>exact⟨p0,_,false,rfl,b0,l0,rfl⟩
 | some q2=>
 obtain⟨p2,r2⟩:=q2
 obtain⟨e2,_,b2,c2⟩:=dW c1 h2
 obtain⟨l2,m2⟩:=nP c1 h2
 simp only[ae]
 rw[mL r2 c2 (by omega)]
 cases h3:iy r2 with
 | none=>exact⟨p0,_,false,rfl,b0,l0,rfl⟩
 | some q3=>
 obtain⟨p3,r3⟩:=q3
 obtain⟨e3,_,b3,c3⟩:=dW c2 h3
 obtain⟨l3,m3⟩:=nP c2 h3
 simp only[ae]
 rw[mL r3 c3 (by omega)]
 cases h4:iy r3 with
 | none=>exact⟨p0,_,false,rfl,b0,l0,rfl⟩
 | some q4=>
 obtain⟨p4,r4⟩:=q4
 simp only[ae,aE]
 refine⟨p0,_,_,rfl,b0,l0,?_⟩
 by_cases hr:r4=[]
 ·rw[if_pos hr,hr]
  exact⟨rfl,rfl,rfl⟩
 ·rw[if_neg hr]
  refine decide_eq_false ?_
  intro h
  exact hr (List.eq_nil_of_length_eq_zero (by omega))
abbrev Lb:=((),(),(),(),(),(),(),(),(),(),(),(),(),(),(),(),(),(),(),(),(),(),(),(),(),(),(),(),(),(),(),(),(),(),(),(),(),(),(),(),(),(),(),(),(),(),(),(),(),(),(),(),(),(),(),(),(),(),(),(),(),(),(),(),(),(),(),(),(),(),(),(),(),(),(),(),(),(),(),(),(),(),(),(),(),(),(),(),(),(),(),(),(),(),(),(),(),(),(),(),(),(),(),(),(),(),(),(),(),(),(),(),(),(),(),(),(),(),(),(),(),(),(),(),(),(),(),(),(),(),(),(),(),(),(),(),(),(),(),(),(),(),(),(),(),(),(),(),(),(),(),(),(),(),(),(),(),(),(),(),(),(),(),(),(),(),(),(),(),(),(),(),(),(),(),(),(),(),(),(),(),(),(),(),(),(),(),(),(),(),(),(),(),(),(),(),(),(),(),(),(),(),(),(),(),(),(),(),(),(),(),(),(),(),(),(),(),(),(),(),(),(),(),(),(),(),(),(),(),(),(),(),(),(),(),(),(),())
abbrev nU (p:P5):List Int×List Int×List Int×List Int×List Int×Unit:=(ints p.1,ints p.2.1,ints p.2.2.1,ints p.2.2.2.1,ints p.2.2.2.2,())
abbrev FF (ns:List Nat):Int×Int×Int×Int×Int×Int×Int×Int×Int×Int×Int×Bool×Int×Unit×Unit×Unit×Unit:=
 (gN ns 0,gN ns 1,gN ns 2,gN ns 3,gN ns 4,gN ns 5,gN ns 6,gN ns 7,gN ns 8,gN ns 9,gN ns 10,decide (gN ns 11=1),gN ns 12,(),(),(),())
theorem Lf (n:Nat)(l:List Nat)(h:l.length=3 * n):(gu l).length=n:=(o7 n l h).2
theorem Jw (ns m:List Nat)(p:P5)(hm:m.length≤100000):∀ (d i fuel:Nat) (out:List HT),m.length=i+3 * d→d<fuel→out.length+d≤100000 →
  iter fuel dm (((),(),(),((i:Nat):Int),()),(oc,nU p,FF ns,(ints m,()),(3,()),Lb,()),[],[],[],out,[],[],()) =
   some (.inl ((),(oc,nU p,FF ns,(ints m,()),(3,()),Lb,()),[],[],[],out++gu (m.drop i),[],[],()))
 | d,i,0,out,_,h,_=>by omega
 | 0,i,fuel+1,out,hi,_,_=>by
  have:i=m.length:=by omega
  subst this
  rw[bm]
  refine bW ?_
  simp only[dm,mG,aE,ow,cond_false,gu,dv]
 | d+1,i,fuel+1,out,hi,hf,ho=>by
  obtain⟨a,b,c,r,e⟩:∃ a b c r,m.drop i=a::b::c::r:=by
   have hlen:(m.drop i).length=3 * (d+1):=by rw[bi];omega
   match h:m.drop i,hlen with
   | [],hlen=>simp at hlen
   | [_],hlen=>simp at hlen;omega
   | [_,_],hlen=>simp at hlen;omega
   | a::b::c::r,_=>exact⟨a,b,c,r,rfl⟩
  have e3:m.drop (i+3)=r:=by rw[← fx,e];rfl
  have hd:eJ i (eK m.length (ints m))=ints (m.drop i):=by rw[cz,cO,cn (cf _)]
  have hlen:(m.drop i).length=m.length-i:=bi
  have hn:dm (((),(),(),((i:Nat):Int),()),(oc,nU p,FF ns,(ints m,()),(3,()),Lb,()),[],[],[],out,[],[],())
    = some (.next (((),(),(),((i+3:Nat):Int),()),(oc,nU p,FF ns,(ints m,()),(3,()),Lb,()),[],[],[],out++[((a:Int),(b:Int),(c:Int))],[],[],())):=by
   have hw:al .i64 (((i:Nat):Int)+3)=((i+3:Nat):Int):=by rw[bY (by omega) (by omega)];omega
   have hsl:eJ i (eK (i+3) (ints m))=ints [a,b,c]:=by
    rw[cz,cO,fj,dp,e];rfl
   have h3:decide (((m.length-i:Nat):Int)<3)=false:=decide_eq_false (by omega)
   simp only[dm,mG,td,aE,gp (show i<m.length by omega),cond_true,eL,Bool.true_and,bu (show i≤m.length by omega),bu (cf m.length),ap,hd,hlen,h3,cond_false,hw,hsl]
   rw[bu (show i≤i+3 by omega),bu (cf (i+3)),bu (show i+3≤m.length by omega),decide_eq_true (show (out.length+1) * 24≤140737488355328 by omega),decide_eq_true (show out.length+1≤9223372036854775807 by omega)]
   rfl
  rw[bH hn,Jw ns m p hm d (i+3) fuel _ (by omega) (by omega) (by rw[aw,fb];omega),e3,e,cd]
  rfl
theorem aaT (x:Nat)(h:x<2 ^ 20):aG .and .i64 ((x:Nat):Int) 31=((x % 32:Nat):Int):=by
 have:=jS (a:=x) (m:=5) (by omega) (by omega)
 exact this
theorem KA (ns:List Nat)(P0:List HT)(whose fr which till:List Nat)(hl:fr.length=whose.length)(h4:whose.length≤400)(hx:∀ x∈whose,x<2 ^ 20) :
  ∀ (d i fuel:Nat) (out:List LT),i+d=whose.length→d<fuel→out.length=i →
   iter fuel sr (((),(),ints fr,ints which,ints till,ints whose,((whose.length:Nat):Int),((i:Nat):Int),()),(oc,FF ns,()),[],[],[],P0,out,[],()) =
    some (.inl (((),(),ints which,ints till,()),(oc,FF ns,()),[],[],[],P0,out++nE (gN ns 12) (whose.drop i) (fr.drop i),[],()))
 | d,i,0,out,_,h,_=>by omega
 | 0,i,fuel+1,out,hi,_,_=>by
  have:i=whose.length:=by omega
  subst this
  rw[bm]
  refine bW ?_
  simp only[sr,HZ,ow,cond_false,nE,dv]
 | d+1,i,fuel+1,out,hi,hf,ho=>by
  have hiw:i<whose.length:=by omega
  have hif:i<fr.length:=by omega
  have hxi:=hx whose[i] (dq hiw)
  have hn:sr (((),(),ints fr,ints which,ints till,ints whose,((whose.length:Nat):Int),((i:Nat):Int),()),(oc,FF ns,()),[],[],[],P0,out,[],())
    = some (.next (((),(),ints fr,ints which,ints till,ints whose,((whose.length:Nat):Int),((i+1:Nat):Int),()),(oc,FF ns,()),[],[],[],P0,out++[(((whose[i] / 32:Nat):Int),((whose[i] % 32 / 8:Nat):Int),((whose[i] % 8:Nat):Int),(fr[i]:Int),gN ns 12)],[],())):=by
   have hfd:Int.fdiv ((whose[i]:Nat):Int) 32=((whose[i] / 32:Nat):Int):=by rw[eI _ (by omega)];rfl
   have h1:al .i64 (Int.tdiv ((whose[i] % 32:Nat):Int) 8)=((whose[i] % 32 / 8:Nat):Int):=by
    rw[dd (by omega),bY (by omega) (by omega)];rfl
   have h2:Int.tmod ((whose[i] % 32:Nat):Int) 8=((whose[i] % 8:Nat):Int):=by
    rw[dj (by omega)];omega
   simp only[sr,HZ,aE,gp hiw,gp hif,eL,cond_true,be,ap,GJ hiw,GJ hif,nx hiw (show whose.length≤9223372036854775807 by omega),hfd,aaT _ hxi,h1,h2]
   rw[decide_eq_true (show (out.length+1) * 40≤140737488355328 by omega),decide_eq_true (show out.length+1≤9223372036854775807 by omega)]
   rfl
  rw[bH hn,KA ns P0 whose fr which till hl h4 hx d (i+1) fuel _ (by omega) (by omega) (by rw[aw,ho];rfl),ba hiw,ba hif,nE,cd]
  rfl
theorem Kr (ns:List Nat)(P0:List HT)(L0:List LT)(which till:List Nat)(hl:till.length=which.length)(h4:which.length≤400)(hx:∀ x∈which,x<2 ^ 20) :
  ∀ (d i fuel:Nat) (out:List HT),i+d=which.length→d<fuel→out.length=i →
   iter fuel sY (((),(),ints till,ints which,((which.length:Nat):Int),((i:Nat):Int),()),(oc,FF ns,()),[],[],[],P0,L0,out,()) =
    some (.inl (((),(),()),(oc,FF ns,()),[],[],[],P0,L0,out++qs (which.drop i) (till.drop i),()))
 | d,i,0,out,_,h,_=>by omega
 | 0,i,fuel+1,out,hi,_,_=>by
  have:i=which.length:=by omega
  subst this
  rw[bm]
  refine bW ?_
  simp only[sY,FR,ow,cond_false,qs,dv]
 | d+1,i,fuel+1,out,hi,hf,ho=>by
  have hiw:i<which.length:=by omega
  have hif:i<till.length:=by omega
  have hn:sY (((),(),ints till,ints which,((which.length:Nat):Int),((i:Nat):Int),()),(oc,FF ns,()),[],[],[],P0,L0,out,())
    = some (.next (((),(),ints till,ints which,((which.length:Nat):Int),((i+1:Nat):Int),()),(oc,FF ns,()),[],[],[],P0,L0,out++[(((which[i] / 8:Nat):Int),((which[i] % 8:Nat):Int),(till[i]:Int))],())):=by
   have hxi:=hx which[i] (dq hiw)
   ·have h1:al .i64 (Int.tdiv ((which[i]:Nat):Int) 8)=((which[i] / 8:Nat):Int):=by
     rw[dd (by omega),bY (by omega) (by omega)];rfl
    have h2:Int.tmod ((which[i]:Nat):Int) 8=((which[i] % 8:Nat):Int):=by
     rw[dj (by omega)];omega
    simp only[sY,FR,aE,gp hiw,gp hif,eL,cond_true,be,ap,GJ hiw,GJ hif,nx hiw (show which.length≤9223372036854775807 by omega),h1,h2]
    rw[decide_eq_true (show (out.length+1) * 24≤140737488355328 by omega),decide_eq_true (show out.length+1≤9223372036854775807 by omega)]
    rfl
  rw[bH hn,Kr ns P0 L0 which till hl h4 hx d (i+1) fuel _ (by omega) (by omega) (by rw[aw,ho];rfl),ba hiw,ba hif,qs,cd]
  rfl
def YD (o:Option (List Nat)):List Int×Bool×Unit:=match o with
 | some l=>(ints l,true,())
 | none=>([],false,())
theorem JT (b:List Nat)(hb:∀ c∈b,c<256)(n w:Nat)(hw1:1≤w)(hw:w≤20):f103 (ints b) (n:Int) (w:Int)=some (YD (gK w n b)):=by
 rw[Uf b hb n w hw1 hw]
 unfold gK
 by_cases h:n≤400
 ·rw[if_pos h,if_pos h]
  cases nG w n b<;>rfl
 ·rw[if_neg h,if_neg h];rfl
theorem Js (b:List Nat)(hb:∀ c∈b,c<256)(hl:b.length≤1000000000):f104 (ints b)=some (YD (s7 b)):=by
 rw[RO b hb hl]
 unfold s7
 cases (uJ 400 b).bind (lM 0)<;>rfl
abbrev tZ:ST:=(((0,0),(0,0),0,0,0,0),(0,0,0,false),0,[],[],[])
theorem gZ {ns:List Nat}(h:15≤ns.length){i:Nat}(hi:i<15):rd (.int .i64) (ints ns) i=gN ns i:=by
 have hlt:i<ns.length:=by omega
 rw[GJ hlt]
 show _=((ns.getD i 0:Nat):Int)
 rw[List.getD_eq_getElem?_getD,List.getElem?_eq_getElem hlt];rfl
theorem Zb (b:List Nat)(hb:∀ c∈b,c<256)(hl:b.length≤1000000000):f71 (ints b)=some (match jD b with
  | some s=>(s,true,())
  | none=>(tZ,false,())):=by
 obtain⟨X0,X1,is,h30,hX,hXl,hm⟩:=Uk b hb hl
 unfold f71
 rw[h30]
 simp only[ae]
 rw[uU X0 hX (by omega)]
 have bad:is=false→f71 (ints b)=some (tZ,false,()):=by
  intro hi
  unfold f71
  rw[h30]
  simp only[ae]
  rw[uU X0 hX (by omega),hi]
  cases uJ 400 X0<;>rfl
 have badr:jD b=none→is=false∨(∃ p,mM b=some (p,[])):=by
  intro h
  cases hs:mM b with
  | none=>rw[hs] at hm;exact .inl hm
  | some q=>
   obtain⟨p,r⟩:=q
   rw[hs] at hm
   by_cases hr:r=[]
   ·subst hr;exact .inr ⟨p,rfl⟩
   ·simp only[if_neg hr] at hm;exact .inl hm
 cases hs:mM b with
 | none=>
  rw[hs] at hm
  have hm':is=false:=hm
  have hr:jD b=none:=by unfold jD;rw[hs];rfl
  rw[hr,hm']
  cases uJ 400 X0<;>rfl
 | some q=>
 obtain⟨p,r⟩:=q
 rw[hs] at hm
 by_cases hr:r=[]
 case neg=>
  simp only[if_neg hr] at hm
  have hr':jD b=none:=by unfold jD;rw[hs];simp only[ae];rw[if_neg hr]
  rw[hr',hm]
  cases uJ 400 X0<;>rfl
 subst hr
 simp only[if_true] at hm
 obtain⟨rfl,rfl,rfl⟩:=hm
 obtain⟨eb,_,b0,b1,b2,b3,b4⟩:=zF hb hs
 have lens:p.2.1.length≤b.length∧p.2.2.1.length≤b.length∧p.2.2.2.1.length≤b.length∧p.2.2.2.2.length≤b.length:=by
  rw[eb]
  unfold SV Ch
  simp only[aw]
  omega
 have hrd:jD b=ofParts p:=by unfold jD;rw[hs];rfl
 rw[hrd]
 unfold ofParts
 cases h0:uJ 400 p.1 with
 | none=>rfl
 | some ns=>
 obtain⟨n1,n2,n3⟩:=oG 400 _ ns b0 h0
 simp only[ae,da,cond_false,aE]
 by_cases g12:15≤ns.length
 case neg=>
  have:oy ns=false:=by unfold oy;rw[decide_eq_false g12];rfl
  rw[this,decide_eq_true (show ((ns.length:Nat):Int)<15 by omega)]
  rfl
 rw[decide_eq_false (show ¬ ((ns.length:Nat):Int)<15 by omega),bY (x:=((ns.length:Nat):Int)-15) (by omega) (by omega),dj (by omega)]
 simp only[cond_false]
 by_cases g3:(ns.length-15) % 3=0
 case neg=>
  have:oy ns=false:=by unfold oy;rw[decide_eq_false g3,Bool.false_and,gg]
  rw[this,decide_eq_false (show ¬ (((ns.length:Nat):Int)-15) % 3=0 by omega)]
  rfl
 rw[decide_eq_true (show (((ns.length:Nat):Int)-15) % 3=0 by omega)]
 have hi:∀ i<15,decide ((i:Int)<((ns.length:Nat):Int))=true:=fun i h=>decide_eq_true (by omega)
 have i0:=hi 0 (by omega);have i1:=hi 1 (by omega);have i2:=hi 2 (by omega);have i3:=hi 3 (by omega);have i4:=hi 4 (by omega);have i5:=hi 5 (by omega);have i6:=hi 6 (by omega)
 have i7:=hi 7 (by omega);have i8:=hi 8 (by omega);have i9:=hi 9 (by omega);have i10:=hi 10 (by omega);have i11:=hi 11 (by omega);have i12:=hi 12 (by omega);have i13:=hi 13 (by omega);have i14:=hi 14 (by omega)
 simp only[da,cond_false,i11,cond_true,gZ g12 (show 11<15 by omega)]
 by_cases g47:ns.getD 11 0≤1
 case neg=>
  have:oy ns=false:=by unfold oy;rw[decide_eq_false g47,gg,gg]
  rw[this,decide_eq_true (show (1:Int)<gN ns 11 by show (1:Int)<((ns.getD 11 0:Nat):Int);omega)]
  rfl
 have hgood:oy ns=true:=by unfold oy;rw[decide_eq_true g12,decide_eq_true g3,decide_eq_true g47];rfl
 rw[hgood,decide_eq_false (show ¬ (1:Int)<gN ns 11 by show ¬ (1:Int)<((ns.getD 11 0:Nat):Int);omega)]
 simp only[cond_false,cond_true,i0,i1,i2,i3,i4,i5,i6,i7,i8,i9,i10,i12,i13,i14,if_true,gZ g12 (show 0<15 by omega),gZ g12 (show 1<15 by omega),gZ g12 (show 2<15 by omega),gZ g12 (show 3<15 by omega),gZ g12 (show 4<15 by omega),gZ g12 (show 5<15 by omega),gZ g12 (show 6<15 by omega),gZ g12 (show 7<15 by omega),gZ g12 (show 8<15 by omega),gZ g12 (show 9<15 by omega),gZ g12 (show 10<15 by omega),gZ g12 (show 12<15 by omega),gZ g12 (show 13<15 by omega),gZ g12 (show 14<15 by omega)]
 rw[decide_eq_true (show (15:Int)≤((ns.length:Nat):Int) by omega),bu (cf ns.length)]
 simp only[be,cond_true,ap]
 have hm15:eJ 15 (eK ns.length (ints ns))=ints (ns.drop 15):=by rw[cz,cO,cn (cf _)]
 rw[hm15]
 obtain⟨q,hq⟩:∃ q,ns.length-15=3 * q:=⟨(ns.length-15) / 3,by omega⟩
 have hml:(ns.drop 15).length=3 * q:=by rw[bi];exact hq
 have l1:=Jw ns (ns.drop 15) p (by omega) q 0 az [] (by omega) (by unfold az;omega) (by simp;omega)
 have l1':iter az dm (((),(),(),0,()),(oc,nU p,FF ns,(ints (ns.drop 15),()),(3,()),Lb,()),[],[],[],[],[],[],())=_:=l1
 rw[bj,dC] at l1'
 simp only[oc,nU,FF,Lb] at l1'
 rw[l1']
 simp only[ae]
 have hcl:=Lf q (ns.drop 15) hml
 have gI:∀ i,gN ns i=((ns.getD i 0:Nat):Int):=fun _=>rfl
 have e33a:=JT p.2.1 b1 (ns.getD 13 0) 10 (by omega) (by omega)
 have e33b:=JT p.2.2.2.1 b3 (ns.getD 14 0) 5 (by omega) (by omega)
 rw[show ((10:Nat):Int)=10 from rfl] at e33a
 rw[show ((5:Nat):Int)=5 from rfl] at e33b
 rw[e33a]
 simp only[ae]
 rw[Js p.2.2.1 b2 (by omega)]
 simp only[ae]
 rw[e33b]
 simp only[ae]
 rw[Js p.2.2.2.2 b4 (by omega)]
 simp only[ae]
 cases ha:gK 10 (ns.getD 13 0) p.2.1 with
 | none=>rfl
 | some whose=>
 cases hb2:s7 p.2.2.1 with
 | none=>rfl
 | some fr=>
 cases hc:gK 5 (ns.getD 14 0) p.2.2.2.1 with
 | none=>rfl
 | some which=>
 cases hd:s7 p.2.2.2.2 with
 | none=>rfl
 | some till=>
 have hw4:whose.length≤400∧∀ x∈whose,x<2 ^ 20:=by
  unfold gK at ha
  split at ha
  case isFalse=>cases ha
  rename_i h4
  obtain⟨_,w2,w3⟩:=iV b1 ha
  exact⟨by omega,fun x hx=>by have:=w3 x hx;omega⟩
 have hh4:which.length≤400∧∀ x∈which,x<2 ^ 20:=by
  unfold gK at hc
  split at hc
  case isFalse=>cases hc
  rename_i h4
  obtain⟨_,w2,w3⟩:=iV b3 hc
  exact⟨by omega,fun x hx=>by have:=w3 x hx;omega⟩
 simp only[ae,YD,da,cond_false,aE]
 by_cases k1:fr.length=whose.length
 case neg=>
  rw[decide_eq_false (show ¬ ((fr.length:Nat):Int)=((whose.length:Nat):Int) by omega),if_neg (fun h=>k1 h.1)]
  rfl
 rw[decide_eq_true (show ((fr.length:Nat):Int)=((whose.length:Nat):Int) by omega)]
 by_cases k2:till.length=which.length
 case neg=>
  rw[decide_eq_false (show ¬ ((till.length:Nat):Int)=((which.length:Nat):Int) by omega),if_neg (fun h=>k2 h.2.1)]
  rfl
 rw[decide_eq_true (show ((till.length:Nat):Int)=((which.length:Nat):Int) by omega)]
 simp only[da,cond_false]
 have l2:=KA ns (gu (ns.drop 15)) whose fr which till k1 hw4.1 hw4.2 whose.length 0 az [] (by omega) (by have:=hw4.1;unfold az;omega) rfl
 rw[bj,bj,dC,show ((0:Nat):Int)=0 from rfl] at l2
 simp only[oc,FF] at l2
 rw[l2]
 simp only[ae,aE]
 have l3:=Kr ns (gu (ns.drop 15)) (nE (gN ns 12) whose fr) which till k2 hh4.1 hh4.2 which.length 0 az [] (by omega) (by have:=hh4.1;unfold az;omega) rfl
 rw[bj,bj,dC,show ((0:Nat):Int)=0 from rfl] at l3
 simp only[oc,FF] at l3
 rw[l3]
 simp only[ae]
 have hB:Sm (jX ns whose fr which till):=by
  refine⟨?_,?_,?_⟩
  ·show (gu (ns.drop 15)).length≤1000
   omega
  ·show (nE (gN ns 12) whose fr).length≤1000
   rw[(A7 (gN ns 12) whose fr k1).2.2.1];have:=hw4.1;omega
  ·show (qs which till).length≤1000
   rw[(AE which till k2).2.2];have:=hh4.1;omega
 have e11:decide (gN ns 11=1)=decide (ns.getD 11 0=1):=by
  rw[decide_eq_decide]
  show ((ns.getD 11 0:Nat):Int)=1↔_
  omega
 have h14:=Bs (jX ns whose fr which till) hB.szP hB.szL hB.szH
 have h14':f78 (gN ns 0) (gN ns 1) (gN ns 2) (gN ns 3) (gN ns 4) (gN ns 5) (gN ns 6) (gN ns 7) (gN ns 8) (gN ns 9) (gN ns 10) (decide (ns.getD 11 0=1)) (gN ns 12) (gu (ns.drop 15)) (nE (gN ns 12) whose fr) (qs which till)=some (decide (bS (jX ns whose fr which till)),()):=h14
 rw[e11,h14']
 simp only[ae]
 by_cases hM:bS (jX ns whose fr which till)
 ·rw[decide_eq_true hM,if_pos ⟨k1,k2,hM⟩]
  rfl
 ·rw[decide_eq_false hM,if_neg (fun h=>hM h.2.2)]
  rfl
end Go.Proofs.Zz
