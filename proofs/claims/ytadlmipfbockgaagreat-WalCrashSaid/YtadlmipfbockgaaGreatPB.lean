/- P9l, P9m, P9n, P9o, P9p. -/
import Derived.Test.YtadlmipfbockgaaGreatPA
import Derived.Test.YtadlmipfbockgaaGreatFI
namespace Go.Proofs.Zz
open Go Go.Sy
set_option linter.unusedSimpArgs false
set_option linter.unusedVariables false
abbrev ints (l:List Nat):List Int:=l.map fun n=>((n:Nat):Int)
theorem ints_len (l:List Nat):(ints l).length=l.length:=List.length_map _
theorem ints_app (l m:List Nat):ints l++ints m=ints (l++m):=(List.map_append).symm
theorem ints_get {l:List Nat}{j:Nat}(h:j<(ints l).length):(ints l)[j]=((l[j]'(by rw[ints_len] at h;exact h):Nat):Int):=List.getElem_map _
theorem rdIn {l:List Nat}{j:Nat}(h:j<l.length):rd (.int .i64) (ints l) j=((l[j]:Nat):Int):=by
 rw[rdI (by rw[ints_len];exact h),ints_get]
theorem rdBn {l:List Nat}{j:Nat}(h:j<l.length):rd (.int .u8) (ints l) j=((l[j]:Nat):Int):=by
 rw[rdB (by rw[ints_len];exact h),ints_get]
theorem ints_inj {l m:List Nat}(h:ints l=ints m):l=m:=by
 have:=congrArg (List.map Int.toNat) h
 simpa [ints,List.map_map,Function.comp_def] using this
theorem ints_drop (k:Nat)(l:List Nat):(ints l).drop k=ints (l.drop k):=(List.map_drop).symm
theorem ints_take (k:Nat)(l:List Nat):(ints l).take k=ints (l.take k):=(List.map_take).symm
theorem f89_eq (n:Int):f89 n=some (decide (0≤n∧n≤1099511627776),()):=by
 unfold f89
 by_cases h:0≤n<;>simp[h]
theorem bv8_ofInt {n:Nat}(h:n<2 ^ 8):(BitVec.ofInt 8 (n:Int)).toNat=n:=by
 simp[BitVec.toNat_ofInt];omega
theorem or128 (n:Nat):bitop .or .u8 (IntKind.wrap .u8 (n:Int)) 128=((n % 128+128:Nat):Int):=by
 have hw:IntKind.wrap .u8 (n:Int)=((n % 256:Nat):Int):=by rw[IntKind.wrap_u8];omega
 rw[hw]
 show IntKind.wrap .u8 ((BitVec.ofInt 8 ((n % 256:Nat):Int) ||| BitVec.ofInt 8 ((128:Nat):Int)).toNat:Int)=_
 rw[BitVec.toNat_or,bv8_ofInt (by omega),bv8_ofInt (by omega)]
 have e:n % 256 ||| 128=n % 128+128:=by
  have h1:n % 256=128 * (n / 128 % 2)+n % 128:=by omega
  rcases (show n / 128 % 2=0∨n / 128 % 2=1 by omega) with h|h
  ·rw[show n % 256=n % 128 by omega,Nat.or_comm]
   have:=Nat.two_pow_add_eq_or_of_lt (i:=7) (b:=n % 128) (by omega) 1
   simp at this
   rw[← this];omega
  ·have h2:n % 256=128+n % 128:=by omega
   have:=Nat.two_pow_add_eq_or_of_lt (i:=7) (b:=n % 128) (by omega) 1
   simp at this
   rw[h2,this,Nat.or_comm,← Nat.or_assoc,Nat.or_self,← this];omega
 rw[e,w8 (by omega) (by omega)]
theorem loop54:∀ (n:Nat) (fuel:Nat) (out:List Int),n<2 ^ 63→(vput n).length≤fuel→out.length≤100000-(vput n).length→(vput n).length≤100000 →
  ∃ m:Nat,iter fuel u90_1 ((((n:Int),()),(),out,()))=some (.inl ((((m:Nat):Int),()),(),out++ints ((vput n).take ((vput n).length-1)),()))∧m<128∧vput n=(vput n).take ((vput n).length-1)++[m]:=by
 intro n
 induction n using Nat.strongRecOn with
 | ind n ih=>
  intro fuel out hn hf ho hl
  cases fuel with
  | zero=>have:=vput_pos n;omega
  | succ fuel=>
  by_cases h:n<128
  ·have e:=vput_low h
   refine⟨n,?_,h,by rw[e];rfl⟩
   rw[it_out (y:=((((n:Nat):Int),()),(),out,()))]
   ·rw[e];simp
   ·simp only[u90_1,t90_1]
    rw[decide_eq_false (show ¬ (128:Int)≤((n:Nat):Int) by omega)];rfl
  ·have e:=vput_high h
   have hlen:(vput n).length=(vput (n / 128)).length+1:=by rw[e,List.length_cons]
   have hp:=vput_pos (n / 128)
   obtain⟨m,h1,h2,h3⟩:=ih (n / 128) (by omega) fuel (out++[((n % 128+128:Nat):Int)]) (by omega) (by omega) (by rw[List.length_append,List.length_singleton];omega) (by omega)
   refine⟨m,?_,h2,?_⟩
   ·rw[it_next (x':=((((n / 128:Nat):Int),()),(),out++[((n % 128+128:Nat):Int)],()))]
    ·rw[h1,hlen,e,Nat.add_sub_cancel,show (vput (n / 128)).length=((vput (n / 128)).length-1)+1 by omega,List.take_succ_cons,List.append_assoc]
     rfl
    ·simp only[u90_1,t90_1]
     have hfd:Int.fdiv (n:Int) 128=((n / 128:Nat):Int):=by rw[Int.fdiv_eq_ediv_of_nonneg _ (by omega)];rfl
     rw[decide_eq_true (show (128:Int)≤((n:Nat):Int) by omega),decide_eq_true (show (out.length+1) * 1≤140737488355328 by omega),decide_eq_true (show out.length+1≤9223372036854775807 by omega),or128,hfd]
     rfl
   ·rw[hlen,e,Nat.add_sub_cancel]
    conv=>rhs;rw[show (vput (n / 128)).length=((vput (n / 128)).length-1)+1 by omega,List.take_succ_cons,List.cons_append,← h3]
theorem f90_eq (out:List Int)(n:Nat)(hn:n≤1099511627776)(ho:out.length≤90000):f90 out (n:Int)=some (out++ints (vput n),()):=by
 have h6:=vput_len6 hn
 obtain⟨m,h1,h2,h3⟩:=loop54 n big out (by omega) (by unfold big;omega) (by omega) (by omega)
 unfold f90
 rw[h1]
 simp only[Option.bind_some]
 have hl:(out++ints ((vput n).take ((vput n).length-1))).length≤90006:=by
  rw[List.length_append,ints_len,List.length_take];omega
 rw[decide_eq_true (show (List.length (out++ints ((vput n).take ((vput n).length-1)))+1) * 1≤140737488355328 by omega),decide_eq_true (show List.length (out++ints ((vput n).take ((vput n).length-1)))+1≤9223372036854775807 by omega),w8 (by omega) (by omega)]
 simp only[Bool.and_self,cond_true,List.append_assoc]
 rw[show [((m:Nat):Int)]=ints [m] from rfl,ints_app,← h3]
theorem loop29:∀ (n:Nat) (fuel:Nat) (out:List Int),n<2 ^ 63→(vput n).length≤fuel→out.length≤100000-(vput n).length→(vput n).length≤100000 →
  ∃ m:Nat,iter fuel u55_90_1_0 ((((n:Int),()),(),out,()))=some (.inl ((((m:Nat):Int),()),(),out++ints ((vput n).take ((vput n).length-1)),()))∧m<128∧vput n=(vput n).take ((vput n).length-1)++[m]:=by
 intro n
 induction n using Nat.strongRecOn with
 | ind n ih=>
  intro fuel out hn hf ho hl
  cases fuel with
  | zero=>have:=vput_pos n;omega
  | succ fuel=>
  by_cases h:n<128
  ·have e:=vput_low h
   refine⟨n,?_,h,by rw[e];rfl⟩
   rw[it_out (y:=((((n:Nat):Int),()),(),out,()))]
   ·rw[e];simp
   ·simp only[u55_90_1_0,t55_90_1_0]
    rw[decide_eq_false (show ¬ (128:Int)≤((n:Nat):Int) by omega)];rfl
  ·have e:=vput_high h
   have hlen:(vput n).length=(vput (n / 128)).length+1:=by rw[e,List.length_cons]
   have hp:=vput_pos (n / 128)
   obtain⟨m,h1,h2,h3⟩:=ih (n / 128) (by omega) fuel (out++[((n % 128+128:Nat):Int)]) (by omega) (by omega) (by rw[List.length_append,List.length_singleton];omega) (by omega)
   refine⟨m,?_,h2,?_⟩
   ·rw[it_next (x':=((((n / 128:Nat):Int),()),(),out++[((n % 128+128:Nat):Int)],()))]
    ·rw[h1,hlen,e,Nat.add_sub_cancel,show (vput (n / 128)).length=((vput (n / 128)).length-1)+1 by omega,List.take_succ_cons,List.append_assoc]
     rfl
    ·simp only[u55_90_1_0,t55_90_1_0]
     have hfd:Int.fdiv (n:Int) 128=((n / 128:Nat):Int):=by rw[Int.fdiv_eq_ediv_of_nonneg _ (by omega)];rfl
     rw[decide_eq_true (show (128:Int)≤((n:Nat):Int) by omega),decide_eq_true (show (out.length+1) * 1≤140737488355328 by omega),decide_eq_true (show out.length+1≤9223372036854775807 by omega),or128,hfd]
     rfl
   ·rw[hlen,e,Nat.add_sub_cancel]
    conv=>rhs;rw[show (vput (n / 128)).length=((vput (n / 128)).length-1)+1 by omega,List.take_succ_cons,List.cons_append,← h3]
theorem f55_eq (n:Nat)(hn:n≤1099511627776):f55 (n:Int)=some (ints (vput n),()):=by
 have h6:=vput_len6 hn
 obtain⟨m,h1,h2,h3⟩:=loop29 n big [] (by omega) (by unfold big;omega) (by simp) (by omega)
 unfold f55
 rw[f89_eq,decide_eq_true (show (0:Int)≤(n:Int)∧(n:Int)≤1099511627776 by omega)]
 simp only[Option.bind_some,Bool.not_true,cond_false]
 rw[h1]
 simp only[Option.bind_some,List.nil_append]
 have hl:(ints ((vput n).take ((vput n).length-1))).length≤6:=by
  rw[ints_len,List.length_take];omega
 rw[decide_eq_true (show (List.length (ints ((vput n).take ((vput n).length-1)))+1) * 1≤140737488355328 by omega),decide_eq_true (show List.length (ints ((vput n).take ((vput n).length-1)))+1≤9223372036854775807 by omega),w8 (by omega) (by omega)]
 simp only[Bool.and_self,cond_true]
 rw[show [((m:Nat):Int)]=ints [m] from rfl,ints_app,← h3]
theorem f51_eq (ns:List Nat)(hl:ns.length≤400)(hm:∀ n∈ns,n≤1099511627776):f51 (ints ns)=some (ints (flat ns),true,()):=by
 unfold f51
 rw[ints_len,decide_eq_false (show ¬ (400:Int)<((ns.length:Nat):Int) by omega)]
 simp only[cond_false]
 have hf:∀ j,(flat (ns.take j)).length≤2400:=fun j=>by
  have:=flat_len (ns.take j) 6 (fun n hn=>vput_len6 (hm n (List.mem_of_mem_take hn)))
  rw[List.length_take] at this
  omega
 have:=it_all (u:=u51_5) (fun j=>((ints ns,((ns.length:Nat):Int),((j:Nat):Int),()),(),ints (flat (ns.take j)),())) (n:=ns.length) (y:=((),(),ints (flat ns),()))
  (fun j hj=>by
   have hmj:=hm ns[j] (List.getElem_mem hj)
   simp only[u51_5,t51_5,ltn hj,ints_len,ge0,cond_true,Bool.and_self,Int.toNat_natCast,rdIn hj,f89_eq,Option.bind_some,nx hj (show ns.length≤9223372036854775807 by omega)]
   rw[decide_eq_true (show (0:Int)≤((ns[j]:Nat):Int)∧((ns[j]:Nat):Int)≤1099511627776 by omega)]
   unfold g90
   rw[f90_eq _ _ hmj (by rw[ints_len];have:=hf j;omega)]
   simp only[Option.map_some,Option.bind_some,Bool.not_true,cond_false]
   rw[ints_app,take_snoc hj,flat_append,show flat [ns[j]]=vput ns[j] by simp[flat]])
  (by simp only[u51_5,t51_5,nlt,cond_false,List.take_length]) 0 big (Nat.zero_le _) (by unfold big;omega)
 have e1:iter big u51_5 ((ints ns,((ns.length:Nat):Int),0,()),(),[],())=_:=this
 rw[e1]
 rfl
theorem andNot128 {c:Nat}(h:c<256):bitop .andNot .u8 (c:Int) 128=((c % 128:Nat):Int):=by
 have hall:∀ c:Fin 256,bitop .andNot .u8 ((c.val:Nat):Int) 128=((c.val % 128:Nat):Int):=by decide +kernel
 exact hall ⟨c,h⟩
theorem u97_step (at':Nat)(b:List Nat)(hb:∀ c∈b,c<256)(h6:b.length≤6){i acc:Nat}(hi:i<b.length)(hacc:acc<2 ^ (7 * i)) :
  IntKind.wrap .i64 (7 * (i:Int))=((7 * i:Nat):Int) ∧
  bitop .or .i64 (acc:Int) (IntKind.wrap .i64 (IntKind.wrap .i64 (bitop .andNot .u8 ((b[i]:Nat):Int) 128) * ((2:Int) ^ ((min (Int.toNat (IntKind.wrap .i64 (7 * (i:Int)))) 64):Nat))))=((acc+b[i] % 128 * 2 ^ (7 * i):Nat):Int)∧acc+b[i] % 128 * 2 ^ (7 * i)<2 ^ (7 * (i+1)):=by
 have hc:=hb b[i] (List.getElem_mem hi)
 have hw:IntKind.wrap .i64 (7 * (i:Int))=((7 * i:Nat):Int):=by rw[w64 (by omega) (by omega)];omega
 have hp:2 ^ (7 * i)≤2 ^ 35:=Nat.pow_le_pow_right (by omega) (by omega)
 have hm:b[i] % 128 * 2 ^ (7 * i)≤127 * 2 ^ (7 * i):=Nat.mul_le_mul_right _ (by omega)
 refine⟨hw,?_,?_⟩
 ·rw[hw,Int.toNat_natCast,Nat.min_eq_left (by omega),andNot128 hc,w64 (x:=((b[i] % 128:Nat):Int)) (by omega) (by omega)]
  have e:((b[i] % 128:Nat):Int) * ((2:Int) ^ (7 * i))=((b[i] % 128 * 2 ^ (7 * i):Nat):Int):=by simp
  rw[e,w64 (by omega) (by omega),b_or (by omega) (by omega),Nat.or_comm]
  have:=Nat.two_pow_add_eq_or_of_lt hacc (b[i] % 128)
  rw[Nat.mul_comm] at this
  rw[← this]
  omega
 ·rw[pow7];omega
theorem loop97 (at':Nat)(b:List Nat)(hb:∀ c∈b,c<256)(h6:b.length≤6)(hat:at'≤9000000000000000000):∀ (d i acc fuel:Nat),i+d=b.length→d<fuel→acc<2 ^ (7 * i) →
  iter fuel u63_5 ((((at':Nat):Int),((acc:Nat):Int),ints b,((b.length:Nat):Int),((i:Nat):Int),()),(),()) =
   some (match vgo i acc (b.drop i) with
    | none=>.inl ((),(),())
    | some (v,k)=>.inr ((((v:Nat):Int),((at'+k:Nat):Int),()),(),()))
 | d,i,acc,0,_,h,_=>by omega
 | 0,i,acc,fuel+1,hi,_,_=>by
  have:i=b.length:=by omega
  subst this
  rw[List.drop_length]
  refine it_out ?_
  simp only[u63_5,t63_5,nlt,cond_false]
 | d+1,i,acc,fuel+1,hi,hf,hacc=>by
  have hlt:i<b.length:=by omega
  obtain⟨s1,s2,s3⟩:=u97_step at' b hb h6 hlt hacc
  have hc:=hb b[i] (List.getElem_mem hlt)
  rw[List.drop_eq_getElem_cons hlt,vgo]
  have hu:u63_5 ((((at':Nat):Int),((acc:Nat):Int),ints b,((b.length:Nat):Int),((i:Nat):Int),()),(),()) =
    cond (decide ((128:Int)≤((b[i]:Nat):Int))) (some (R3.next ((((at':Nat):Int),((acc+b[i] % 128 * 2 ^ (7 * i):Nat):Int),ints b,((b.length:Nat):Int),((i+1:Nat):Int),()),(),())))
    (cond (decide (((b[i]:Nat):Int)=0)) (cond (decide ((0:Int)<((i:Nat):Int))) (some (R3.out ((),(),())))
     (cond (!decide ((0:Int)≤((acc+b[i] % 128 * 2 ^ (7 * i):Nat):Int)∧((acc+b[i] % 128 * 2 ^ (7 * i):Nat):Int)≤1099511627776)) (some (R3.out ((),(),()))) (some (R3.ret ((((acc+b[i] % 128 * 2 ^ (7 * i):Nat):Int),((at'+(i+1):Nat):Int),()),(),())))))
     (cond (!decide ((0:Int)≤((acc+b[i] % 128 * 2 ^ (7 * i):Nat):Int)∧((acc+b[i] % 128 * 2 ^ (7 * i):Nat):Int)≤1099511627776)) (some (R3.out ((),(),()))) (some (R3.ret ((((acc+b[i] % 128 * 2 ^ (7 * i):Nat):Int),((at'+(i+1):Nat):Int),()),(),()))))):=by
   have hend:IntKind.wrap .i64 (IntKind.wrap .i64 (((at':Nat):Int)+((i:Nat):Int))+1)=((at'+(i+1):Nat):Int):=by
    rw[w64 (x:=((at':Nat):Int)+((i:Nat):Int)) (by omega) (by omega),w64 (by omega) (by omega)];omega
   have hneg:decide (((7 * i:Nat):Int)<0)=false:=decide_eq_false (by omega)
   rw[s1,Int.toNat_natCast] at s2
   simp only[u63_5,t63_5,ltn hlt,ints_len,ge0,cond_true,Bool.and_self,Int.toNat_natCast,rdBn hlt,s1,hneg,Bool.not_false,s2,f89_eq,Option.bind_some,nx hlt (show b.length≤9223372036854775807 by omega),hend]
  rw[iter,hu]
  by_cases h128:128≤b[i]
  ·rw[decide_eq_true (show (128:Int)≤((b[i]:Nat):Int) by omega),if_pos h128]
   simp only[cond_true]
   rw[loop97 at' b hb h6 hat d (i+1) _ fuel (by omega) (by omega) s3,show b[i] % 128=b[i]-128 by omega]
  ·rw[decide_eq_false (show ¬ (128:Int)≤((b[i]:Nat):Int) by omega),if_neg h128,show b[i] % 128=b[i] by omega]
   simp only[cond_false]
   have fin:cond (!decide ((0:Int)≤((acc+b[i] * 2 ^ (7 * i):Nat):Int)∧((acc+b[i] * 2 ^ (7 * i):Nat):Int)≤1099511627776)) (some (R3.out ((),(),()):R3 X63_5 Y63_5 Z63_5)) (some (R3.ret ((((acc+b[i] * 2 ^ (7 * i):Nat):Int),((at'+(i+1):Nat):Int),()),(),()))) =
     if 1099511627776<acc+b[i] * 2 ^ (7 * i) then some (R3.out ((),(),())) else some (R3.ret ((((acc+b[i] * 2 ^ (7 * i):Nat):Int),((at'+(i+1):Nat):Int),()),(),())):=by
    by_cases h:1099511627776<acc+b[i] * 2 ^ (7 * i)
    ·rw[if_pos h,decide_eq_false (by omega)];rfl
    ·rw[if_neg h,decide_eq_true (by omega)];rfl
   by_cases h0:b[i]=0
   ·rw[decide_eq_true (show ((b[i]:Nat):Int)=0 by omega)]
    by_cases hi0:0<i
    ·rw[decide_eq_true (show (0:Int)<((i:Nat):Int) by omega),if_pos ⟨h0,hi0⟩];rfl
    ·rw[decide_eq_false (show ¬ (0:Int)<((i:Nat):Int) by omega),if_neg (fun k=>hi0 k.2)]
     simp only[cond_true,cond_false]
     rw[fin]
     by_cases hm:1099511627776<acc+b[i] * 2 ^ (7 * i)
     ·rw[if_pos hm,if_pos hm]
     ·rw[if_neg hm,if_neg hm]
   ·rw[decide_eq_false (show ¬ ((b[i]:Nat):Int)=0 by omega),if_neg (fun k=>h0 k.1)]
    simp only[cond_false]
    rw[fin]
    by_cases hm:1099511627776<acc+b[i] * 2 ^ (7 * i)
    ·rw[if_pos hm,if_pos hm]
    ·rw[if_neg hm,if_neg hm]
theorem f63_eq (b:List Nat)(hb:∀ c∈b,c<256)(hl:b.length≤1000000000)(at':Nat)(hat:at'≤b.length) :
  f63 (ints b) (at':Int)=some (match vget (b.drop at') with
   | none=>(0,-1,())
   | some (v,k)=>(((v:Nat):Int),((at'+k:Nat):Int),())):=by
 have hm:(cond (decide ((IntKind.wrap .i64 (((b.length:Nat):Int)-(at':Int)))<6)) (IntKind.wrap .i64 (((b.length:Nat):Int)-(at':Int))) 6)=((min (b.length-at') 6:Nat):Int):=by
  rw[w64 (by omega) (by omega)]
  by_cases h:b.length-at'<6
  ·rw[decide_eq_true (by omega)];show _=_;simp only[cond_true];omega
  ·rw[decide_eq_false (by omega)];show _=_;simp only[cond_false];omega
 have he:(cond (decide ((IntKind.wrap .i64 ((at':Int)+((min (b.length-at') 6:Nat):Int)))<((b.length:Nat):Int))) (IntKind.wrap .i64 ((at':Int)+((min (b.length-at') 6:Nat):Int))) ((b.length:Nat):Int))=((at'+min (b.length-at') 6:Nat):Int):=by
  rw[w64 (by omega) (by omega)]
  by_cases h:at'+min (b.length-at') 6<b.length
  ·rw[decide_eq_true (by omega)];simp only[cond_true];omega
  ·rw[decide_eq_false (by omega)];simp only[cond_false];omega
 have hsl:List.drop at' (List.take (at'+min (b.length-at') 6) (ints b))=ints ((b.drop at').take 6):=by
  rw[ints_take,ints_drop,List.drop_take]
  congr 1
  rw[Nat.add_sub_cancel_left,List.take_eq_take_iff,List.length_drop]
  omega
 unfold f63 vget mnI
 rw[ints_len,decide_eq_false (show ¬ (at':Int)<0 by omega),decide_eq_false (show ¬ ((b.length:Nat):Int)<(at':Int) by omega)]
 simp only[cond_false,hm,he,Int.toNat_natCast]
 rw[ge0,dec_le (show at'≤at'+min (b.length-at') 6 by omega),dec_le (show at'+min (b.length-at') 6≤b.length by omega)]
 simp only[Bool.and_self,cond_true,hsl,ints_len]
 have hlp:=loop97 at' ((b.drop at').take 6) (fun c hc=>hb c (List.mem_of_mem_drop (List.mem_of_mem_take hc))) (by rw[List.length_take];omega) (by omega) ((b.drop at').take 6).length 0 0 big (by omega) (by rw[List.length_take];unfold big;omega) (by simp)
 rw[List.drop_zero] at hlp
 have hlp':iter big u63_5 ((((at':Nat):Int),0,ints ((b.drop at').take 6),((((b.drop at').take 6).length:Nat):Int),0,()),(),())=_:=hlp
 rw[hlp']
 cases vgo 0 0 ((b.drop at').take 6) with
 | none=>rfl
 | some p=>obtain⟨v,k⟩:=p;rfl
abbrev st31 (b:List Nat)(at':Nat)(is:Bool)(out:List Nat):X66_142_1_0:=(((),(),((at':Nat):Int),()),(((),()),(is,()),(ints b,()),((),(),(),(),(),(),(),(),(),(),(),(),(),(),(),(),(),(),(),(),(),(),(),(),(),(),()),()),ints out,())
abbrev ot31 (b:List Nat)(is:Bool)(out:List Nat):Y66_142_1_0:=((),(((),()),(is,()),(ints b,()),((),(),(),(),(),(),(),(),(),(),(),(),(),(),(),(),(),(),(),(),(),(),(),(),(),(),()),()),ints out,())
abbrev rt31 (b:List Nat)(is:Bool)(out:List Nat):Z66_142_1_0:=((),(((),()),(is,()),(ints b,()),((),(),(),(),(),(),(),(),(),(),(),(),(),(),(),(),(),(),(),(),(),(),(),(),(),(),()),()),ints out,())
theorem loop31 (b:List Nat)(hb:∀ c∈b,c<256)(hl:b.length≤1000000000):∀ (k at' fuel:Nat) (out:List Nat),out.length+k=400→at'≤b.length→k+1≤fuel →
  ∃ r,iter fuel u66_142_1_0 (st31 b at' true out)=some r∧(match vrd k (b.drop at') with
   | some ms=>r = .inl (ot31 b true (out++ms))
   | none=>∃ o,r = .inr (rt31 b false o)):=by
 intro k
 induction k with
 | zero=>
  intro at' fuel out hk hat hf
  obtain⟨fuel,rfl⟩:∃ g,fuel=g+1:=⟨fuel-1,by omega⟩
  by_cases hlt:at'<b.length
  ·obtain⟨c,l,e⟩:∃ c l,b.drop at'=c::l:=by
    match h:b.drop at' with
    | []=>have:=congrArg List.length h;rw[List.length_drop] at this;simp at this;omega
    | c::l=>exact⟨c,l,rfl⟩
   rw[e]
   refine⟨.inr (rt31 b false out),it_ret ?_,⟨out,rfl⟩⟩
   simp only[st31,u66_142_1_0,t66_142_1_0,ints_len,ltn hlt,cond_true,f63_eq b hb hl at' hat,Option.bind_some]
   cases vget (b.drop at') with
   | none=>rfl
   | some p=>
    obtain⟨v,m⟩:=p
    simp only
    rw[decide_eq_false (show ¬ ((at'+m:Nat):Int) = -1 by omega),decide_eq_true (show ((out.length:Nat):Int)=400 by omega)]
    rfl
  ·have:at'=b.length:=by omega
   subst this
   rw[List.drop_length]
   refine⟨.inl (ot31 b true out),it_out ?_,by simp[vrd]⟩
   simp only[st31,u66_142_1_0,t66_142_1_0,ints_len,nlt,cond_false]
 | succ k ih=>
  intro at' fuel out hk hat hf
  obtain⟨fuel,rfl⟩:∃ g,fuel=g+1:=⟨fuel-1,by omega⟩
  by_cases hlt:at'<b.length
  ·obtain⟨c,l,e⟩:∃ c l,b.drop at'=c::l:=by
    match h:b.drop at' with
    | []=>have:=congrArg List.length h;rw[List.length_drop] at this;simp at this;omega
    | c::l=>exact⟨c,l,rfl⟩
   rw[e,vrd,← e]
   have hb':∀ c∈b.drop at',c<256:=fun c hc=>hb c (List.mem_of_mem_drop hc)
   cases hg:vget (b.drop at') with
   | none=>
    refine⟨.inr (rt31 b false out),it_ret ?_,⟨out,rfl⟩⟩
    simp only[st31,u66_142_1_0,t66_142_1_0,ints_len,ltn hlt,cond_true,f63_eq b hb hl at' hat,Option.bind_some,hg]
    rfl
   | some p=>
    obtain⟨v,m⟩:=p
    obtain⟨g1,g2,g3⟩:=vget_of hb' hg
    have hml:at'+m≤b.length:=by
     have:=congrArg List.length g3
     rw[List.length_append,List.length_drop,List.length_drop,List.length_drop] at this
     have:=vput_pos v
     omega
    obtain⟨r,h1,h2⟩:=ih (at'+m) fuel (out++[v]) (by rw[List.length_append,List.length_singleton];omega) hml (by omega)
    have hn:u66_142_1_0 (st31 b at' true out)=some (.next (st31 b (at'+m) true (out++[v]))):=by
     simp only[st31,u66_142_1_0,t66_142_1_0,ints_len,ltn hlt,cond_true,f63_eq b hb hl at' hat,Option.bind_some,hg]
     rw[decide_eq_false (show ¬ ((at'+m:Nat):Int) = -1 by omega),decide_eq_false (show ¬ ((out.length:Nat):Int)=400 by omega),decide_eq_true (show (out.length+1) * 8≤140737488355328 by omega),decide_eq_true (show out.length+1≤9223372036854775807 by omega)]
     simp only[cond_false,Bool.and_self,cond_true]
     rw[show [((v:Nat):Int)]=ints [v] from rfl,ints_app]
    refine⟨r,by rw[it_next hn];exact h1,?_⟩
    simp only[List.drop_drop]
    cases hv:vrd k (b.drop (at'+m)) with
    | none=>rw[hv] at h2;exact h2
    | some ms=>
     rw[hv] at h2
     simp only[Option.map_some]
     rw[h2,List.append_assoc];rfl
  ·have:at'=b.length:=by omega
   subst this
   rw[List.drop_length]
   refine⟨.inl (ot31 b true out),it_out ?_,by simp[vrd]⟩
   simp only[st31,u66_142_1_0,t66_142_1_0,ints_len,nlt,cond_false]
theorem f66_eq (b:List Nat)(hb:∀ c∈b,c<256)(hl:b.length≤1000000000):f66 (ints b)=some (match vrd 400 b with
  | some ms=>(ints ms,true,())
  | none=>([],false,())):=by
 obtain⟨r,h1,h2⟩:=loop31 b hb hl 400 0 big [] (by simp) (by omega) (by unfold big;omega)
 rw[List.drop_zero] at h2
 unfold f66
 have h1':iter big u66_142_1_0 (((),(),0,()),(((),()),(true,()),(ints b,()),((),(),(),(),(),(),(),(),(),(),(),(),(),(),(),(),(),(),(),(),(),(),(),(),(),(),()),()),[],())=some r:=h1
 rw[h1']
 cases hv:vrd 400 b with
 | none=>
  rw[hv] at h2
  obtain⟨o,rfl⟩:=h2
  rfl
 | some ms=>
  rw[hv] at h2
  subst h2
  rfl
theorem ints_set (l:List Nat)(j v:Nat):ints (l.set j v)=(ints l).set j ((v:Nat):Int):=List.map_set
theorem f95_eq (d:Int)(h1 : -274877906944≤d)(h2:d≤274877906944):f95 d=some (((zz d:Nat):Int),()):=by
 unfold f95 zz
 rw[decide_eq_false (show ¬ d < -274877906944 by omega),decide_eq_false (show ¬ 274877906944<d by omega),w64 (show -9223372036854775808≤d * 2 by omega) (by omega)]
 simp only[cond_false]
 by_cases h:d<0
 ·rw[decide_eq_true h,if_pos h]
  simp only[cond_true]
  have e:bitop .xor .i64 (-1) (d * 2) = -2 * d-1:=by
   obtain⟨m,rfl⟩:∃ m:Nat,d = -(m:Int):=⟨(-d).toNat,by omega⟩
   have hm:1≤m:=by omega
   show IntKind.wrap .i64 (((BitVec.ofInt 64 (-1)) ^^^ (BitVec.ofInt 64 (-(m:Int) * 2))).toNat:Int)=_
   have e1:BitVec.ofInt 64 (-1)=BitVec.allOnes 64:=by decide
   rw[e1,BitVec.allOnes_xor]
   have e2:(BitVec.ofInt 64 (-(m:Int) * 2)).toNat=2 ^ 64-2 * m:=by
    rw[BitVec.toNat_ofInt]
    omega
   rw[BitVec.toNat_not,e2,w64 (by omega) (by omega)]
   omega
  rw[e]
  congr 2
  omega
 ·rw[decide_eq_false h,if_neg h]
  simp only[cond_false]
  congr 2
  omega
theorem f96_eq (n:Int):f96 n=some (decide (0≤n∧n<274877906944),()):=by
 unfold f96
 by_cases h:0≤n<;>simp[h]
theorem f113_eq (k:Nat)(h:k≤549755813888):f113 (k:Int)=some (zag k,()):=by
 unfold f113
 rw[decide_eq_false (show ¬ (k:Int)<0 by omega),decide_eq_false (show ¬ (549755813888:Int)<(k:Int) by omega)]
 simp only[cond_false]
 have hfd:Int.fdiv (k:Int) 2=((k / 2:Nat):Int):=by rw[Int.fdiv_eq_ediv_of_nonneg _ (by omega)];rfl
 have ha:bitop .and .i64 (k:Int) 1=((k % 2:Nat):Int):=by
  have:=b_and (a:=k) (b:=1) (by omega) (by omega)
  rw[show ((1:Nat):Int)=1 from rfl] at this
  rw[this,Nat.and_one_is_mod]
 rw[hfd,ha,w64 (by omega) (by omega)]
 unfold zag
 by_cases h2:k % 2=0
 ·rw[if_pos h2,h2]
  have:=b_xor (a:=k / 2) (b:=0) (by omega) (by omega)
  rw[show ((0:Nat):Int)=0 from rfl] at this
  rw[show (0:Int)-((0:Nat):Int)=0 from rfl,this,Nat.xor_zero]
 ·rw[if_neg h2,show k % 2=1 by omega]
  have e:bitop .xor .i64 ((k / 2:Nat):Int) (0-((1:Nat):Int)) = -((k / 2:Nat):Int)-1:=by
   show IntKind.wrap .i64 (((BitVec.ofInt 64 ((k / 2:Nat):Int)) ^^^ (BitVec.ofInt 64 (0-((1:Nat):Int)))).toNat:Int)=_
   have e1:BitVec.ofInt 64 (0-((1:Nat):Int))=BitVec.allOnes 64:=by decide
   rw[e1,BitVec.xor_allOnes,BitVec.toNat_not,bv_ofInt (by omega),IntKind.wrap_i64]
   omega
  rw[e]
def lstOf (l:List Nat)(j:Nat):Int:=if j=0 then 0 else ((l.getD (j-1) 0:Nat):Int)
theorem f54_eq (l:List Nat)(hl:l.length≤400)(hm:∀ x∈l,x<274877906944):f54 (ints l)=some (ints (flat (stepsL 0 l)),true,()):=by
 unfold f54
 rw[ints_len,ge0,dec_le (Nat.le_refl l.length),decide_eq_true (show ((l.length:Nat):Int) * 8≤140737488355328 by omega)]
 simp only[Bool.and_self,cond_true,Int.toNat_natCast]
 have hst:∀ j (hj:j<l.length),stepsL 0 (l.take (j+1))=stepsL 0 (l.take j)++[zz ((l[j]:Int)-lstOf l j)]:=by
  have gen:∀ (m:List Nat) (a:Int) (x:Nat),stepsL a (m++[x])=stepsL a m++[zz ((x:Int)-(match m.getLast? with|some y=>(y:Int)|none=>a))]:=by
   intro m
   induction m with
   | nil=>intro a x;rfl
   | cons y m ih=>
    intro a x
    rw[List.cons_append,stepsL,ih,stepsL,List.cons_append]
    cases m with
    | nil=>rfl
    | cons z m=>rfl
  intro j hj
  rw[take_snoc hj,gen]
  congr 3
  unfold lstOf
  by_cases h0:j=0
  ·subst h0;rfl
  ·rw[if_neg h0,List.getLast?_eq_getElem?,List.length_take,Nat.min_eq_left (by omega),List.getElem?_take_of_lt (by omega),List.getElem?_eq_getElem (by omega)]
   rw[List.getD_eq_getElem?_getD,List.getElem?_eq_getElem (by omega)];rfl
 have hlen:∀ j,(stepsL 0 (l.take j)++List.replicate (l.length-j) 0).length=max l.length (min j l.length):=fun j=>by
  rw[List.length_append,stepsL_len,List.length_take,List.length_replicate];omega
 have:=it_all (u:=u54_5) (fun j=>((ints l,(),((l.length:Nat):Int),((j:Nat):Int),()),((lstOf l j,()),()),ints (stepsL 0 (l.take j)++List.replicate (l.length-j) 0),())) (n:=l.length)
  (y:=((),(),ints (stepsL 0 l),()))
  (fun j hj=>by
   have hx:=hm l[j] (List.getElem_mem hj)
   have hlast:0≤lstOf l j∧lstOf l j<274877906944:=by
    unfold lstOf
    split
    ·omega
    ·have hj1:j-1<l.length:=by omega
     have:=hm l[j-1] (List.getElem_mem hj1)
     rw[List.getD_eq_getElem?_getD,List.getElem?_eq_getElem hj1]
     simp only[Option.getD_some]
     omega
   have hl2:=hlen j
   have hlt2:j<(stepsL 0 (l.take j)++List.replicate (l.length-j) 0).length:=by omega
   have hsl:(stepsL 0 (l.take j)).length=j:=by rw[stepsL_len,List.length_take];omega
   have h60:f96 ((l[j]:Nat):Int)=some (true,()):=by rw[f96_eq,decide_eq_true (show (0:Int)≤((l[j]:Nat):Int)∧((l[j]:Nat):Int)<274877906944 by omega)]
   simp only[u54_5,t54_5,ltn hj,ints_len,ge0,cond_true,Bool.and_self,Int.toNat_natCast,rdIn hj,h60,Option.bind_some,nx hj (show l.length≤9223372036854775807 by omega)]
   rw[w64 (x:=((l[j]:Nat):Int)-lstOf l j) (by omega) (by omega),f95_eq _ (by omega) (by omega),ltn hlt2,decide_eq_true hlt2]
   simp only[Bool.not_true,cond_false,Option.bind_some,cond_true]
   have e1:lstOf l (j+1)=((l[j]:Nat):Int):=by
    unfold lstOf
    rw[if_neg (by omega),Nat.add_sub_cancel,List.getD_eq_getElem?_getD,List.getElem?_eq_getElem hj];rfl
   have e2:stepsL 0 (l.take (j+1))++List.replicate (l.length-(j+1)) 0=(stepsL 0 (l.take j)++List.replicate (l.length-j) 0).set j (zz ((l[j]:Int)-lstOf l j)):=by
    rw[List.set_append_right _ _ (by omega),hsl,Nat.sub_self,show l.length-j=(l.length-(j+1))+1 by omega,List.replicate_succ,List.set_cons_zero,hst j hj,List.append_assoc]
    rfl
   rw[e1,e2,ints_set]
   rfl)
  (by simp only[u54_5,t54_5,nlt,cond_false,List.take_length,Nat.sub_self,List.replicate_zero,List.append_nil]) 0 big (Nat.zero_le _) (by unfold big;omega)
 have e0:ints (stepsL 0 (l.take 0)++List.replicate (l.length-0) 0)=List.replicate l.length 0:=by
  rw[List.take_zero,Nat.sub_zero]
  show ints (List.replicate l.length 0)=_
  rw[ints,List.map_replicate];rfl
 rw[e0] at this
 have e1:iter big u54_5 ((ints l,(),((l.length:Nat):Int),0,()),((0,()),()),List.replicate l.length 0,())=_:=this
 rw[e1]
 simp only[Option.bind_some]
 have hle:=steps_le 0 l 274877906944 (by omega) (by omega) (fun x hx=>by have:=hm x hx;omega)
 rw[f51_eq (stepsL 0 l) (by rw[stepsL_len];exact hl) (fun n hn=>by have:=hle n hn;omega)]
 rfl
theorem loop34 (ks:List Nat)(hl:ks.length≤400):∀ (d j fuel:Nat) (a:Int) (out:List Nat),j+d=ks.length→d<fuel→out.length=j→0≤a→a<274877906944 →
  ∃ r,iter fuel u69_8 ((ints ks,(),(),((ks.length:Nat):Int),((j:Nat):Int),()),((a,()),()),ints out,())=some r∧(match sumsL a (ks.drop j) with
   | some xs=>r = .inl ((),(),ints (out++xs),())
   | none=>r = .inr ((false,()),(),[],())):=by
 intro d
 induction d with
 | zero=>
  intro j fuel a out hj hf ho h0 h1
  obtain⟨fuel,rfl⟩:∃ g,fuel=g+1:=⟨fuel-1,by omega⟩
  have:j=ks.length:=by omega
  subst this
  rw[List.drop_length]
  refine⟨_,it_out (y:=((),(),ints out,())) ?_,by simp[sumsL]⟩
  simp only[u69_8,t69_8,nlt,cond_false]
 | succ d ih=>
  intro j fuel a out hj hf ho h0 h1
  obtain⟨fuel,rfl⟩:∃ g,fuel=g+1:=⟨fuel-1,by omega⟩
  have hlt:j<ks.length:=by omega
  rw[List.drop_eq_getElem_cons hlt,sumsL]
  have bad:∀ (hb:¬ (ks[j]≤549755813888∧0≤a+zag ks[j]∧a+zag ks[j]<274877906944)),u69_8 ((ints ks,(),(),((ks.length:Nat):Int),((j:Nat):Int),()),((a,()),()),ints out,())=some (.ret ((false,()),(),[],())):=by
   intro hb
   simp only[u69_8,t69_8,ltn hlt,ints_len,ge0,cond_true,Bool.and_self,Int.toNat_natCast,rdIn hlt]
   by_cases hk:ks[j]≤549755813888
   ·have hz : -274877906945≤zag ks[j]∧zag ks[j]≤274877906944:=by unfold zag;split<;>omega
    rw[f113_eq _ hk,decide_eq_true (show ((ks[j]:Nat):Int)≤549755813888 by omega)]
    simp only[Option.bind_some,cond_true]
    rw[w64 (x:=a+zag ks[j]) (by omega) (by omega),f96_eq,decide_eq_false (fun h=>hb ⟨hk,h.1,h.2⟩)]
    rfl
   ·have:f113 ((ks[j]:Nat):Int)=some (0,()):=by
     unfold f113
     rw[decide_eq_false (show ¬ ((ks[j]:Nat):Int)<0 by omega),decide_eq_true (show (549755813888:Int)<((ks[j]:Nat):Int) by omega)];rfl
    rw[this,decide_eq_false (show ¬ ((ks[j]:Nat):Int)≤549755813888 by omega)]
    rfl
  by_cases hc:ks[j]≤549755813888∧0≤a+zag ks[j]∧a+zag ks[j]<274877906944
  ·rw[if_pos hc]
   obtain⟨r,k1,k2⟩:=ih (j+1) fuel (a+zag ks[j]) (out++[(a+zag ks[j]).toNat]) (by omega) (by omega) (by rw[List.length_append,ho];rfl) hc.2.1 hc.2.2
   have hn:u69_8 ((ints ks,(),(),((ks.length:Nat):Int),((j:Nat):Int),()),((a,()),()),ints out,())=some (.next ((ints ks,(),(),((ks.length:Nat):Int),((j+1:Nat):Int),()),((a+zag ks[j],()),()),ints (out++[(a+zag ks[j]).toNat]),())):=by
    simp only[u69_8,t69_8,ltn hlt,ints_len,ge0,cond_true,Bool.and_self,Int.toNat_natCast,rdIn hlt,f113_eq _ hc.1,Option.bind_some,nx hlt (show ks.length≤9223372036854775807 by omega)]
    rw[decide_eq_true (show ((ks[j]:Nat):Int)≤549755813888 by have:=hc.1;omega),w64 (x:=a+zag ks[j]) (by omega) (by omega),f96_eq,decide_eq_true hc.2,decide_eq_true (show (out.length+1) * 8≤140737488355328 by omega),decide_eq_true (show out.length+1≤9223372036854775807 by omega)]
    simp only[Option.bind_some,Bool.not_true,cond_false,cond_true,Bool.and_self]
    rw[show [a+zag ks[j]]=ints [(a+zag ks[j]).toNat] by simp[ints];omega,ints_app]
   refine⟨r,by rw[it_next hn];exact k1,?_⟩
   cases hv:sumsL (a+zag ks[j]) (ks.drop (j+1)) with
   | none=>rw[hv] at k2;exact k2
   | some xs=>
    rw[hv] at k2
    simp only[Option.map_some]
    rw[k2,List.append_assoc];rfl
  ·rw[if_neg hc]
   exact⟨_,it_ret (bad hc),rfl⟩
theorem f69_eq (b:List Nat)(hb:∀ c∈b,c<256)(hl:b.length≤1000000000):f69 (ints b)=some (match (vrd 400 b).bind (sumsL 0) with
  | some xs=>(ints xs,true,())
  | none=>([],false,())):=by
 unfold f69
 rw[f66_eq b hb hl]
 cases hv:vrd 400 b with
 | none=>rfl
 | some ks=>
  obtain⟨g1,_,_⟩:=vrd_of 400 b ks hb hv
  simp only[Option.bind_some,Bool.not_true,cond_false,ints_len]
  obtain⟨r,h1,h2⟩:=loop34 ks g1 ks.length 0 big 0 [] (by omega) (by unfold big;omega) rfl (by omega) (by omega)
  rw[List.drop_zero] at h2
  have h1':iter big u69_8 ((ints ks,(),(),((ks.length:Nat):Int),0,()),((0,()),()),[],())=some r:=h1
  rw[h1']
  cases hs:sumsL 0 ks with
  | none=>rw[hs] at h2;subst h2;rfl
  | some xs=>rw[hs] at h2;subst h2;rfl
theorem f91_eq (n w:Nat)(hn:n≤400)(hw:w≤32):f91 (n:Int) (w:Int)=some (((sizeP8 n w:Nat):Int),()):=by
 unfold f91 sizeP8
 have hm:n * w≤400 * 32:=Nat.mul_le_mul hn hw
 rw[decide_eq_false (show ¬ (n:Int)<0 by omega),decide_eq_false (show ¬ (400:Int)<(n:Int) by omega),decide_eq_false (show ¬ (w:Int)<0 by omega),decide_eq_false (show ¬ (32:Int)<(w:Int) by omega)]
 simp only[cond_false]
 have e:(n:Int) * (w:Int)=((n * w:Nat):Int):=by simp
 rw[e,w64 (x:=((n * w:Nat):Int)) (by omega) (by omega),w64 (x:=((n * w:Nat):Int)+8) (by omega) (by omega),w64 (x:=((n * w:Nat):Int)+8-1) (by omega) (by omega),Int.tdiv_eq_ediv_of_nonneg (by omega),w64 (by omega) (by omega)]
 congr 2
 omega
theorem wu64 {n:Nat}(h:n<2 ^ 64):IntKind.wrap .u64 (n:Int)=(n:Int):=by rw[IntKind.wrap_u64];omega
theorem bu_or {a b:Nat}(ha:a<2 ^ 64)(hb:b<2 ^ 64):bitop .or .u64 (a:Int) (b:Int)=((a ||| b:Nat):Int):=by
 show IntKind.wrap .u64 ((BitVec.ofInt 64 (a:Int) ||| BitVec.ofInt 64 (b:Int)).toNat:Int)=_
 rw[BitVec.toNat_or,bv_ofInt ha,bv_ofInt hb,wu64 (Nat.or_lt_two_pow ha hb)]
theorem bu_and {a b:Nat}(ha:a<2 ^ 64)(hb:b<2 ^ 64):bitop .and .u64 (a:Int) (b:Int)=((a &&& b:Nat):Int):=by
 show IntKind.wrap .u64 ((BitVec.ofInt 64 (a:Int) &&& BitVec.ofInt 64 (b:Int)).toNat:Int)=_
 rw[BitVec.toNat_and,bv_ofInt ha,bv_ofInt hb,wu64 (Nat.lt_of_le_of_lt Nat.and_le_left ha)]
theorem or_shift {left h n:Nat}(hl:left<2 ^ h)(hh:h≤30)(hn:n<2 ^ 20) :
  bitop .or .u64 (left:Int) (IntKind.wrap .u64 ((IntKind.wrap .u64 (n:Int)) * ((2:Int) ^ ((min (Int.toNat (h:Int)) 64):Nat))))=((left+n * 2 ^ h:Nat):Int)∧left+n * 2 ^ h<2 ^ 51:=by
 have hp:2 ^ h≤2 ^ 30:=Nat.pow_le_pow_right (by omega) hh
 have hm:n * 2 ^ h≤(2 ^ 20-1) * 2 ^ 30:=Nat.mul_le_mul (by omega) hp
 rw[Int.toNat_natCast,Nat.min_eq_left (by omega),wu64 (by omega)]
 have e:(n:Int) * ((2:Int) ^ h)=((n * 2 ^ h:Nat):Int):=by simp
 rw[e,wu64 (by omega),bu_or (by omega) (by omega),Nat.or_comm]
 have:=Nat.two_pow_add_eq_or_of_lt hl n
 rw[Nat.mul_comm] at this
 rw[← this]
 omega
abbrev st13 (l:List Int)(w:Int)(i h left:Nat)(out:List Int):X53_13:=(((),((left:Nat):Int),((h:Nat):Int),l,((l.length:Nat):Int),((i:Nat):Int),()),((w,()),()),out,())
abbrev ot13 (l:List Int)(w:Int)(i h left:Nat)(out:List Int):Y53_13:=(((),((left:Nat):Int),((h:Nat):Int),l,((l.length:Nat):Int),((i:Nat):Int),()),((w,()),()),out,())
theorem wrap8 (n:Nat):IntKind.wrap .u8 (n:Int)=((n % 256:Nat):Int):=by rw[IntKind.wrap_u8];omega
theorem spill (l:List Int)(w:Int)(i:Nat):∀ (fuel h left:Nat) (out:List Int),h≤100→h / 8<fuel→out.length+h / 8≤100000 →
  iter fuel u53_13 (st13 l w i h left out)=some (.inl (ot13 l w i (h % 8) (left / 256 ^ (h / 8)) (out++ints (dig (h / 8) left))))
 | 0,h,left,out,_,hf,_=>by omega
 | fuel+1,h,left,out,hh,hf,ho=>by
  by_cases h8:8≤h
  ·have hn:u53_13 (st13 l w i h left out)=some (.next (st13 l w i (h-8) (left / 256) (out++ints [left % 256]))):=by
    have hfd:Int.fdiv (left:Int) 256=((left / 256:Nat):Int):=by rw[Int.fdiv_eq_ediv_of_nonneg _ (by omega)];rfl
    simp only[st13,u53_13,t53_13]
    rw[decide_eq_true (show (8:Int)≤((h:Nat):Int) by omega),decide_eq_true (show (out.length+1) * 1≤140737488355328 by omega),decide_eq_true (show out.length+1≤9223372036854775807 by omega),hfd,w64 (by omega) (by omega),wrap8,show ((h:Nat):Int)-8=((h-8:Nat):Int) by omega]
    rfl
   rw[it_next hn,spill l w i fuel (h-8) (left / 256) (out++ints [left % 256]) (by omega) (by omega) (by rw[List.length_append,ints_len,List.length_singleton];omega)]
   have e1:h / 8=(h-8) / 8+1:=by omega
   rw[show (h-8) % 8=h % 8 by omega,Nat.div_div_eq_div_mul,show 256 * 256 ^ ((h-8) / 8)=256 ^ (h / 8) by rw[e1,Nat.pow_succ,Nat.mul_comm],List.append_assoc,ints_app,e1,dig]
   rfl
  ·rw[it_out (y:=ot13 l w i h left out)]
   ·rw[show h / 8=0 by omega,show h % 8=h by omega]
    simp[dig]
   ·simp only[st13,u53_13,t53_13]
    rw[decide_eq_false (show ¬ (8:Int)≤((h:Nat):Int) by omega)];rfl
abbrev st9 (l:List Int)(w:Int)(i h left:Nat)(out:List Int):X53_9:=(((),((left:Nat):Int),((h:Nat):Int),l,((l.length:Nat):Int),((i:Nat):Int),()),((w,()),()),out,())
theorem loop9 (l:List Nat)(w:Nat)(hw1:1≤w)(hw:w≤20)(hx:∀ x∈l,x<2 ^ w)(hl:l.length≤400):∀ (d i fuel h left:Nat) (out:List Nat),i+d=l.length→d<fuel→h<8→left<2 ^ h→out.length≤50 * i →
  ∃ h' left' out',iter fuel u53_9 (st9 (ints l) w i h left (ints out))=some (.inl ((((left':Nat):Int),((h':Nat):Int),()),(),ints out',()))∧h'<8∧out'.length≤20000 ∧
   out'++(if 0<h' then [left' % 256] else [])=out++packGo w h left (l.drop i):=by
 intro d
 induction d with
 | zero=>
  intro i fuel h left out hi hf h8 hlt ho
  obtain⟨fuel,rfl⟩:∃ g,fuel=g+1:=⟨fuel-1,by omega⟩
  have:i=l.length:=by omega
  subst this
  refine⟨h,left,out,it_out ?_,h8,by omega,?_⟩
  ·simp only[st9,u53_9,t53_9,ints_len,nlt,cond_false]
  ·rw[List.drop_length,packGo]
 | succ d ih=>
  intro i fuel h left out hi hf h8 hlt ho
  obtain⟨fuel,rfl⟩:∃ g,fuel=g+1:=⟨fuel-1,by omega⟩
  have hil:i<l.length:=by omega
  have hxi:=hx l[i] (List.getElem_mem hil)
  have hpw:2 ^ w≤2 ^ 20:=Nat.pow_le_pow_right (by omega) hw
  obtain⟨o1,o2⟩:=or_shift hlt (by omega) (show l[i]<2 ^ 20 by omega)
  have hsp:=spill (ints l) w i big (h+w) (left+l[i] * 2 ^ h) (ints out) (by omega) (by unfold big;omega) (by rw[ints_len];omega)
  have hlt2:left+l[i] * 2 ^ h<2 ^ (h+w):=by
   rw[Nat.pow_add]
   have:2 ^ h * (l[i]+1)≤2 ^ h * 2 ^ w:=Nat.mul_le_mul_left _ hxi
   rw[Nat.mul_add,Nat.mul_one,Nat.mul_comm (2 ^ h) l[i]] at this
   omega
  have hq:2 ^ (h+w)=256 ^ ((h+w) / 8) * 2 ^ ((h+w) % 8):=by
   rw[pow256,← Nat.pow_add]
   congr 1
   omega
  have h2:(left+l[i] * 2 ^ h) / 256 ^ ((h+w) / 8)<2 ^ ((h+w) % 8):=Nat.div_lt_of_lt_mul (by rw[← hq];exact hlt2)
  obtain⟨h',left',out',k1,k2,k3,k4⟩:=ih (i+1) fuel ((h+w) % 8) ((left+l[i] * 2 ^ h) / 256 ^ ((h+w) / 8)) (out++dig ((h+w) / 8) (left+l[i] * 2 ^ h)) (by omega) (by omega) (Nat.mod_lt _ (by omega)) h2 (by rw[List.length_append,dig_len];omega)
  refine⟨h',left',out',?_,k2,k3,?_⟩
  ·rw[it_next (x':=st9 (ints l) w (i+1) ((h+w) % 8) ((left+l[i] * 2 ^ h) / 256 ^ ((h+w) / 8)) (ints (out++dig ((h+w) / 8) (left+l[i] * 2 ^ h))))]
   ·exact k1
   ·simp only[st9,u53_9,t53_9,ltn hil,ints_len,ge0,cond_true,Bool.and_self,rdIn hil,show (Int.toNat (i:Int))=i from Int.toNat_natCast i,show decide (((h:Nat):Int)<0)=false from decide_eq_false (by omega),Bool.not_false]
    rw[o1,show ((h:Nat):Int)+((w:Nat):Int)=((h+w:Nat):Int) by omega,w64 (x:=((h+w:Nat):Int)) (by omega) (by omega)]
    simp only[st13,ints_len] at hsp
    rw[hsp]
    simp only[Option.bind_some,ot13,ints_len,nx hil (show l.length≤9223372036854775807 by omega),ints_app]
  ·rw[k4,List.append_assoc,List.drop_eq_getElem_cons hil,packGo]
theorem f53_eq (l:List Nat)(w:Nat)(hw1:1≤w)(hw:w≤20)(hx:∀ x∈l,x<2 ^ w)(hl:l.length≤400):f53 (ints l) (w:Int)=some (ints (packL w l),true,()):=by
 unfold f53
 rw[ints_len,f91_eq l.length w hl (by omega)]
 have hs:sizeP8 l.length w≤1600:=by
  unfold sizeP8
  have:l.length * w≤400 * 20:=Nat.mul_le_mul hl hw
  omega
 simp only[Option.bind_some]
 rw[decide_eq_false (show ¬ ((sizeP8 l.length w:Nat):Int) = -1 by omega)]
 simp only[cond_false]
 have e:iter big u53_135_2_0 ((ints l,(),((l.length:Nat):Int),0,()),((((w:Nat):Int),()),()),())=_:=
  it_all (u:=u53_135_2_0) (fun j=>((ints l,(),((l.length:Nat):Int),((j:Nat):Int),()),((((w:Nat):Int),()),()),())) (n:=l.length) (y:=((),((((w:Nat):Int),()),()),())) (fun j hj=>by
   have hxj:=hx l[j] (List.getElem_mem hj)
   simp only[u53_135_2_0,t53_135_2_0,ltn hj,ints_len,ge0,cond_true,Bool.and_self,Int.toNat_natCast,rdIn hj,nx hj (show l.length≤9223372036854775807 by omega),show decide (((l[j]:Nat):Int)<0)=false from decide_eq_false (by omega),show decide (((w:Nat):Int)<0)=false from decide_eq_false (by omega),cond_false,Bool.not_false,Nat.min_eq_left (show w≤64 by omega),fdiv_pow]
   rw[Nat.div_eq_of_lt hxj]
   rfl)
   (by simp only[u53_135_2_0,t53_135_2_0,nlt,cond_false]) 0 big (Nat.zero_le _) (by unfold big;omega)
 rw[e]
 simp only[Option.bind_some]
 rw[ge0,decide_eq_true (show ((sizeP8 l.length w:Nat):Int) * 1≤140737488355328 by omega)]
 simp only[Bool.and_self,cond_true]
 obtain⟨h',left',out',k1,k2,k3,k4⟩:=loop9 l w hw1 hw hx hl l.length 0 big 0 0 [] (by omega) (by unfold big;omega) (by omega) (by simp) (by simp)
 simp only[st9,ints_len] at k1
 have k1':iter big u53_9 (((),0,0,ints l,((l.length:Nat):Int),0,()),((((w:Nat):Int),()),()),[],())=_:=k1
 rw[k1']
 simp only[Option.bind_some]
 rw[List.drop_zero,List.nil_append,← packL_go w l hx] at k4
 by_cases h0:0<h'
 ·rw[if_pos h0] at k4
  rw[decide_eq_true (show (0:Int)<((h':Nat):Int) by omega),decide_eq_true (show (List.length (ints out')+1) * 1≤140737488355328 by rw[ints_len];omega),decide_eq_true (show List.length (ints out')+1≤9223372036854775807 by rw[ints_len];omega),wrap8]
  simp only[Bool.and_self,cond_true]
  rw[show [((left' % 256:Nat):Int)]=ints [left' % 256] from rfl,ints_app,k4]
 ·rw[if_neg h0,List.append_nil] at k4
  rw[decide_eq_false (show ¬ (0:Int)<((h':Nat):Int) by omega),k4]
  rfl
theorem fill (w:Nat)(hw1:1≤w)(hw:w≤20)(n i:Int):∀ (fuel h left:Nat) (b:List Nat) (out:List Int),(∀ c∈b,c<256)→h<w+8→left<2 ^ h→w≤h+8 * b.length→0<fuel∧w+1≤h+fuel→out.length≤1000 →
  ∃ b' h' left',iter fuel u68_8 ((ints b,((w:Nat):Int),((left:Nat):Int),((h:Nat):Int),n,i,()),(),out,()) =
    some (.inl ((ints b',((w:Nat):Int),((left' / 2 ^ w:Nat):Int),((h'-w:Nat):Int),n,i,()),(),out++[((left' % 2 ^ w:Nat):Int)],())) ∧
   (∀ c∈b',c<256)∧left'+2 ^ h' * val8 b'=left+2 ^ h * val8 b∧w≤h'∧h'<w+8∧left'<2 ^ h'∧h'+8 * b'.length=h+8 * b.length:=by
 intro fuel
 induction fuel with
 | zero=>
  intro h left b out hb hh hl hlen hf ho
  omega
 | succ fuel ih=>
  intro h left b out hb hh hl hlen hf ho
  by_cases hc:h<w
  ·match b,hb,hlen with
   | [],_,hlen=>simp at hlen;omega
   | c::r,hb,hlen=>
    have hc256:=hb c (by simp)
    obtain⟨o1,o2⟩:=or_shift hl (by omega) (show c<2 ^ 20 by omega)
    have hl2:left+c * 2 ^ h<2 ^ (h+8):=by
     rw[Nat.pow_add]
     have:2 ^ h * (c+1)≤2 ^ h * 256:=Nat.mul_le_mul_left _ hc256
     rw[Nat.mul_add,Nat.mul_one,Nat.mul_comm (2 ^ h) c] at this
     have e8:2 ^ 8=256:=rfl
     rw[e8]
     omega
    obtain⟨b',h',left',k1,k2,k3,k4,k5,k6,k7⟩:=ih (h+8) (left+c * 2 ^ h) r out (fun x hx=>hb x (by simp[hx])) (by omega) hl2 (by rw[List.length_cons] at hlen;omega) (by omega) ho
    refine⟨b',h',left',?_,k2,?_,k4,k5,k6,by rw[k7,List.length_cons];omega⟩
    ·rw[it_next (x':=((ints r,((w:Nat):Int),((left+c * 2 ^ h:Nat):Int),((h+8:Nat):Int),n,i,()),(),out,()))]
     ·exact k1
     ·have hr0:rd (.int .u8) (ints (c::r)) 0=((c:Nat):Int):=rdBn (l:=c::r) (j:=0) (by simp)
      simp only[u68_8,t68_8,ints_len,List.length_cons]
      rw[decide_eq_true (show ((h:Nat):Int)<((w:Nat):Int) by omega),decide_eq_true (show (0:Int)<((r.length+1:Nat):Int) by omega),decide_eq_false (show ¬ ((h:Nat):Int)<0 by omega),decide_eq_true (show (1:Int)≤((r.length+1:Nat):Int) by omega),dec_le (Nat.le_refl (r.length+1)),hr0,o1,w64 (by omega) (by omega)]
      simp only[cond_true,Bool.not_false,Bool.and_self,Int.toNat_natCast]
      rw[List.take_of_length_le (by rw[ints_len,List.length_cons];exact Nat.le_refl _)]
      rfl
    ·rw[k3,val8,Nat.pow_add,Nat.mul_add]
     have e8:2 ^ 8=256:=rfl
     rw[e8,Nat.mul_assoc,Nat.mul_comm c (2 ^ h)]
     omega
  ·refine⟨b,h,left,it_out ?_,hb,rfl,by omega,hh,hl,rfl⟩
   have hp:2 ^ h≤2 ^ 28:=Nat.pow_le_pow_right (by omega) (by omega)
   have hpw:1≤2 ^ w:=Nat.one_le_two_pow
   have hpw2:2 ^ w≤2 ^ 20:=Nat.pow_le_pow_right (by omega) hw
   have e1:(1:Int) * ((2:Int) ^ w)=((2 ^ w:Nat):Int):=by simp
   have e2:IntKind.wrap .u64 (((2 ^ w:Nat):Int)-1)=((2 ^ w-1:Nat):Int):=by
    rw[show ((2 ^ w:Nat):Int)-1=((2 ^ w-1:Nat):Int) by omega,wu64 (by omega)]
   have hm:left % 2 ^ w<2 ^ w:=Nat.mod_lt _ (Nat.two_pow_pos w)
   simp only[u68_8,t68_8]
   rw[decide_eq_false (show ¬ ((h:Nat):Int)<((w:Nat):Int) by omega),decide_eq_false (show ¬ ((w:Nat):Int)<0 by omega),decide_eq_true (show (out.length+1) * 8≤140737488355328 by omega),decide_eq_true (show out.length+1≤9223372036854775807 by omega)]
   simp only[cond_true,cond_false,Bool.not_false,Bool.and_self,Int.toNat_natCast,Nat.min_eq_left (show w≤64 by omega)]
   rw[e1,wu64 (n:=2 ^ w) (by omega),e2,bu_and (by omega) (by omega),Nat.and_two_pow_sub_one_eq_mod,fdiv_pow,w64 (x:=((left % 2 ^ w:Nat):Int)) (by omega) (by omega),w64 (x:=((h:Nat):Int)-((w:Nat):Int)) (by omega) (by omega),show ((h:Nat):Int)-((w:Nat):Int)=((h-w:Nat):Int) by omega]
theorem loop33 (w n:Nat)(hw1:1≤w)(hw:w≤20)(hn:n≤400):∀ (d i fuel h left t:Nat) (b:List Nat) (out:List Nat),i+d=n→d<fuel→(∀ c∈b,c<256)→h<8→left<2 ^ h→left+2 ^ h * val8 b=t→w * d≤h+8 * b.length→h+8 * b.length<w * d+8→out.length=i →
  iter fuel u68_7 ((ints b,((w:Nat):Int),((left:Nat):Int),((h:Nat):Int),((n:Nat):Int),((i:Nat):Int),()),(),ints out,())=some (.inl ((((t / 2 ^ (w * d):Nat):Int),()),(),ints (out++unp w d t),())):=by
 intro d
 induction d with
 | zero=>
  intro i fuel h left t b out hi hf hb h8 hl ht h1 h2 ho
  obtain⟨fuel,rfl⟩:∃ g,fuel=g+1:=⟨fuel-1,by omega⟩
  have:i=n:=by omega
  subst this
  have hb0:b=[]:=by
   match b with
   | []=>rfl
   | c::r=>simp at h2;omega
  subst hb0
  simp only[val8,Nat.mul_zero,Nat.add_zero] at ht
  subst ht
  refine it_out ?_
  simp only[u68_7,t68_7,nlt,cond_false,Nat.mul_zero,Nat.pow_zero,Nat.div_one,unp,List.append_nil]
 | succ d ih=>
  intro i fuel h left t b out hi hf hb h8 hl ht h1 h2 ho
  obtain⟨fuel,rfl⟩:∃ g,fuel=g+1:=⟨fuel-1,by omega⟩
  have hil:i<n:=by omega
  have hwd:w * (d+1)=w * d+w:=by rw[Nat.mul_add,Nat.mul_one]
  obtain⟨b',h',left',k1,k2,k3,k4,k5,k6,k7⟩:=fill w hw1 hw ((n:Nat):Int) ((i:Nat):Int) big h left b (ints out) hb (by omega) hl (by omega) (by unfold big;omega) (by rw[ints_len];omega)
  have e1:left' % 2 ^ w=t % 2 ^ w:=by
   rw[← ht,← k3,show 2 ^ h'=2 ^ w * 2 ^ (h'-w) by rw[← Nat.pow_add];congr 1;omega,Nat.mul_assoc,Nat.add_mul_mod_self_left]
  have e2:left' / 2 ^ w+2 ^ (h'-w) * val8 b'=t / 2 ^ w:=by
   rw[← ht,← k3,show 2 ^ h'=2 ^ w * 2 ^ (h'-w) by rw[← Nat.pow_add];congr 1;omega,Nat.mul_assoc,Nat.add_mul_div_left _ _ (Nat.two_pow_pos w)]
  have:=ih (i+1) fuel (h'-w) (left' / 2 ^ w) (t / 2 ^ w) b' (out++[left' % 2 ^ w]) (by omega) (by omega) k2 (by omega) (Nat.div_lt_of_lt_mul (by rw[← Nat.pow_add,show w+(h'-w)=h' by omega];exact k6)) e2 (by omega) (by omega) (by rw[List.length_append,ho];rfl)
  rw[it_next (x':=((ints b',((w:Nat):Int),((left' / 2 ^ w:Nat):Int),((h'-w:Nat):Int),((n:Nat):Int),((i+1:Nat):Int),()),(),ints (out++[left' % 2 ^ w]),()))]
  ·rw[this,Nat.div_div_eq_div_mul,← Nat.pow_add,show w+w * d=w * (d+1) by omega,List.append_assoc,e1,unp]
   rfl
  ·simp only[u68_7,t68_7,ltn hil,cond_true]
   rw[k1]
   simp only[Option.bind_some,nx hil (show n≤9223372036854775807 by omega)]
   rw[show [((left' % 2 ^ w:Nat):Int)]=ints [left' % 2 ^ w] from rfl,ints_app]
theorem f68_eq (b:List Nat)(hb:∀ c∈b,c<256)(n w:Nat)(hw1:1≤w)(hw:w≤20):f68 (ints b) (n:Int) (w:Int)=some (if n≤400 then (match unpackL w n b with
  | some l=>(ints l,true,())
  | none=>([],false,())) else ([],false,())):=by
 unfold f68
 by_cases hn:n≤400
 case neg=>
  rw[if_neg hn]
  have:f91 (n:Int) (w:Int)=some (-1,()):=by
   unfold f91
   rw[decide_eq_false (show ¬ (n:Int)<0 by omega),decide_eq_true (show (400:Int)<(n:Int) by omega)];rfl
  rw[this,ints_len]
  simp only[Option.bind_some]
  rw[decide_eq_false (show ¬ (-1:Int)=((b.length:Nat):Int) by omega)];rfl
 rw[if_pos hn,f91_eq n w hn (by omega),ints_len]
 simp only[Option.bind_some]
 unfold unpackL
 by_cases hs:sizeP8 n w=b.length
 case neg=>
  rw[decide_eq_false (show ¬ ((sizeP8 n w:Nat):Int)=((b.length:Nat):Int) by omega),if_neg (fun h=>hs h.1.symm)];rfl
 rw[decide_eq_true (show ((sizeP8 n w:Nat):Int)=((b.length:Nat):Int) by omega)]
 simp only[Bool.not_true,cond_false]
 have hsz:w * n≤8 * b.length∧8 * b.length<w * n+8:=by
  rw[← hs]
  unfold sizeP8
  rw[Nat.mul_comm w]
  omega
 have hlp:=loop33 w n hw1 hw hn n 0 big 0 0 (val8 b) b [] (by omega) (by unfold big;omega) hb (by omega) (by simp) (by simp) (by omega) (by omega) rfl
 have hlp':iter big u68_7 ((ints b,((w:Nat):Int),0,0,((n:Nat):Int),0,()),(),[],())=_:=hlp
 rw[hlp']
 simp only[Option.bind_some,List.nil_append]
 by_cases hv:val8 b<2 ^ (w * n)
 ·rw[if_pos ⟨hs.symm,hv⟩,Nat.div_eq_of_lt hv];rfl
 ·rw[if_neg (fun h=>hv h.2)]
  have:1≤val8 b / 2 ^ (w * n):=(Nat.le_div_iff_mul_le (Nat.two_pow_pos _)).2 (by omega)
  rw[decide_eq_false (show ¬ ((val8 b / 2 ^ (w * n):Nat):Int)=0 by omega)];rfl
theorem f50_eq {a b:Int}(h1:0≤a∧a<4)(h2:0≤b∧b<8):f50 a b=some (((a.toNat * 8+b.toNat:Nat):Int),()):=by
 unfold f50
 rw[w64 (x:=a * 8) (by omega) (by omega),w64 (by omega) (by omega)]
 congr 2
 omega
theorem f52_eq (s:ST)(h:Sm s) :
  f52 s.1.1.1 s.1.1.2 s.1.2.1.1 s.1.2.1.2 s.1.2.2.1 s.1.2.2.2.1 s.1.2.2.2.2.1 s.1.2.2.2.2.2 s.2.1.1 s.2.1.2.1 s.2.1.2.2.1 s.2.1.2.2.2 s.2.2.1 s.2.2.2.1 s.2.2.2.2.1 s.2.2.2.2.2=some (numsI s,()):=by
 unfold f52
 have hP:=h.p
 have hsz:s.2.2.2.1.length≤9223372036854775807:=by omega
 have key:∀ (a:List Int),a.length=15→iter big u52_6 ((s.2.2.2.1,((s.2.2.2.1.length:Nat):Int),0,()),(),a,())=some (.inl ((),(),a++s.2.2.2.1.flatMap (fun x=>[x.1,x.2.1,x.2.2]),())):=by
  intro a ha
  have:=it_all (u:=u52_6) (fun j=>((s.2.2.2.1,((s.2.2.2.1.length:Nat):Int),((j:Nat):Int),()),(),a++(s.2.2.2.1.take j).flatMap (fun x=>[x.1,x.2.1,x.2.2]),())) (n:=s.2.2.2.1.length) (y:=((),(),a++s.2.2.2.1.flatMap (fun x=>[x.1,x.2.1,x.2.2]),()))
   (fun j hj=>by
    have hlen:(a++(s.2.2.2.1.take j).flatMap (fun x=>[x.1,x.2.1,x.2.2])).length≤4000:=by
     rw[List.length_append,flatMap3_len,ha,List.length_take];omega
    simp only[u52_6,t52_6,ltn hj,ge0,cond_true,Bool.and_self,Int.toNat_natCast,rdH hj,nx hj hsz]
    rw[decide_eq_true (show ((a++(s.2.2.2.1.take j).flatMap (fun x=>[x.1,x.2.1,x.2.2])).length+3) * 8≤140737488355328 by omega),decide_eq_true (show (a++(s.2.2.2.1.take j).flatMap (fun x=>[x.1,x.2.1,x.2.2])).length+3≤9223372036854775807 by omega)]
    rw[take_snoc hj,List.flatMap_append,← List.append_assoc]
    simp only[List.flatMap_cons,List.flatMap_nil,List.append_nil]
    rfl)
   (by simp only[u52_6,t52_6,nlt,cond_false,List.take_length]) 0 big (Nat.zero_le _) (by unfold big;omega)
  simp only[List.take_zero,List.flatMap_nil,List.append_nil] at this
  exact this
 unfold numsI
 cases hp:s.2.1.2.2.2 with
 | true=>
  simp only[cond_true,show decide ((11:Int)<15)=true from rfl,if_true]
  rw[key _ rfl];rfl
 | false=>
  simp only[cond_false,Bool.false_eq_true,if_false]
  rw[key _ rfl];rfl
theorem whose_eq {x:LT}(h:(0≤x.1∧x.1<32)∧(0≤x.2.1∧x.2.1<4)∧(0≤x.2.2.1∧x.2.2.1<8)):bitop .or .i64 (IntKind.wrap .i64 (x.1 * 32)) (((x.2.1.toNat * 8+x.2.2.1.toNat:Nat):Int))=((whoseN x:Nat):Int):=by
 rw[w64 (by omega) (by omega),show x.1 * 32=((x.1.toNat * 32:Nat):Int) by omega,b_or_add (m:=5) (by omega) (by omega) (by omega) (by omega)]
 rfl
abbrev fl (s:ST):Int×Int×Int×Int×Int×Int×Int×Int×Int×Int×Int×Bool×Int×List HT×List LT×List HT×Unit:=
 (s.1.1.1,s.1.1.2,s.1.2.1.1,s.1.2.1.2,s.1.2.2.1,s.1.2.2.2.1,s.1.2.2.2.2.1,s.1.2.2.2.2.2,s.2.1.1,s.2.1.2.1,s.2.1.2.2.1,s.2.1.2.2.2,s.2.2.1,s.2.2.2.1,s.2.2.2.2.1,s.2.2.2.2.2,())
section
variable {s:ST}
theorem loop11a (M:MayS s):iter big u27_6 (((),s.2.2.2.2.1,((s.2.2.2.2.1.length:Nat):Int),0,()),(fl s,()),[],[],[],[],()) =
  some (.inl (((),()),(fl s,()),ints (s.2.2.2.2.1.map whoseN),ints (s.2.2.2.2.1.map fun x=>x.2.2.2.1.toNat),[],[],())):=by
 have hL:=M.len
 have hb:∀ x∈s.2.2.2.2.1,_:=fun x hx=>M.subB hx
 generalize hLL:s.2.2.2.2.1=L at hL hb
 have:=it_all (u:=u27_6) (fun j=>(((),L,((L.length:Nat):Int),((j:Nat):Int),()),(fl s,()),ints ((L.take j).map whoseN),ints ((L.take j).map fun x=>x.2.2.2.1.toNat),[],[],())) (n:=L.length)
  (y:=(((),()),(fl s,()),ints (L.map whoseN),ints (L.map fun x=>x.2.2.2.1.toNat),[],[],())) (fun j hj=>by
   obtain⟨b1,b2,b3,b4,b5⟩:=hb L[j] (List.getElem_mem hj)
   have l1:(ints ((L.take j).map whoseN)).length=j:=by rw[ints_len,List.length_map,List.length_take];omega
   have l2:(ints ((L.take j).map fun x=>x.2.2.2.1.toNat)).length=j:=by rw[ints_len,List.length_map,List.length_take];omega
   simp only[u27_6,t27_6,fl,ltn hj,ge0,cond_true,Bool.and_self,Int.toNat_natCast,rdL hj,nx hj (show L.length≤9223372036854775807 by omega),f50_eq b2 b3,Option.bind_some,l1,l2]
   rw[decide_eq_true (show (j+1) * 8≤140737488355328 by omega),decide_eq_true (show j+1≤9223372036854775807 by omega),whose_eq ⟨b1,b2,b3⟩,take_snoc hj,List.map_append,List.map_append,← ints_app,← ints_app]
   simp only[List.map_cons,List.map_nil,ints,toNat_cast b4]
   rfl)
  (by simp only[u27_6,t27_6,fl,nlt,cond_false,List.take_length]) 0 big (Nat.zero_le _) (by unfold big;omega)
 exact this
theorem loop11b (M:MayS s)(A B:List Int):iter big u27_11 (((),s.2.2.2.2.2,((s.2.2.2.2.2.length:Nat):Int),0,()),(fl s,()),A,B,[],[],()) =
  some (.inl (((),()),(fl s,()),A,B,ints (s.2.2.2.2.2.map whichN),ints (s.2.2.2.2.2.map fun x=>x.2.2.toNat),())):=by
 have hL:=M.lenH
 have hb:∀ x∈s.2.2.2.2.2,_:=fun x hx=>M.heldB hx
 generalize hLL:s.2.2.2.2.2=L at hL hb
 have:=it_all (u:=u27_11) (fun j=>(((),L,((L.length:Nat):Int),((j:Nat):Int),()),(fl s,()),A,B,ints ((L.take j).map whichN),ints ((L.take j).map fun x=>x.2.2.toNat),())) (n:=L.length)
  (y:=(((),()),(fl s,()),A,B,ints (L.map whichN),ints (L.map fun x=>x.2.2.toNat),())) (fun j hj=>by
   obtain⟨b2,b3,b4,b5⟩:=hb L[j] (List.getElem_mem hj)
   have l1:(ints ((L.take j).map whichN)).length=j:=by rw[ints_len,List.length_map,List.length_take];omega
   have l2:(ints ((L.take j).map fun x=>x.2.2.toNat)).length=j:=by rw[ints_len,List.length_map,List.length_take];omega
   simp only[u27_11,t27_11,fl,ltn hj,ge0,cond_true,Bool.and_self,Int.toNat_natCast,rdH hj,nx hj (show L.length≤9223372036854775807 by omega),f50_eq b2 b3,Option.bind_some,l1,l2]
   rw[decide_eq_true (show (j+1) * 8≤140737488355328 by omega),decide_eq_true (show j+1≤9223372036854775807 by omega),take_snoc hj,List.map_append,List.map_append,← ints_app,← ints_app]
   simp only[List.map_cons,List.map_nil,ints,toNat_cast b4]
   rfl)
  (by simp only[u27_11,t27_11,fl,nlt,cond_false,List.take_length]) 0 big (Nat.zero_le _) (by unfold big;omega)
 exact this
theorem ck (n:Nat)(h:n≤100000):(decide (n * 1≤140737488355328)&&decide (n≤9223372036854775807))=true:=by
 rw[decide_eq_true (by omega),decide_eq_true (by omega)];rfl
theorem numsI_ints (M:MayS s):numsI s=ints (nums s):=by
 unfold nums ints
 rw[List.map_map]
 conv=>lhs;rw[← List.map_id (numsI s)]
 refine List.map_congr_left fun x hx=>?_
 exact (toNat_cast (numsI_ge M x hx).1).symm
end
theorem f27_eq (s:ST)(h:Sm s) :
  f27 s.1.1.1 s.1.1.2 s.1.2.1.1 s.1.2.1.2 s.1.2.2.1 s.1.2.2.2.1 s.1.2.2.2.2.1 s.1.2.2.2.2.2 s.2.1.1 s.2.1.2.1 s.2.1.2.2.1 s.2.1.2.2.2 s.2.2.1 s.2.2.2.1 s.2.2.2.2.1 s.2.2.2.2.2=some (match putS s with
   | some b=>(ints b,true,())
   | none=>([],false,())):=by
 unfold f27
 rw[f48_eq s h.szP h.szL h.szH]
 simp only[Option.bind_some]
 by_cases M:MayS s
 case neg=>
  have:putS s=none:=by unfold putS;rw[if_neg (fun k=>M k.1)]
  rw[decide_eq_false M,this];rfl
 rw[decide_eq_true M]
 simp only[Bool.not_true,cond_false]
 have e:iter big u27_88_2_0 ((s.2.2.2.2.1,(),((s.2.2.2.2.1.length:Nat):Int),0,()),(fl s,()),())=_:=
  it_idx s.2.2.2.2.1 (fun x=>!decide (x.2.2.2.2=s.2.2.1)) (fun j=>((s.2.2.2.2.1,(),((s.2.2.2.2.1.length:Nat):Int),((j:Nat):Int),()),(fl s,()),())) (fun j=>((((j:Nat):Int),()),(fl s,()),()))
   (y:=((),(fl s,()),())) (fun j hj=>by
    simp only[u27_88_2_0,t27_88_2_0,fl,ltn hj,ge0,cond_true,Bool.and_self,Int.toNat_natCast,rdL hj,nx hj h.szL])
   (by simp only[u27_88_2_0,t27_88_2_0,fl,nlt,cond_false]) (fuel:=big) (by have:=h.l;unfold big;omega)
 have e':iter big u27_88_2_0 ((s.2.2.2.2.1,(),((s.2.2.2.2.1.length:Nat):Int),0,()),((s.1.1.1,s.1.1.2,s.1.2.1.1,s.1.2.1.2,s.1.2.2.1,s.1.2.2.2.1,s.1.2.2.2.2.1,s.1.2.2.2.2.2,s.2.1.1,s.2.1.2.1,s.2.1.2.2.1,s.2.1.2.2.2,s.2.2.1,s.2.2.2.1,s.2.2.2.2.1,s.2.2.2.2.2,()),()),())=_:=e
 rw[e']
 by_cases hi:s.2.2.2.2.1.findIdx (fun x=>!decide (x.2.2.2.2=s.2.2.1))<s.2.2.2.2.1.length
 ·have hn:putS s=none:=by
   unfold putS
   rw[if_neg]
   rintro ⟨_,hS⟩
   rw[List.findIdx_lt_length] at hi
   obtain⟨x,hx,hd⟩:=hi
   rw[hS x hx] at hd
   simp at hd
  rw[if_pos hi,hn]
  simp only[Option.bind_some,ge0,cond_true]
 ·have hS:Settled s:=by
   intro x hx
   rw[List.findIdx_lt_length] at hi
   cases hd:decide (x.2.2.2.2=s.2.2.1) with
   | true=>exact of_decide_eq_true hd
   | false=>exact absurd ⟨x,hx,by simp only[hd];rfl⟩ hi
  have hp:putS s=some (encS s):=putS_some.2 ⟨⟨M,hS⟩,rfl⟩
  rw[if_neg hi,hp]
  simp only[Option.bind_some]
  rw[show iter big u27_6 _=_ from loop11a M]
  simp only[Option.bind_some]
  rw[show iter big u27_11 _=_ from loop11b M _ _]
  simp only[Option.bind_some,fl]
  rw[f52_eq s h]
  simp only[Option.bind_some]
  rw[numsI_ints M,f51_eq (nums s) (by rw[nums_len];have:=M.pools.len;omega) (nums_le M)]
  simp only[Option.bind_some]
  have hL:=M.len
  have hH:=M.lenH
  have g1:=f53_eq (s.2.2.2.2.1.map whoseN) 10 (by omega) (by omega) M.whoseB (by rw[List.length_map];omega)
  have g2:=f54_eq (s.2.2.2.2.1.map fun x=>x.2.2.2.1.toNat) (by rw[List.length_map];omega) (fun n hn=>by have:=M.fromB n hn;omega)
  have g3:=f53_eq (s.2.2.2.2.2.map whichN) 5 (by omega) (by omega) M.whichB (by rw[List.length_map];omega)
  have g4:=f54_eq (s.2.2.2.2.2.map fun x=>x.2.2.toNat) (by rw[List.length_map];omega) (fun n hn=>by have:=M.tillB n hn;omega)
  rw[show ((10:Nat):Int)=10 from rfl] at g1
  rw[show ((5:Nat):Int)=5 from rfl] at g3
  rw[g1]
  simp only[Option.bind_some]
  rw[g2]
  simp only[Option.bind_some]
  rw[g3]
  simp only[Option.bind_some]
  rw[g4]
  simp only[Option.bind_some]
  obtain⟨l1,l2,l3,l4,l5⟩:=parts_len M
  have hv:∀ n≤160,(vput n).length≤2:=fun n hn=>vput_len 1 n (by omega)
  have enc:encS s=enc1 (partsS s).1++(enc1 (partsS s).2.1++(enc1 (partsS s).2.2.1++(enc1 (partsS s).2.2.2.1++enc1 (partsS s).2.2.2.2))):=rfl
  rw[enc]
  rw[show flat (nums s)=(partsS s).1 from rfl,show packL 10 (s.2.2.2.2.1.map whoseN)=(partsS s).2.1 from rfl,show flat (stepsL 0 (s.2.2.2.2.1.map fun x=>x.2.2.2.1.toNat))=(partsS s).2.2.1 from rfl,show packL 5 (s.2.2.2.2.2.map whichN)=(partsS s).2.2.2.1 from rfl,show flat (stepsL 0 (s.2.2.2.2.2.map fun x=>x.2.2.toNat))=(partsS s).2.2.2.2 from rfl]
  generalize (partsS s).1=p0 at l1 ⊢
  generalize (partsS s).2.1=p1 at l2 ⊢
  generalize (partsS s).2.2.1=p2 at l3 ⊢
  generalize (partsS s).2.2.2.1=p3 at l4 ⊢
  generalize (partsS s).2.2.2.2=p4 at l5 ⊢
  have v0:=hv p0.length (by omega)
  have v1:=hv p1.length (by omega)
  have v2:=hv p2.length (by omega)
  have v3:=hv p3.length (by omega)
  have v4:=hv p4.length (by omega)
  simp only[ints_len,f55_eq p0.length (by omega),f55_eq p1.length (by omega),f55_eq p2.length (by omega),f55_eq p3.length (by omega),f55_eq p4.length (by omega),Option.bind_some,List.length_append]
  rw[ck _ (by omega),ck _ (by omega),ck _ (by omega),ck _ (by omega),ck _ (by omega),ck _ (by omega),ck _ (by omega),ck _ (by omega),ck _ (by omega),ck _ (by omega)]
  simp only[cond_true,ints_app,enc1,List.append_assoc]
set_option maxRecDepth 100000
noncomputable def lvl30 {R:Type}(b:List Int)(KF:Option R)(K:List Int→List Int→Option R):Option R:=
 (f63 b 0).bind fun y=>cond (decide (y.2.1=(-1))) KF (cond (decide ((IntKind.wrap .i64 (((b.length:Nat):Int)-y.2.1))<y.1)) KF
  (cond ((((decide (0≤y.2.1))&&(decide (y.2.1≤(IntKind.wrap .i64 (y.2.1+y.1)))))&&(decide ((IntKind.wrap .i64 (y.2.1+y.1))≤(IntKind.wrap .i64 (y.2.1+y.1)))))&&(decide ((IntKind.wrap .i64 (y.2.1+y.1))≤((b.length:Nat):Int))))
   (cond (((decide (0≤(IntKind.wrap .i64 (y.2.1+y.1))))&&(decide ((IntKind.wrap .i64 (y.2.1+y.1))≤((b.length:Nat):Int))))&&(decide (((b.length:Nat):Int)≤((b.length:Nat):Int))))
    (K (List.drop (Int.toNat y.2.1) (List.take (Int.toNat (IntKind.wrap .i64 (y.2.1+y.1))) b)) (List.drop (Int.toNat (IntKind.wrap .i64 (y.2.1+y.1))) (List.take (Int.toNat ((b.length:Nat):Int)) b))) none) none))
theorem lvl30_eq {R:Type}(b:List Nat)(hb:∀ c∈b,c<256)(hl:b.length≤1000000000)(KF:Option R)(K:List Int→List Int→Option R) :
  lvl30 (ints b) KF K=match partS b with
   | none=>KF
   | some (p,r)=>K (ints p) (ints r):=by
 unfold lvl30 partS
 have h97:=f63_eq b hb hl 0 (by omega)
 rw[List.drop_zero,show ((0:Nat):Int)=0 from rfl] at h97
 rw[h97]
 cases hg:vget b with
 | none=>rfl
 | some q=>
  obtain⟨n,k⟩:=q
  obtain⟨g1,g2,g3⟩:=vget_of hb hg
  have hk:k≤b.length:=by
   rw[g3,List.length_append,← g2];omega
  simp only[Option.bind_some,ints_len,Nat.zero_add]
  rw[decide_eq_false (show ¬ ((k:Nat):Int) = -1 by omega),w64 (x:=((b.length:Nat):Int)-((k:Nat):Int)) (by omega) (by omega)]
  simp only[cond_false]
  by_cases hn:n≤b.length-k
  ·rw[if_pos hn,decide_eq_false (show ¬ ((b.length:Nat):Int)-((k:Nat):Int)<((n:Nat):Int) by omega),w64 (x:=((k:Nat):Int)+((n:Nat):Int)) (by omega) (by omega),show ((k:Nat):Int)+((n:Nat):Int)=((k+n:Nat):Int) by omega]
   simp only[cond_false,Int.toNat_natCast,ge0,Bool.true_and]
   rw[dec_le (show k≤k+n by omega),dec_le (Nat.le_refl (k+n)),dec_le (show k+n≤b.length by omega),dec_le (Nat.le_refl b.length)]
   simp only[Bool.and_self,cond_true]
   congr 1
   ·rw[ints_take,ints_drop,List.drop_take,Nat.add_sub_cancel_left]
   ·rw[ints_take,ints_drop,List.take_of_length_le (Nat.le_refl _),List.drop_drop]
  ·rw[if_neg hn,decide_eq_true (show ((b.length:Nat):Int)-((k:Nat):Int)<((n:Nat):Int) by omega)]
   rfl
theorem f30_lvl (b:List Int):f65 b=lvl30 b (some (([],[],[],[],[]),false,())) fun p0 r0=>lvl30 r0 (some ((p0,[],[],[],[]),false,())) fun p1 r1=>lvl30 r1 (some ((p0,p1,[],[],[]),false,())) fun p2 r2=>
  lvl30 r2 (some ((p0,p1,p2,[],[]),false,())) fun p3 r3=>lvl30 r3 (some ((p0,p1,p2,p3,[]),false,())) fun p4 r4=>some ((p0,p1,p2,p3,p4),decide (((r4.length:Nat):Int)=0),()):=rfl
theorem partS_len {b p r:List Nat}(hb:∀ c∈b,c<256)(h:partS b=some (p,r)):p.length≤b.length∧r.length≤b.length:=by
 have:=congrArg List.length (partS_of hb h).1
 unfold enc1 at this
 simp only[List.length_append] at this
 omega
theorem f65_eq (b:List Nat)(hb:∀ c∈b,c<256)(hl:b.length≤1000000000) :
  ∃ (X0:List Nat) (X1:List Int×List Int×List Int×List Int) (is:Bool),f65 (ints b)=some ((ints X0,X1),is,())∧(∀ c∈X0,c<256)∧X0.length≤b.length ∧
   (match split5 b with
    | some (p,r)=>if r=[] then is=true∧X0=p.1∧X1=(ints p.2.1,ints p.2.2.1,ints p.2.2.2.1,ints p.2.2.2.2) else is=false
    | none=>is=false):=by
 rw[f30_lvl,lvl30_eq b hb hl]
 unfold split5
 cases h0:partS b with
 | none=>exact⟨[],_,false,rfl,by simp,by simp,rfl⟩
 | some q0=>
 obtain⟨p0,r0⟩:=q0
 obtain⟨e0,_,b0,c0⟩:=partS_of hb h0
 obtain⟨l0,m0⟩:=partS_len hb h0
 simp only[Option.bind_some]
 rw[lvl30_eq r0 c0 (by omega)]
 cases h1:partS r0 with
 | none=>exact⟨p0,_,false,rfl,b0,l0,rfl⟩
 | some q1=>
 obtain⟨p1,r1⟩:=q1
 obtain⟨e1,_,b1,c1⟩:=partS_of c0 h1
 obtain⟨l1,m1⟩:=partS_len c0 h1
 simp only[Option.bind_some]
 rw[lvl30_eq r1 c1 (by omega)]
 cases h2:partS r1 with
 | none=>exact⟨p0,_,false,rfl,b0,l0,rfl⟩
 | some q2=>
 obtain⟨p2,r2⟩:=q2
 obtain⟨e2,_,b2,c2⟩:=partS_of c1 h2
 obtain⟨l2,m2⟩:=partS_len c1 h2
 simp only[Option.bind_some]
 rw[lvl30_eq r2 c2 (by omega)]
 cases h3:partS r2 with
 | none=>exact⟨p0,_,false,rfl,b0,l0,rfl⟩
 | some q3=>
 obtain⟨p3,r3⟩:=q3
 obtain⟨e3,_,b3,c3⟩:=partS_of c2 h3
 obtain⟨l3,m3⟩:=partS_len c2 h3
 simp only[Option.bind_some]
 rw[lvl30_eq r3 c3 (by omega)]
 cases h4:partS r3 with
 | none=>exact⟨p0,_,false,rfl,b0,l0,rfl⟩
 | some q4=>
 obtain⟨p4,r4⟩:=q4
 simp only[Option.bind_some,ints_len]
 refine⟨p0,_,_,rfl,b0,l0,?_⟩
 by_cases hr:r4=[]
 ·rw[if_pos hr,hr]
  exact⟨rfl,rfl,rfl⟩
 ·rw[if_neg hr]
  refine decide_eq_false ?_
  intro h
  exact hr (List.eq_nil_of_length_eq_zero (by omega))
abbrev uu12:=((),(),(),(),(),(),(),(),(),(),(),(),(),(),(),(),(),(),(),(),(),(),(),(),(),(),(),(),(),(),(),(),(),(),(),(),(),(),(),(),(),(),(),(),(),(),(),(),(),(),(),(),(),(),(),(),(),(),(),(),(),(),(),(),(),(),(),(),(),(),(),(),(),(),(),(),(),(),(),(),(),(),(),(),(),(),(),(),(),(),(),(),(),(),(),(),(),(),(),(),(),(),(),(),(),(),(),(),(),(),(),(),(),(),(),(),(),(),(),(),(),(),(),(),(),(),(),(),(),(),(),(),(),(),(),(),(),(),(),(),(),(),(),(),(),(),(),(),(),(),(),(),(),(),(),(),(),(),(),(),(),(),(),(),(),(),(),(),(),(),(),(),(),(),(),(),(),(),(),(),(),(),(),(),(),(),(),(),(),(),(),(),(),(),(),(),(),(),(),(),(),(),(),(),(),(),(),(),(),(),(),(),(),(),(),(),(),(),(),(),(),(),(),(),(),(),(),(),(),(),(),(),(),(),(),(),(),())
abbrev parts12 (p:P5):List Int×List Int×List Int×List Int×List Int×Unit:=(ints p.1,ints p.2.1,ints p.2.2.1,ints p.2.2.2.1,ints p.2.2.2.2,())
abbrev fl0:Int×Int×Int×Int×Int×Int×Int×Int×Int×Int×Int×Bool×Int×Unit×Unit×Unit×Unit:=
 (0,0,0,0,0,0,0,0,0,0,0,false,0,(),(),(),())
abbrev flN (ns:List Nat):Int×Int×Int×Int×Int×Int×Int×Int×Int×Int×Int×Bool×Int×Unit×Unit×Unit×Unit:=
 (gN ns 0,gN ns 1,gN ns 2,gN ns 3,gN ns 4,gN ns 5,gN ns 6,gN ns 7,gN ns 8,gN ns 9,gN ns 10,decide (gN ns 11=1),gN ns 12,(),(),(),())
theorem chunk_len (n:Nat)(l:List Nat)(h:l.length=3 * n):(chunk3 l).length=n:=(flat_chunk n l h).2
theorem loop12a (ns m:List Nat)(p:P5)(hm:m.length≤100000):∀ (d i fuel:Nat) (out:List HT),m.length=i+3 * d→d<fuel→out.length+d≤100000 →
  iter fuel u32_111_1_0 (((),(),(),((i:Nat):Int),()),(fl0,parts12 p,flN ns,(ints m,()),(3,()),uu12,()),[],[],[],out,[],[],()) =
   some (.inl ((),(fl0,parts12 p,flN ns,(ints m,()),(3,()),uu12,()),[],[],[],out++chunk3 (m.drop i),[],[],()))
 | d,i,0,out,_,h,_=>by omega
 | 0,i,fuel+1,out,hi,_,_=>by
  have:i=m.length:=by omega
  subst this
  rw[List.drop_length]
  refine it_out ?_
  simp only[u32_111_1_0,t32_111_1_0,ints_len,nlt,cond_false,chunk3,List.append_nil]
 | d+1,i,fuel+1,out,hi,hf,ho=>by
  obtain⟨a,b,c,r,e⟩:∃ a b c r,m.drop i=a::b::c::r:=by
   have hlen:(m.drop i).length=3 * (d+1):=by rw[List.length_drop];omega
   match h:m.drop i,hlen with
   | [],hlen=>simp at hlen
   | [_],hlen=>simp at hlen;omega
   | [_,_],hlen=>simp at hlen;omega
   | a::b::c::r,_=>exact⟨a,b,c,r,rfl⟩
  have e3:m.drop (i+3)=r:=by rw[← List.drop_drop,e];rfl
  have hd:List.drop i (List.take m.length (ints m))=ints (m.drop i):=by rw[ints_take,ints_drop,List.take_of_length_le (Nat.le_refl _)]
  have hlen:(m.drop i).length=m.length-i:=List.length_drop
  have hn:u32_111_1_0 (((),(),(),((i:Nat):Int),()),(fl0,parts12 p,flN ns,(ints m,()),(3,()),uu12,()),[],[],[],out,[],[],())
    = some (.next (((),(),(),((i+3:Nat):Int),()),(fl0,parts12 p,flN ns,(ints m,()),(3,()),uu12,()),[],[],[],out++[((a:Int),(b:Int),(c:Int))],[],[],())):=by
   have hw:IntKind.wrap .i64 (((i:Nat):Int)+3)=((i+3:Nat):Int):=by rw[w64 (by omega) (by omega)];omega
   have hsl:List.drop i (List.take (i+3) (ints m))=ints [a,b,c]:=by
    rw[ints_take,ints_drop,List.drop_take,Nat.add_sub_cancel_left,e];rfl
   have h3:decide (((m.length-i:Nat):Int)<3)=false:=decide_eq_false (by omega)
   simp only[u32_111_1_0,t32_111_1_0,mnI,ints_len,ltn (show i<m.length by omega),cond_true,ge0,Bool.true_and,dec_le (show i≤m.length by omega),dec_le (Nat.le_refl m.length),Int.toNat_natCast,hd,hlen,h3,cond_false,hw,hsl]
   rw[dec_le (show i≤i+3 by omega),dec_le (Nat.le_refl (i+3)),dec_le (show i+3≤m.length by omega),decide_eq_true (show (out.length+1) * 24≤140737488355328 by omega),decide_eq_true (show out.length+1≤9223372036854775807 by omega)]
   rfl
  rw[it_next hn,loop12a ns m p hm d (i+3) fuel _ (by omega) (by omega) (by rw[List.length_append,List.length_singleton];omega),e3,e,List.append_assoc]
  rfl
theorem and31 (x:Nat)(h:x<2 ^ 20):bitop .and .i64 ((x:Nat):Int) 31=((x % 32:Nat):Int):=by
 have:=b_and_mask (a:=x) (m:=5) (by omega) (by omega)
 exact this
theorem loop12b (ns:List Nat)(P0:List HT)(whose fr which till:List Nat)(hl:fr.length=whose.length)(h4:whose.length≤400)(hx:∀ x∈whose,x<2 ^ 20) :
  ∀ (d i fuel:Nat) (out:List LT),i+d=whose.length→d<fuel→out.length=i →
   iter fuel u32_16 (((),(),ints fr,ints which,ints till,ints whose,((whose.length:Nat):Int),((i:Nat):Int),()),(fl0,flN ns,()),[],[],[],P0,out,[],()) =
    some (.inl (((),(),ints which,ints till,()),(fl0,flN ns,()),[],[],[],P0,out++zipL (gN ns 12) (whose.drop i) (fr.drop i),[],()))
 | d,i,0,out,_,h,_=>by omega
 | 0,i,fuel+1,out,hi,_,_=>by
  have:i=whose.length:=by omega
  subst this
  rw[List.drop_length]
  refine it_out ?_
  simp only[u32_16,t32_16,nlt,cond_false,zipL,List.append_nil]
 | d+1,i,fuel+1,out,hi,hf,ho=>by
  have hiw:i<whose.length:=by omega
  have hif:i<fr.length:=by omega
  have hxi:=hx whose[i] (List.getElem_mem hiw)
  have hn:u32_16 (((),(),ints fr,ints which,ints till,ints whose,((whose.length:Nat):Int),((i:Nat):Int),()),(fl0,flN ns,()),[],[],[],P0,out,[],())
    = some (.next (((),(),ints fr,ints which,ints till,ints whose,((whose.length:Nat):Int),((i+1:Nat):Int),()),(fl0,flN ns,()),[],[],[],P0,out++[(((whose[i] / 32:Nat):Int),((whose[i] % 32 / 8:Nat):Int),((whose[i] % 8:Nat):Int),(fr[i]:Int),gN ns 12)],[],())):=by
   have hfd:Int.fdiv ((whose[i]:Nat):Int) 32=((whose[i] / 32:Nat):Int):=by rw[Int.fdiv_eq_ediv_of_nonneg _ (by omega)];rfl
   have h1:IntKind.wrap .i64 (Int.tdiv ((whose[i] % 32:Nat):Int) 8)=((whose[i] % 32 / 8:Nat):Int):=by
    rw[Int.tdiv_eq_ediv_of_nonneg (by omega),w64 (by omega) (by omega)];rfl
   have h2:Int.tmod ((whose[i] % 32:Nat):Int) 8=((whose[i] % 8:Nat):Int):=by
    rw[Int.tmod_eq_emod_of_nonneg (by omega)];omega
   simp only[u32_16,t32_16,ints_len,ltn hiw,ltn hif,ge0,cond_true,Bool.and_self,Int.toNat_natCast,rdIn hiw,rdIn hif,nx hiw (show whose.length≤9223372036854775807 by omega),hfd,and31 _ hxi,h1,h2]
   rw[decide_eq_true (show (out.length+1) * 40≤140737488355328 by omega),decide_eq_true (show out.length+1≤9223372036854775807 by omega)]
   rfl
  rw[it_next hn,loop12b ns P0 whose fr which till hl h4 hx d (i+1) fuel _ (by omega) (by omega) (by rw[List.length_append,ho];rfl),List.drop_eq_getElem_cons hiw,List.drop_eq_getElem_cons hif,zipL,List.append_assoc]
  rfl
theorem loop12c (ns:List Nat)(P0:List HT)(L0:List LT)(which till:List Nat)(hl:till.length=which.length)(h4:which.length≤400)(hx:∀ x∈which,x<2 ^ 20) :
  ∀ (d i fuel:Nat) (out:List HT),i+d=which.length→d<fuel→out.length=i →
   iter fuel u32_22 (((),(),ints till,ints which,((which.length:Nat):Int),((i:Nat):Int),()),(fl0,flN ns,()),[],[],[],P0,L0,out,()) =
    some (.inl (((),(),()),(fl0,flN ns,()),[],[],[],P0,L0,out++zipH (which.drop i) (till.drop i),()))
 | d,i,0,out,_,h,_=>by omega
 | 0,i,fuel+1,out,hi,_,_=>by
  have:i=which.length:=by omega
  subst this
  rw[List.drop_length]
  refine it_out ?_
  simp only[u32_22,t32_22,nlt,cond_false,zipH,List.append_nil]
 | d+1,i,fuel+1,out,hi,hf,ho=>by
  have hiw:i<which.length:=by omega
  have hif:i<till.length:=by omega
  have hn:u32_22 (((),(),ints till,ints which,((which.length:Nat):Int),((i:Nat):Int),()),(fl0,flN ns,()),[],[],[],P0,L0,out,())
    = some (.next (((),(),ints till,ints which,((which.length:Nat):Int),((i+1:Nat):Int),()),(fl0,flN ns,()),[],[],[],P0,L0,out++[(((which[i] / 8:Nat):Int),((which[i] % 8:Nat):Int),(till[i]:Int))],())):=by
   have hxi:=hx which[i] (List.getElem_mem hiw)
   ·have h1:IntKind.wrap .i64 (Int.tdiv ((which[i]:Nat):Int) 8)=((which[i] / 8:Nat):Int):=by
     rw[Int.tdiv_eq_ediv_of_nonneg (by omega),w64 (by omega) (by omega)];rfl
    have h2:Int.tmod ((which[i]:Nat):Int) 8=((which[i] % 8:Nat):Int):=by
     rw[Int.tmod_eq_emod_of_nonneg (by omega)];omega
    simp only[u32_22,t32_22,ints_len,ltn hiw,ltn hif,ge0,cond_true,Bool.and_self,Int.toNat_natCast,rdIn hiw,rdIn hif,nx hiw (show which.length≤9223372036854775807 by omega),h1,h2]
    rw[decide_eq_true (show (out.length+1) * 24≤140737488355328 by omega),decide_eq_true (show out.length+1≤9223372036854775807 by omega)]
    rfl
  rw[it_next hn,loop12c ns P0 L0 which till hl h4 hx d (i+1) fuel _ (by omega) (by omega) (by rw[List.length_append,ho];rfl),List.drop_eq_getElem_cons hiw,List.drop_eq_getElem_cons hif,zipH,List.append_assoc]
  rfl
def outO (o:Option (List Nat)):List Int×Bool×Unit:=match o with
 | some l=>(ints l,true,())
 | none=>([],false,())
theorem f33_out (b:List Nat)(hb:∀ c∈b,c<256)(n w:Nat)(hw1:1≤w)(hw:w≤20):f68 (ints b) (n:Int) (w:Int)=some (outO (unpack4 w n b)):=by
 rw[f68_eq b hb n w hw1 hw]
 unfold unpack4
 by_cases h:n≤400
 ·rw[if_pos h,if_pos h]
  cases unpackL w n b<;>rfl
 ·rw[if_neg h,if_neg h];rfl
theorem f34_out (b:List Nat)(hb:∀ c∈b,c<256)(hl:b.length≤1000000000):f69 (ints b)=some (outO (sums4 b)):=by
 rw[f69_eq b hb hl]
 unfold sums4
 cases (vrd 400 b).bind (sumsL 0)<;>rfl
abbrev zeroS:ST:=(((0,0),(0,0),0,0,0,0),(0,0,0,false),0,[],[],[])
theorem gN_rd {ns:List Nat}(h:15≤ns.length){i:Nat}(hi:i<15):rd (.int .i64) (ints ns) i=gN ns i:=by
 have hlt:i<ns.length:=by omega
 rw[rdIn hlt]
 show _=((ns.getD i 0:Nat):Int)
 rw[List.getD_eq_getElem?_getD,List.getElem?_eq_getElem hlt];rfl
theorem f32_eq (b:List Nat)(hb:∀ c∈b,c<256)(hl:b.length≤1000000000):f32 (ints b)=some (match readS b with
  | some s=>(s,true,())
  | none=>(zeroS,false,())):=by
 obtain⟨X0,X1,is,h30,hX,hXl,hm⟩:=f65_eq b hb hl
 unfold f32
 rw[h30]
 simp only[Option.bind_some]
 rw[f66_eq X0 hX (by omega)]
 have bad:is=false→f32 (ints b)=some (zeroS,false,()):=by
  intro hi
  unfold f32
  rw[h30]
  simp only[Option.bind_some]
  rw[f66_eq X0 hX (by omega),hi]
  cases vrd 400 X0<;>rfl
 have badr:readS b=none→is=false∨(∃ p,split5 b=some (p,[])):=by
  intro h
  cases hs:split5 b with
  | none=>rw[hs] at hm;exact .inl hm
  | some q=>
   obtain⟨p,r⟩:=q
   rw[hs] at hm
   by_cases hr:r=[]
   ·subst hr;exact .inr ⟨p,rfl⟩
   ·simp only[if_neg hr] at hm;exact .inl hm
 cases hs:split5 b with
 | none=>
  rw[hs] at hm
  have hm':is=false:=hm
  have hr:readS b=none:=by unfold readS;rw[hs];rfl
  rw[hr,hm']
  cases vrd 400 X0<;>rfl
 | some q=>
 obtain⟨p,r⟩:=q
 rw[hs] at hm
 by_cases hr:r=[]
 case neg=>
  simp only[if_neg hr] at hm
  have hr':readS b=none:=by unfold readS;rw[hs];simp only[Option.bind_some];rw[if_neg hr]
  rw[hr',hm]
  cases vrd 400 X0<;>rfl
 subst hr
 simp only[if_true] at hm
 obtain⟨rfl,rfl,rfl⟩:=hm
 obtain⟨eb,_,b0,b1,b2,b3,b4⟩:=split5_of hb hs
 have lens:p.2.1.length≤b.length∧p.2.2.1.length≤b.length∧p.2.2.2.1.length≤b.length∧p.2.2.2.2.length≤b.length:=by
  rw[eb]
  unfold enc5 enc1
  simp only[List.length_append]
  omega
 have hrd:readS b=ofParts p:=by unfold readS;rw[hs];rfl
 rw[hrd]
 unfold ofParts
 cases h0:vrd 400 p.1 with
 | none=>rfl
 | some ns=>
 obtain⟨n1,n2,n3⟩:=vrd_of 400 _ ns b0 h0
 simp only[Option.bind_some,Bool.not_true,cond_false,ints_len]
 by_cases g15:15≤ns.length
 case neg=>
  have:goodN ns=false:=by unfold goodN;rw[decide_eq_false g15];rfl
  rw[this,decide_eq_true (show ((ns.length:Nat):Int)<15 by omega)]
  rfl
 rw[decide_eq_false (show ¬ ((ns.length:Nat):Int)<15 by omega),w64 (x:=((ns.length:Nat):Int)-15) (by omega) (by omega),Int.tmod_eq_emod_of_nonneg (by omega)]
 simp only[cond_false]
 by_cases g3:(ns.length-15) % 3=0
 case neg=>
  have:goodN ns=false:=by unfold goodN;rw[decide_eq_false g3,Bool.false_and,Bool.and_false]
  rw[this,decide_eq_false (show ¬ (((ns.length:Nat):Int)-15) % 3=0 by omega)]
  rfl
 rw[decide_eq_true (show (((ns.length:Nat):Int)-15) % 3=0 by omega)]
 have hi:∀ i<15,decide ((i:Int)<((ns.length:Nat):Int))=true:=fun i h=>decide_eq_true (by omega)
 have i0:=hi 0 (by omega);have i1:=hi 1 (by omega);have i2:=hi 2 (by omega);have i3:=hi 3 (by omega);have i4:=hi 4 (by omega);have i5:=hi 5 (by omega);have i6:=hi 6 (by omega)
 have i7:=hi 7 (by omega);have i8:=hi 8 (by omega);have i9:=hi 9 (by omega);have i10:=hi 10 (by omega);have i11:=hi 11 (by omega);have i12:=hi 12 (by omega);have i13:=hi 13 (by omega);have i14:=hi 14 (by omega)
 simp only[Bool.not_true,cond_false,i11,cond_true,gN_rd g15 (show 11<15 by omega)]
 by_cases g11:ns.getD 11 0≤1
 case neg=>
  have:goodN ns=false:=by unfold goodN;rw[decide_eq_false g11,Bool.and_false,Bool.and_false]
  rw[this,decide_eq_true (show (1:Int)<gN ns 11 by show (1:Int)<((ns.getD 11 0:Nat):Int);omega)]
  rfl
 have hgood:goodN ns=true:=by unfold goodN;rw[decide_eq_true g15,decide_eq_true g3,decide_eq_true g11];rfl
 rw[hgood,decide_eq_false (show ¬ (1:Int)<gN ns 11 by show ¬ (1:Int)<((ns.getD 11 0:Nat):Int);omega)]
 simp only[cond_false,cond_true,i0,i1,i2,i3,i4,i5,i6,i7,i8,i9,i10,i12,i13,i14,if_true,gN_rd g15 (show 0<15 by omega),gN_rd g15 (show 1<15 by omega),gN_rd g15 (show 2<15 by omega),gN_rd g15 (show 3<15 by omega),gN_rd g15 (show 4<15 by omega),gN_rd g15 (show 5<15 by omega),gN_rd g15 (show 6<15 by omega),gN_rd g15 (show 7<15 by omega),gN_rd g15 (show 8<15 by omega),gN_rd g15 (show 9<15 by omega),gN_rd g15 (show 10<15 by omega),gN_rd g15 (show 12<15 by omega),gN_rd g15 (show 13<15 by omega),gN_rd g15 (show 14<15 by omega)]
 rw[decide_eq_true (show (15:Int)≤((ns.length:Nat):Int) by omega),dec_le (Nat.le_refl ns.length)]
 simp only[Bool.and_self,cond_true,Int.toNat_natCast]
 have hm15:List.drop 15 (List.take ns.length (ints ns))=ints (ns.drop 15):=by rw[ints_take,ints_drop,List.take_of_length_le (Nat.le_refl _)]
 rw[hm15]
 obtain⟨q,hq⟩:∃ q,ns.length-15=3 * q:=⟨(ns.length-15) / 3,by omega⟩
 have hml:(ns.drop 15).length=3 * q:=by rw[List.length_drop];exact hq
 have l1:=loop12a ns (ns.drop 15) p (by omega) q 0 big [] (by omega) (by unfold big;omega) (by simp;omega)
 have l1':iter big u32_111_1_0 (((),(),(),0,()),(fl0,parts12 p,flN ns,(ints (ns.drop 15),()),(3,()),uu12,()),[],[],[],[],[],[],())=_:=l1
 rw[List.drop_zero,List.nil_append] at l1'
 simp only[fl0,parts12,flN,uu12] at l1'
 rw[l1']
 simp only[Option.bind_some]
 have hcl:=chunk_len q (ns.drop 15) hml
 have gI:∀ i,gN ns i=((ns.getD i 0:Nat):Int):=fun _=>rfl
 have e33a:=f33_out p.2.1 b1 (ns.getD 13 0) 10 (by omega) (by omega)
 have e33b:=f33_out p.2.2.2.1 b3 (ns.getD 14 0) 5 (by omega) (by omega)
 rw[show ((10:Nat):Int)=10 from rfl] at e33a
 rw[show ((5:Nat):Int)=5 from rfl] at e33b
 rw[e33a]
 simp only[Option.bind_some]
 rw[f34_out p.2.2.1 b2 (by omega)]
 simp only[Option.bind_some]
 rw[e33b]
 simp only[Option.bind_some]
 rw[f34_out p.2.2.2.2 b4 (by omega)]
 simp only[Option.bind_some]
 cases ha:unpack4 10 (ns.getD 13 0) p.2.1 with
 | none=>rfl
 | some whose=>
 cases hb2:sums4 p.2.2.1 with
 | none=>rfl
 | some fr=>
 cases hc:unpack4 5 (ns.getD 14 0) p.2.2.2.1 with
 | none=>rfl
 | some which=>
 cases hd:sums4 p.2.2.2.2 with
 | none=>rfl
 | some till=>
 have hw4:whose.length≤400∧∀ x∈whose,x<2 ^ 20:=by
  unfold unpack4 at ha
  split at ha
  case isFalse=>cases ha
  rename_i h4
  obtain⟨_,w2,w3⟩:=pack_unpack b1 ha
  exact⟨by omega,fun x hx=>by have:=w3 x hx;omega⟩
 have hh4:which.length≤400∧∀ x∈which,x<2 ^ 20:=by
  unfold unpack4 at hc
  split at hc
  case isFalse=>cases hc
  rename_i h4
  obtain⟨_,w2,w3⟩:=pack_unpack b3 hc
  exact⟨by omega,fun x hx=>by have:=w3 x hx;omega⟩
 simp only[Option.bind_some,outO,Bool.not_true,cond_false,ints_len]
 by_cases k1:fr.length=whose.length
 case neg=>
  rw[decide_eq_false (show ¬ ((fr.length:Nat):Int)=((whose.length:Nat):Int) by omega),if_neg (fun h=>k1 h.1)]
  rfl
 rw[decide_eq_true (show ((fr.length:Nat):Int)=((whose.length:Nat):Int) by omega)]
 by_cases k2:till.length=which.length
 case neg=>
  rw[decide_eq_false (show ¬ ((till.length:Nat):Int)=((which.length:Nat):Int) by omega),if_neg (fun h=>k2 h.2.1)]
  rfl
 rw[decide_eq_true (show ((till.length:Nat):Int)=((which.length:Nat):Int) by omega)]
 simp only[Bool.not_true,cond_false]
 have l2:=loop12b ns (chunk3 (ns.drop 15)) whose fr which till k1 hw4.1 hw4.2 whose.length 0 big [] (by omega) (by have:=hw4.1;unfold big;omega) rfl
 rw[List.drop_zero,List.drop_zero,List.nil_append,show ((0:Nat):Int)=0 from rfl] at l2
 simp only[fl0,flN] at l2
 rw[l2]
 simp only[Option.bind_some,ints_len]
 have l3:=loop12c ns (chunk3 (ns.drop 15)) (zipL (gN ns 12) whose fr) which till k2 hh4.1 hh4.2 which.length 0 big [] (by omega) (by have:=hh4.1;unfold big;omega) rfl
 rw[List.drop_zero,List.drop_zero,List.nil_append,show ((0:Nat):Int)=0 from rfl] at l3
 simp only[fl0,flN] at l3
 rw[l3]
 simp only[Option.bind_some]
 have hB:Sm (buildS ns whose fr which till):=by
  refine⟨?_,?_,?_⟩
  ·show (chunk3 (ns.drop 15)).length≤1000
   omega
  ·show (zipL (gN ns 12) whose fr).length≤1000
   rw[(zipL_to (gN ns 12) whose fr k1).2.2.1];have:=hw4.1;omega
  ·show (zipH which till).length≤1000
   rw[(zipH_to which till k2).2.2];have:=hh4.1;omega
 have e11:decide (gN ns 11=1)=decide (ns.getD 11 0=1):=by
  rw[decide_eq_decide]
  show ((ns.getD 11 0:Nat):Int)=1↔_
  omega
 have h14:=f48_eq (buildS ns whose fr which till) hB.szP hB.szL hB.szH
 have h14':f48 (gN ns 0) (gN ns 1) (gN ns 2) (gN ns 3) (gN ns 4) (gN ns 5) (gN ns 6) (gN ns 7) (gN ns 8) (gN ns 9) (gN ns 10) (decide (ns.getD 11 0=1)) (gN ns 12) (chunk3 (ns.drop 15)) (zipL (gN ns 12) whose fr) (zipH which till)=some (decide (MayS (buildS ns whose fr which till)),()):=h14
 rw[e11,h14']
 simp only[Option.bind_some]
 by_cases hM:MayS (buildS ns whose fr which till)
 ·rw[decide_eq_true hM,if_pos ⟨k1,k2,hM⟩]
  rfl
 ·rw[decide_eq_false hM,if_neg (fun h=>hM h.2.2)]
  rfl
end Go.Proofs.Zz
