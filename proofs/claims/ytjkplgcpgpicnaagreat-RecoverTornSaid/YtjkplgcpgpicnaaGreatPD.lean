/- P17A, P17y, P17B, P17C, P17D, P17E, P17F, P17G, W17, Row17. -/
import Derived.Test.YtjkplgcpgpicnaaGreatPC
import Derived.Test.YtjkplgcpgpicnaaGreatFI
import Derived.Test.YtjkplgcpgpicnaaGreatPU
import Derived.KernelRfl
import Derived.Test.YtjkplgcpgpicnaaGreatFD
import Derived.Test.YtjkplgcpgpicnaaGreatEQ
import Derived.Test.YtjkplgcpgpicnaaGreatRows
import Derived.ProofKit
import Derived.JoinedOf
namespace Go.Proofs.Zz
open Go Go.Sy
set_option linter.unusedSimpArgs false
set_option linter.unusedVariables false
abbrev Nb (at':Int)(ns:List Nat)(e:ET)(acc:List ET):A6:=
 (((),(),()),(((),(),(),(),(),(),(),()),(at',ints ns,e.1,e.2.1,e.2.2.1,e.2.2.2.1,e.2.2.2.2.1,e.2.2.2.2.2.1,e.2.2.2.2.2.2.1,e.2.2.2.2.2.2.2.1,e.2.2.2.2.2.2.2.2,false,()),()),acc,())
theorem mG (n:Nat)(l:List Nat):List.drop 1 (List.take (ints (n::l)).length (ints (n::l)))=ints l:=by rw[List.take_length];rfl
theorem Tv (n:Nat)(l:List Nat):rd (.int .i64) (ints (n::l)) 0=((n:Nat):Int):=rfl
theorem e9 (n:Nat)(l:List Nat):(ints (n::l)).length=l.length+1:=by rw[aC];rfl
theorem fd (n k:Nat):Int.fdiv (n:Int) (k:Int)=((n / k:Nat):Int):=by rw[Int.fdiv_eq_ediv_of_nonneg _ (by omega)];rfl
theorem Re {n:Nat}(h:n≤1099511627776):aG .and .i64 (n:Int) 7=((n % 8:Nat):Int):=jD (a:=n) (m:=3) (by omega) (by omega)
theorem RV {n:Nat}(h:n≤1099511627776):aG .and .i64 (n:Int) 3=((n % 4:Nat):Int):=jD (a:=n) (m:=2) (by omega) (by omega)
theorem aaU (n:Nat):Int.tmod (n:Int) 16=((n % 16:Nat):Int):=by rw[Int.tmod_eq_emod_of_nonneg (by omega)];omega
theorem aaA (n:Nat):Int.tdiv (n:Int) 16=((n / 16:Nat):Int):=by rw[Int.tdiv_eq_ediv_of_nonneg (by omega)];omega
theorem Rq (n:Nat)(l:List Nat)(at':Int)(e:ET)(acc:List ET)(hn:∀ x∈n::l,x≤1099511627776)(ha:fK at' 0 1073741824)(hacc:acc.length≤100000) :
  q8 (Nb at' (n::l) e acc) =
   if 7≤n % 16 then some (.ret ((false,()),(),[],()))
   else match gb (n % 16) (at'+((n / 16:Nat):Int)) l with
    | none=>some (.ret ((false,()),(),[],()))
    | some (e',l')=>if ef e' then some (.next (Nb e'.2.1 l' e' (acc++[e']))) else some (.ret ((false,()),(),[],())):=by
 have hn0:=hn n (List.mem_cons_self ..)
 unfold fK at ha
 have wN:IntKind.wrap .i64 (at'+IntKind.wrap .i64 ((n / 16:Nat):Int))=at'+((n / 16:Nat):Int):=by rw[bN (x:=((n / 16:Nat):Int)) (by omega) (by omega),bN (by omega) (by omega)]
 have c0:decide ((0:Int)<((l.length+1:Nat):Int))=true:=decide_eq_true (by omega)
 have c1:decide (((l.length+1:Nat):Int)=0)=false:=decide_eq_false (by omega)
 have c2:decide ((1:Int)≤((l.length+1:Nat):Int))=true:=decide_eq_true (by omega)
 have c3:∀ k:Nat,decide (((k:Nat):Int)≤((k:Nat):Int))=true:=fun k=>decide_eq_true (Int.le_refl _)
 have cA:decide ((acc.length+1) * 72≤140737488355328)=true:=decide_eq_true (by omega)
 have cB:decide (acc.length+1≤9223372036854775807)=true:=decide_eq_true (by omega)
 simp only[q8,MP,e9,Int.toNat_natCast,c0,c1,c2,c3,cond_true,cond_false,Bool.and_self,Tv,aaU,aaA,wN]
 have hd:List.drop 1 (List.take (l.length+1) (ints (n::l)))=ints l:=by rw[← e9 n l];exact mG n l
 simp only[hd]
 by_cases h7:7≤n % 16
 ·rw[if_pos h7,decide_eq_true (show (7:Int)≤((n % 16:Nat):Int) by omega)];rfl
 rw[if_neg h7,decide_eq_false (show ¬ (7:Int)≤((n % 16:Nat):Int) by omega)]
 simp only[cond_false]
 generalize hA:at'+((n / 16:Nat):Int)=A
 generalize hK:n % 16=K at h7
 have dK:∀ k:Nat,decide (((K:Nat):Int)=((k:Nat):Int))=decide (K=k):=fun k=>decide_eq_decide.2 (by omega)
 have d0:=dK 0
 have d1:=dK 1
 have d2:=dK 2
 have d3:=dK 3
 have d4:=dK 4
 have d5:=dK 5
 have d6:=dK 6
 have nilc:decide (((0:Nat):Int)=0)=true:=rfl
 rcases (show K=0∨K=1∨K=2∨K=3∨K=4∨K=5∨K=6 by omega) with rfl|rfl|rfl|rfl|rfl|rfl|rfl
 ·cases l with
  | nil=>rfl
  | cons n1 l1=>
   have h1:=hn n1 (by simp)
   have hd1:List.drop 1 (List.take (l1.length+1) (ints (n1::l1)))=ints l1:=by rw[← e9 n1 l1];exact mG n1 l1
   have g0:decide ((0:Int)<((l1.length+1:Nat):Int))=true:=decide_eq_true (by omega)
   have g1:decide (((l1.length+1:Nat):Int)=0)=false:=decide_eq_false (by omega)
   have g2:decide ((1:Int)≤((l1.length+1:Nat):Int))=true:=decide_eq_true (by omega)
   have f32:Int.fdiv (n1:Int) 32=((n1 / 32:Nat):Int):=fd n1 32
   have f8:Int.fdiv (n1:Int) 8=((n1 / 8:Nat):Int):=fd n1 8
   have h8:n1 / 8≤1099511627776:=by omega
   have hE:=mc ((((0:Nat):Int)),A,((n1 / 32:Nat):Int),((n1 / 8 % 4:Nat):Int),((n1 % 8:Nat):Int),0,0,0,false)
   have hT:gb 0 A (n1::l1)=some (((((0:Nat):Int)),A,((n1 / 32:Nat):Int),((n1 / 8 % 4:Nat):Int),((n1 % 8:Nat):Int),0,0,0,false),l1):=rfl
   simp only[hT,e9,show decide (((0:Nat):Int)=0)=true from rfl,Int.toNat_natCast,g0,g1,g2,c3,cond_true,cond_false,Bool.and_self,Tv,hd1,cA,cB,f32,f8,RV h8,Re h1]
   refine (congrArg (fun o=>Option.bind o _) hE).trans ?_
   by_cases hm:ef ((((0:Nat):Int)),A,((n1 / 32:Nat):Int),((n1 / 8 % 4:Nat):Int),((n1 % 8:Nat):Int),0,0,0,false)
   ·rw[decide_eq_true hm,if_pos hm];rfl
   ·rw[decide_eq_false hm,if_neg hm];rfl
 ·cases l with
  | nil=>rfl
  | cons n1 l1=>
   have h1:=hn n1 (by simp)
   have hd1:List.drop 1 (List.take (l1.length+1) (ints (n1::l1)))=ints l1:=by rw[← e9 n1 l1];exact mG n1 l1
   have g0:decide ((0:Int)<((l1.length+1:Nat):Int))=true:=decide_eq_true (by omega)
   have g1:decide (((l1.length+1:Nat):Int)=0)=false:=decide_eq_false (by omega)
   have g2:decide ((1:Int)≤((l1.length+1:Nat):Int))=true:=decide_eq_true (by omega)
   have f32:Int.fdiv (n1:Int) 32=((n1 / 32:Nat):Int):=fd n1 32
   have f8:Int.fdiv (n1:Int) 8=((n1 / 8:Nat):Int):=fd n1 8
   have h8:n1 / 8≤1099511627776:=by omega
   have hE:=mc ((((1:Nat):Int)),A,((n1 / 32:Nat):Int),((n1 / 8 % 4:Nat):Int),((n1 % 8:Nat):Int),0,0,0,false)
   have hT:gb 1 A (n1::l1)=some (((((1:Nat):Int)),A,((n1 / 32:Nat):Int),((n1 / 8 % 4:Nat):Int),((n1 % 8:Nat):Int),0,0,0,false),l1):=rfl
   simp only[hT,e9,show decide (((1:Nat):Int)=0)=false from rfl,show decide (((1:Nat):Int)=1)=true from rfl,Int.toNat_natCast,g0,g1,g2,c3,cond_true,cond_false,Bool.and_self,Tv,hd1,cA,cB,f32,f8,RV h8,Re h1]
   refine (congrArg (fun o=>Option.bind o _) hE).trans ?_
   by_cases hm:ef ((((1:Nat):Int)),A,((n1 / 32:Nat):Int),((n1 / 8 % 4:Nat):Int),((n1 % 8:Nat):Int),0,0,0,false)
   ·rw[decide_eq_true hm,if_pos hm];rfl
   ·rw[decide_eq_false hm,if_neg hm];rfl
 ·cases l with
  | nil=>rfl
  | cons n1 l1=>
   have h1:=hn n1 (by simp)
   have hd1:List.drop 1 (List.take (l1.length+1) (ints (n1::l1)))=ints l1:=by rw[← e9 n1 l1];exact mG n1 l1
   have g0:decide ((0:Int)<((l1.length+1:Nat):Int))=true:=decide_eq_true (by omega)
   have g1:decide (((l1.length+1:Nat):Int)=0)=false:=decide_eq_false (by omega)
   have g2:decide ((1:Int)≤((l1.length+1:Nat):Int))=true:=decide_eq_true (by omega)
   have f32:Int.fdiv (n1:Int) 32=((n1 / 32:Nat):Int):=fd n1 32
   have f8:Int.fdiv (n1:Int) 8=((n1 / 8:Nat):Int):=fd n1 8
   have h8:n1 / 8≤1099511627776:=by omega
   have hE:=mc ((((2:Nat):Int)),A,((n1 / 8:Nat):Int),((n1 % 8:Nat):Int),0,0,0,0,false)
   have hT:gb 2 A (n1::l1)=some (((((2:Nat):Int)),A,((n1 / 8:Nat):Int),((n1 % 8:Nat):Int),0,0,0,0,false),l1):=rfl
   simp only[hT,e9,show decide (((2:Nat):Int)=0)=false from rfl,show decide (((2:Nat):Int)=1)=false from rfl,show decide (((2:Nat):Int)=2)=true from rfl,Int.toNat_natCast,g0,g1,g2,c3,cond_true,cond_false,Bool.and_self,Tv,hd1,cA,cB,f8,Re h1]
   refine (congrArg (fun o=>Option.bind o _) hE).trans ?_
   by_cases hm:ef ((((2:Nat):Int)),A,((n1 / 8:Nat):Int),((n1 % 8:Nat):Int),0,0,0,0,false)
   ·rw[decide_eq_true hm,if_pos hm];rfl
   ·rw[decide_eq_false hm,if_neg hm];rfl
 ·cases l with
  | nil=>rfl
  | cons n1 l1=>
   have h1:=hn n1 (by simp)
   have hd1:List.drop 1 (List.take (l1.length+1) (ints (n1::l1)))=ints l1:=by rw[← e9 n1 l1];exact mG n1 l1
   have g0:decide ((0:Int)<((l1.length+1:Nat):Int))=true:=decide_eq_true (by omega)
   have g1:decide (((l1.length+1:Nat):Int)=0)=false:=decide_eq_false (by omega)
   have g2:decide ((1:Int)≤((l1.length+1:Nat):Int))=true:=decide_eq_true (by omega)
   have hE:=mc ((((3:Nat):Int)),A,(n1:Int),0,0,0,0,0,false)
   have hT:gb 3 A (n1::l1)=some (((((3:Nat):Int)),A,(n1:Int),0,0,0,0,0,false),l1):=rfl
   simp only[hT,e9,show decide (((3:Nat):Int)=0)=false from rfl,show decide (((3:Nat):Int)=1)=false from rfl,show decide (((3:Nat):Int)=2)=false from rfl,show decide (((3:Nat):Int)=3)=true from rfl,Int.toNat_natCast,g0,g1,g2,c3,cond_true,cond_false,Bool.and_self,Tv,hd1,cA,cB]
   refine (congrArg (fun o=>Option.bind o _) hE).trans ?_
   by_cases hm:ef ((((3:Nat):Int)),A,(n1:Int),0,0,0,0,0,false)
   ·rw[decide_eq_true hm,if_pos hm];rfl
   ·rw[decide_eq_false hm,if_neg hm];rfl
 ·cases l with
  | nil=>rfl
  | cons n1 l1=>
   have h1:=hn n1 (by simp)
   have hd1:List.drop 1 (List.take (l1.length+1) (ints (n1::l1)))=ints l1:=by rw[← e9 n1 l1];exact mG n1 l1
   have g0:decide ((0:Int)<((l1.length+1:Nat):Int))=true:=decide_eq_true (by omega)
   have g1:decide (((l1.length+1:Nat):Int)=0)=false:=decide_eq_false (by omega)
   have g2:decide ((1:Int)≤((l1.length+1:Nat):Int))=true:=decide_eq_true (by omega)
   have f32:Int.fdiv (n1:Int) 32=((n1 / 32:Nat):Int):=fd n1 32
   have f8:Int.fdiv (n1:Int) 8=((n1 / 8:Nat):Int):=fd n1 8
   have h8:n1 / 8≤1099511627776:=by omega
   have hE:=mc ((((4:Nat):Int)),A,((n1 / 8:Nat):Int),((n1 % 8:Nat):Int),0,0,0,0,false)
   have hT:gb 4 A (n1::l1)=some (((((4:Nat):Int)),A,((n1 / 8:Nat):Int),((n1 % 8:Nat):Int),0,0,0,0,false),l1):=rfl
   simp only[hT,e9,show decide (((4:Nat):Int)=0)=false from rfl,show decide (((4:Nat):Int)=1)=false from rfl,show decide (((4:Nat):Int)=2)=false from rfl,show decide (((4:Nat):Int)=3)=false from rfl,show decide (((4:Nat):Int)=4)=true from rfl,Int.toNat_natCast,g0,g1,g2,c3,cond_true,cond_false,Bool.and_self,Tv,hd1,cA,cB,f8,Re h1]
   refine (congrArg (fun o=>Option.bind o _) hE).trans ?_
   by_cases hm:ef ((((4:Nat):Int)),A,((n1 / 8:Nat):Int),((n1 % 8:Nat):Int),0,0,0,0,false)
   ·rw[decide_eq_true hm,if_pos hm];rfl
   ·rw[decide_eq_false hm,if_neg hm];rfl
 ·cases l with
  | nil=>rfl
  | cons n1 l1=>
   have h1:=hn n1 (by simp)
   have hd1:List.drop 1 (List.take (l1.length+1) (ints (n1::l1)))=ints l1:=by rw[← e9 n1 l1];exact mG n1 l1
   have g0:decide ((0:Int)<((l1.length+1:Nat):Int))=true:=decide_eq_true (by omega)
   have g1:decide (((l1.length+1:Nat):Int)=0)=false:=decide_eq_false (by omega)
   have g2:decide ((1:Int)≤((l1.length+1:Nat):Int))=true:=decide_eq_true (by omega)
   have hE:=mc ((((5:Nat):Int)),A,(n1:Int),0,0,0,0,0,false)
   have hT:gb 5 A (n1::l1)=some (((((5:Nat):Int)),A,(n1:Int),0,0,0,0,0,false),l1):=rfl
   simp only[hT,e9,show decide (((5:Nat):Int)=0)=false from rfl,show decide (((5:Nat):Int)=1)=false from rfl,show decide (((5:Nat):Int)=2)=false from rfl,show decide (((5:Nat):Int)=3)=false from rfl,show decide (((5:Nat):Int)=4)=false from rfl,show decide (((5:Nat):Int)=5)=true from rfl,Int.toNat_natCast,g0,g1,g2,c3,cond_true,cond_false,Bool.and_self,Tv,hd1,cA,cB]
   refine (congrArg (fun o=>Option.bind o _) hE).trans ?_
   by_cases hm:ef ((((5:Nat):Int)),A,(n1:Int),0,0,0,0,0,false)
   ·rw[decide_eq_true hm,if_pos hm];rfl
   ·rw[decide_eq_false hm,if_neg hm];rfl
 ·rcases l with _|⟨n1,_|⟨n2,_|⟨n3,_|⟨n4,l4⟩⟩⟩⟩
  ·rfl
  ·rfl
  ·rfl
  ·rfl
  ·have h4:=hn n4 (by simp)
   have hd1:List.drop 1 (List.take ((n2::n3::n4::l4).length+1) (ints (n1::(n2::n3::n4::l4))))=ints (n2::n3::n4::l4):=by rw[← e9 n1 (n2::n3::n4::l4)];exact mG n1 (n2::n3::n4::l4)
   have g1a:decide ((0:Int)<(((n2::n3::n4::l4).length+1:Nat):Int))=true:=decide_eq_true (by omega)
   have g1b:decide ((((n2::n3::n4::l4).length+1:Nat):Int)=0)=false:=decide_eq_false (by omega)
   have g1c:decide ((1:Int)≤(((n2::n3::n4::l4).length+1:Nat):Int))=true:=decide_eq_true (by omega)
   have hd2:List.drop 1 (List.take ((n3::n4::l4).length+1) (ints (n2::(n3::n4::l4))))=ints (n3::n4::l4):=by rw[← e9 n2 (n3::n4::l4)];exact mG n2 (n3::n4::l4)
   have g2a:decide ((0:Int)<(((n3::n4::l4).length+1:Nat):Int))=true:=decide_eq_true (by omega)
   have g2b:decide ((((n3::n4::l4).length+1:Nat):Int)=0)=false:=decide_eq_false (by omega)
   have g2c:decide ((1:Int)≤(((n3::n4::l4).length+1:Nat):Int))=true:=decide_eq_true (by omega)
   have hd3:List.drop 1 (List.take ((n4::l4).length+1) (ints (n3::(n4::l4))))=ints (n4::l4):=by rw[← e9 n3 (n4::l4)];exact mG n3 (n4::l4)
   have g3a:decide ((0:Int)<(((n4::l4).length+1:Nat):Int))=true:=decide_eq_true (by omega)
   have g3b:decide ((((n4::l4).length+1:Nat):Int)=0)=false:=decide_eq_false (by omega)
   have g3c:decide ((1:Int)≤(((n4::l4).length+1:Nat):Int))=true:=decide_eq_true (by omega)
   have hd4:List.drop 1 (List.take (l4.length+1) (ints (n4::l4)))=ints l4:=by rw[← e9 n4 l4];exact mG n4 l4
   have g4a:decide ((0:Int)<((l4.length+1:Nat):Int))=true:=decide_eq_true (by omega)
   have g4b:decide (((l4.length+1:Nat):Int)=0)=false:=decide_eq_false (by omega)
   have g4c:decide ((1:Int)≤((l4.length+1:Nat):Int))=true:=decide_eq_true (by omega)
   have hP:decide (((n4:Nat):Int)=1)=decide (n4=1):=decide_eq_decide.2 (by omega)
   have hE:=mc ((((6:Nat):Int)),A,0,0,0,(n1:Int),(n2:Int),(n3:Int),decide (n4=1))
   have hT:gb 6 A (n1::n2::n3::n4::l4)=if n4≤1 then some (((((6:Nat):Int)),A,0,0,0,(n1:Int),(n2:Int),(n3:Int),decide (n4=1)),l4) else none:=rfl
   simp only[hT,e9,show decide (((6:Nat):Int)=0)=false from rfl,show decide (((6:Nat):Int)=1)=false from rfl,show decide (((6:Nat):Int)=2)=false from rfl,show decide (((6:Nat):Int)=3)=false from rfl,show decide (((6:Nat):Int)=4)=false from rfl,show decide (((6:Nat):Int)=5)=false from rfl,show decide (((6:Nat):Int)=6)=true from rfl,Int.toNat_natCast,c3,cond_true,cond_false,Bool.and_self,Tv,hd1,hd2,hd3,hd4,g1a,g1b,g1c,g2a,g2b,g2c,g3a,g3b,g3c,g4a,g4b,g4c,cA,cB,hP]
   by_cases hp:n4≤1
   ·rw[if_pos hp,decide_eq_false (show ¬ (1:Int)<((n4:Nat):Int) by omega)]
    simp only[cond_false]
    refine (congrArg (fun o=>Option.bind o _) hE).trans ?_
    by_cases hm:ef ((((6:Nat):Int)),A,0,0,0,(n1:Int),(n2:Int),(n3:Int),decide (n4=1))
    ·rw[decide_eq_true hm,if_pos hm];rfl
    ·rw[decide_eq_false hm,if_neg hm];rfl
   ·rw[if_neg hp,decide_eq_true (show (1:Int)<((n4:Nat):Int) by omega)];rfl
theorem PZ:∀ (f:Nat) (ns:List Nat) (at':Int) (e:ET) (acc:List ET),ns.length≤f→(∀ x∈ns,x≤1099511627776)→fK at' 0 1073741824→acc.length+ns.length≤1000 →
  iter (f+1) q8 (Nb at' ns e acc)=some (match Gq f at' ns with
   | some l=>.inl ((),(),acc++l,())
   | none=>.inr ((false,()),(),[],())):=by
 intro f
 induction f with
 | zero=>
  intro ns at' e acc hl hn ha hacc
  have:ns=[]:=List.eq_nil_of_length_eq_zero (by omega)
  subst this
  rw[bJ (y:=((),(),acc,()))]
  ·simp[Gq]
  ·rfl
 | succ f ih=>
  intro ns at' e acc hl hn ha hacc
  cases ns with
  | nil=>
   rw[bJ (y:=((),(),acc,()))]
   ·simp[Gq]
   ·rfl
  | cons n l=>
   rw[List.length_cons] at hl hacc
   have step:=Rq n l at' e acc hn ha (by omega)
   unfold Gq
   by_cases h7:7≤n % 16
   ·rw[if_pos h7] at step ⊢
    rw[eP step]
   rw[if_neg h7] at step ⊢
   cases ht:gb (n % 16) (at'+((n / 16:Nat):Int)) l with
   | none=>rw[ht] at step;rw[eP step]
   | some q=>
    obtain⟨e',l'⟩:=q
    rw[ht] at step
    simp only at step ⊢
    by_cases hm:ef e'
    ·rw[if_pos hm] at step ⊢
     obtain⟨s1,s2,s3⟩:=wV ht
     obtain⟨p,hp⟩:=II ht
     rw[br step,ih l' e'.2.1 e' (acc++[e']) (by omega) (fun x hx=>hn x (by rw[hp];exact List.mem_cons_of_mem _ (List.mem_append_right _ hx))) hm.1 (by rw[List.length_append,List.length_singleton];omega)]
     cases Gq f e'.2.1 l' with
     | none=>rfl
     | some r=>simp only[Option.map_some,List.append_assoc];rfl
    ·rw[if_neg hm] at step ⊢
     rw[eP step]
theorem QY (at':Int)(b:List Nat)(hb:∀ c∈b,c<256)(hl:b.length≤1000000000):f111 at' (ints b)=some (match nu at' b with
  | some l=>(l,true,())
  | none=>([],false,())):=by
 unfold f111 nu
 rw[zD b hb hl,HF]
 cases hv:tf 400 b with
 | none=>
  by_cases hr:fK at' 0 1073741824
  ·rw[if_pos hr];rfl
  ·rw[if_neg hr];rfl
 | some ns=>
  obtain⟨h1,h2,_⟩:=nZ 400 b ns hb hv
  simp only[Option.bind_some,Bool.not_true,cond_false]
  by_cases hr:fK at' 0 1073741824
  ·rw[if_pos hr,decide_eq_true hr]
   have k:=en (show ns.length+1≤aA by unfold aA;omega) (PZ ns.length ns at' (0,0,0,0,0,0,0,0,false) [] (Nat.le_refl _) h2 hr (by simp;omega))
   simp only[Bool.not_true,cond_false]
   have k:iter aA q8 (((),(),()),(((),(),(),(),(),(),(),()),(at',ints ns,0,0,0,0,0,0,0,0,false,false,()),()),[],())=_:=k
   rw[k]
   cases Gq ns.length at' ns with
   | none=>rfl
   | some l=>rfl
  ·rw[if_neg hr,decide_eq_false hr];rfl
theorem cr {α:Type}{c:Bool}{a b:α}(h:c=true):cond c a b=a:=by rw[h];rfl
theorem cu {α:Type}{c:Bool}{a b:α}(h:c=false):cond c a b=b:=by rw[h];rfl
theorem KM {α:Type}(r A B C:List α):List.take r.length (List.take r.length (r++A)++B++C)=r:=by
 rw[List.take_left' rfl,List.append_assoc,List.take_left' rfl]
def Qr (d:List Int):Prop:=∃ b:List Nat,d=ints b∧∀ c∈b,c<256
def BM (F:List FD):Prop:=∀ f∈F,Qr f.2.1
def WH (F:List FD):Prop:=(∀ f∈F,f.2.1.length≤3000)∧F.length≤14
theorem WH.sz {F:List FD}(h:WH F):FM F:=⟨by have:=h.2;omega,fun f hf=>by have:=h.1 f hf;omega⟩
theorem SD (c:Int)(F:List FD)(hl:F.length≤9223372036854775807):∃ q:Bool,f8 c F=some (q,())∧(q=true→WH F):=by
 have key:∀ (r:List FD) (j:Nat),F.drop j=r→(∀ f∈F.take j,f.2.1.length≤3000) →
   iter (r.length+1) EV (((),((j:Nat):Int),()),((c,F,()),()),())=some (if ∀ f∈F,f.2.1.length≤3000 then .inl (((),()),((c,F,()),()),()) else .inr ((false,()),(),())):=by
  intro r
  induction r with
  | nil=>
   intro j hj hp
   have hjl:F.length≤j:=List.drop_eq_nil_iff.1 hj
   rw[List.take_of_length_le hjl] at hp
   rw[if_pos hp]
   refine bJ ?_
   simp only[EV,Uf]
   rw[decide_eq_false (by omega)];rfl
  | cons f r ih=>
   intro j hj hp
   have hjl:j<F.length:=by
    rcases Nat.lt_or_ge j F.length with h|h
    ·exact h
    ·rw[List.drop_eq_nil_of_le h] at hj;cases hj
   have hc:=List.getElem_cons_drop hjl
   rw[hj] at hc
   obtain⟨hf,hr⟩:=List.cons.inj hc
   have step:EV (((),((j:Nat):Int),()),((c,F,()),()),())=some (cond (decide (f.2.1.length≤3000)) (.next (((),((j+1:Nat):Int),()),((c,F,()),()),())) (.ret ((false,()),(),()))):=by
    simp only[EV,Uf,eO hjl,fe,Bool.and_self,cond_true,Int.toNat_natCast,j3 hjl,hf,nx hjl (show F.length≤9223372036854775807 by omega)]
    by_cases hq:f.2.1.length≤3000
    ·rw[decide_eq_true hq,decide_eq_false (by omega)];rfl
    ·rw[decide_eq_false hq,decide_eq_true (by omega)];rfl
   rw[List.length_cons]
   by_cases hq:f.2.1.length≤3000
   ·rw[decide_eq_true hq] at step
    rw[br step]
    refine ih (j+1) hr fun g hg=>?_
    rw[List.take_succ_eq_append_getElem hjl] at hg
    rcases List.mem_append.1 hg with hg|hg
    ·exact hp g hg
    ·rw[List.mem_singleton.1 hg,hf];exact hq
   ·rw[decide_eq_false hq] at step
    rw[eP step,if_neg (fun h=>hq (by rw[← hf];exact h _ (List.getElem_mem hjl)))]
 have k:=en (show F.length+1≤aA by unfold aA;omega) (key F 0 rfl (by simp))
 have k:iter aA EV (((),0,()),((c,F,()),()),())=_:=k
 unfold f8
 rw[k]
 by_cases h:∀ f∈F,f.2.1.length≤3000
 ·rw[if_pos h]
  refine⟨decide (((F.length:Nat):Int)≤14),rfl,fun hq=>⟨h,?_⟩⟩
  have:=of_decide_eq_true hq;omega
 ·rw[if_neg h]
  exact⟨false,rfl,fun h=>by cases h⟩
abbrev MF:Type:=Int×Int×Int×Int×Int×Int×Int×Int×Int×Int×Int×Bool×Int×List HT×List LT×List HT×Int×Int×Unit
abbrev ZS (q:MF):ST:=(((q.1,q.2.1),(q.2.2.1,q.2.2.2.1),q.2.2.2.2.1,q.2.2.2.2.2.1,q.2.2.2.2.2.2.1,q.2.2.2.2.2.2.2.1),(q.2.2.2.2.2.2.2.2.1,q.2.2.2.2.2.2.2.2.2.1,q.2.2.2.2.2.2.2.2.2.2.1,q.2.2.2.2.2.2.2.2.2.2.2.1),q.2.2.2.2.2.2.2.2.2.2.2.2.1,q.2.2.2.2.2.2.2.2.2.2.2.2.2.1,q.2.2.2.2.2.2.2.2.2.2.2.2.2.2.1,q.2.2.2.2.2.2.2.2.2.2.2.2.2.2.2.1)
structure UX (q:MF)(m:ST×Nat):Prop where
 s:ZS q=m.1
 a:q.2.2.2.2.2.2.2.2.2.2.2.2.2.2.2.2.1=m.1.2.2.1
 e:q.2.2.2.2.2.2.2.2.2.2.2.2.2.2.2.2.2.1=(m.2:Int)
structure X3 (b:List Nat)(z:di)(m:ST×Nat)(l:List ET):Prop where
 b:z.2.1.2.2.2.2.1.1=ints b
 r:UX z.2.1.2.2.1 m
 s:UX z.2.1.2.2.2.2.2.2.2.1 m
 o:z.2.2.2.2.2.1=l
theorem Qy {s t:ST}{l:List ET}(h:dh s l=(t,0)):t.2.2.1=(l.getLast?).elim s.2.2.1 (·.2.1):=by
 have hg:pG s l=(t,0):=by rw[← vH s l (by rw[h]),h]
 clear h
 induction l generalizing s with
 | nil=>simp only[pG,Prod.mk.injEq] at hg;rw[← hg.1];rfl
 | cons e r ih=>
  rw[pG] at hg
  by_cases he:(bG s e).2=0
  ·rw[if_pos he] at hg
   have k:=ih hg
   have hm:=qO he
   have hn:(bG s e).1.2.2.1=e.2.1:=(Gi hm.2.2.2.2).2
   rw[k,hn]
   cases r with
   | nil=>rfl
   | cons x r=>simp[List.getLast?_cons_cons,List.getLast?_cons]
  ·rw[if_neg he] at hg
   simp only[Prod.mk.injEq] at hg
   exact absurd hg.2 he
theorem Br {s t:ST}{l:List ET}(h:dh s l=(t,0))(hM:bR s):bR t:=by
 have hg:pG s l=(t,0):=by rw[← vH s l (by rw[h]),h]
 clear h
 induction l generalizing s with
 | nil=>simp only[pG,Prod.mk.injEq] at hg;rw[← hg.1];exact hM
 | cons e r ih=>
  rw[pG] at hg
  by_cases he:(bG s e).2=0
  ·rw[if_pos he] at hg
   exact ih (qO he).2.2.2.1 hg
  ·rw[if_neg he] at hg
   simp only[Prod.mk.injEq] at hg
   exact absurd hg.2 he
def ZV (y:iK)(m:ST×Nat)(l:List ET):Prop:=UX y.2.1.2.2.1 m∧y.2.2.2.2.2.1=l
theorem Wo (z:di)(b:List Nat)(hb:∀ c∈b,c<256)(hl:b.length≤1000000)(m:ST×Nat)(l:List ET)(hP:X3 b z m l)(hM:bR m.1)(hk:m.2≤b.length)(hll:l.length≤400 * m.2) :
  (dD bU b m=none→∃ y,cE z=some (.ret y)∧ZV y m l) ∧
  (∀ m' l',dD bU b m=some (m',l')→∃ z',cE z=some (.next z')∧X3 b z' m' (l++l')):=by
 have e40:f40 z.2.1.2.2.2.2.1.1 z.2.1.2.2.2.2.2.2.2.1.2.2.2.2.2.2.2.2.2.2.2.2.2.2.2.2.2.1=some (rG m.2 (iq bU (b.drop m.2))):=by rw[hP.b,hP.s.e];exact My b hb hl m.2 hk
 have e17:∀ l':List ET,l'.length≤9223372036854775807→f17 z.2.1.2.2.2.2.2.2.2.1.1 z.2.1.2.2.2.2.2.2.2.1.2.1 z.2.1.2.2.2.2.2.2.2.1.2.2.1 z.2.1.2.2.2.2.2.2.2.1.2.2.2.1 z.2.1.2.2.2.2.2.2.2.1.2.2.2.2.1 z.2.1.2.2.2.2.2.2.2.1.2.2.2.2.2.1 z.2.1.2.2.2.2.2.2.2.1.2.2.2.2.2.2.1 z.2.1.2.2.2.2.2.2.2.1.2.2.2.2.2.2.2.1 z.2.1.2.2.2.2.2.2.2.1.2.2.2.2.2.2.2.2.1 z.2.1.2.2.2.2.2.2.2.1.2.2.2.2.2.2.2.2.2.1 z.2.1.2.2.2.2.2.2.2.1.2.2.2.2.2.2.2.2.2.2.1 z.2.1.2.2.2.2.2.2.2.1.2.2.2.2.2.2.2.2.2.2.2.1 z.2.1.2.2.2.2.2.2.2.1.2.2.2.2.2.2.2.2.2.2.2.2.1 z.2.1.2.2.2.2.2.2.2.1.2.2.2.2.2.2.2.2.2.2.2.2.2.1 z.2.1.2.2.2.2.2.2.2.1.2.2.2.2.2.2.2.2.2.2.2.2.2.2.1 z.2.1.2.2.2.2.2.2.2.1.2.2.2.2.2.2.2.2.2.2.2.2.2.2.2.1 l'=some ((dh m.1 l').1,(dh m.1 l').2,()):=fun l' h'=>
  (EA (ZS z.2.1.2.2.2.2.2.2.2.1) l' (by rw[hP.s.s];exact hM.ZO) h').trans (by rw[hP.s.s])
 unfold cE sy
 rw[e40]
 simp only[Option.bind_some]
 have hd:∀ c∈b.drop m.2,c<256:=fun c hc=>hb c (List.mem_of_mem_drop hc)
 have hQ:∀ y:iK,y.2.1.2.2.1=z.2.1.2.2.1→y.2.2.2.2.2.1=z.2.2.2.2.2.1→ZV y m l:=fun y h1 h2=>⟨by rw[h1];exact hP.r,by rw[h2];exact hP.o⟩
 cases hg:iq bU (b.drop m.2) with
 | error e=>
  have hs:dD bU b m=none:=by unfold dD;rw[hg]
  refine⟨fun _=>?_,fun m' l' h=>by rw[hs] at h;cases h⟩
  have he:e≠0:=by
   rcases j0 bU (b.drop m.2) with⟨e',he,h⟩|⟨c,r,n',k',_,ho,hv,h1,h2,h3,h4⟩
   ·rw[he] at hg;cases hg;exact h
   ·rw[h4] at hg;cases hg
  have c9:(!(decide ((rG m.2 (Except.error e)).2.2.1=0)))=true:=by
   show (!(decide (((e:Nat):Int)=0)))=true
   rw[decide_eq_false (show ¬ ((e:Nat):Int)=0 by omega)];rfl
  refine⟨_,cr c9,?_⟩
  exact hQ _ rfl rfl
 | ok x=>
  obtain⟨kd,body,n⟩:=x
  obtain⟨g1,g2,g3,g4⟩:=Ae hd hg
  rw[List.length_drop] at g3
  have c0:(!(decide ((rG m.2 (Except.ok (kd,body,n))).2.2.1=0)))=false:=rfl
  by_cases hkd:kd=2
  case neg=>
   have hs:dD bU b m=none:=by unfold dD;rw[hg];simp only[if_neg hkd]
   refine⟨fun _=>?_,fun m' l' h=>by rw[hs] at h;cases h⟩
   have c9:(!(decide ((rG m.2 (Except.ok (kd,body,n))).1.1=2)))=true:=by
    show (!(decide (((kd:Nat):Int)=2)))=true
    rw[decide_eq_false (show ¬ ((kd:Nat):Int)=2 by omega)];rfl
   rw[cu c0]
   refine⟨_,cr c9,?_⟩
   exact hQ _ rfl rfl
  case pos=>
   subst hkd
   have c1:(!(decide ((rG m.2 (Except.ok (2,body,n))).1.1=2)))=false:=rfl
   have e111:f111 z.2.1.2.2.2.2.2.2.2.1.2.2.2.2.2.2.2.2.2.2.2.2.2.2.2.2.1 (ints body)=some (match nu m.1.2.2.1 body with
     | some l=>(l,true,())
     | none=>([],false,())):=by rw[hP.s.a];exact QY _ body g1 (by omega)
   have e111':f111 z.2.1.2.2.2.2.2.2.2.1.2.2.2.2.2.2.2.2.2.2.2.2.2.2.2.2.1 (rG m.2 (Except.ok (2,body,n))).1.2=_:=e111
   cases hr:nu m.1.2.2.1 body with
   | none=>
    have hs:dD bU b m=none:=by unfold dD;rw[hg];simp only[if_true,hr]
    refine⟨fun _=>?_,fun m' l' h=>by rw[hs] at h;cases h⟩
    rw[hr] at e111'
    rw[cu c0,cu c1,e111']
    simp only[Option.bind_some]
    rw[e17 [] (by simp)]
    simp only[Option.bind_some,Bool.not_false,cond_true]
    refine⟨_,rfl,?_⟩
    exact hQ _ rfl rfl
   | some l2=>
    rw[hr] at e111'
    obtain⟨r1,r2,r3⟩:=vO g1 hr
    by_cases ha:(dh m.1 l2).2=0
    case neg=>
     have hs:dD bU b m=none:=by unfold dD;rw[hg];simp only[if_true,hr,if_neg ha]
     refine⟨fun _=>?_,fun m' l' h=>by rw[hs] at h;cases h⟩
     have c9:(!(decide ((dh m.1 l2).2=0)))=true:=by rw[decide_eq_false ha];rfl
     rw[cu c0,cu c1,e111']
     simp only[Option.bind_some]
     rw[e17 l2 (by omega)]
     simp only[Option.bind_some,Bool.not_true,cond_false]
     rw[cr c9]
     refine⟨_,rfl,?_⟩
     exact hQ _ rfl rfl
    case pos=>
     have hs:dD bU b m=some (((dh m.1 l2).1,m.2+n),l2):=by unfold dD;rw[hg];simp only[if_true,hr,if_pos ha]
     refine⟨fun h=>by rw[hs] at h;(cases h),fun m' l' h=>?_⟩
     rw[hs] at h
     simp only[Option.some.injEq,Prod.mk.injEq] at h
     obtain⟨rfl,rfl⟩:=h
     have hat:=Qy (s:=m.1) (t:=(dh m.1 l2).1) (l:=l2) (by rw[← ha])
     have ho:(z.2.2.2.2.2.1).length≤400 * m.2:=by rw[hP.o];exact hll
     have cX:((decide (((z.2.2.2.2.2.1).length+l2.length) * 72≤140737488355328))&&(decide (((z.2.2.2.2.2.1).length+l2.length)≤9223372036854775807)))=true:=by
      rw[decide_eq_true (by omega),decide_eq_true (by omega)];rfl
     rcases yc l2 with rfl|⟨K,e,rfl⟩
     ·have c9:(!(decide ((dh m.1 []).2=0)))=false:=by rw[decide_eq_true ha];rfl
      have c8:decide (0<((([]:List ET).length:Nat):Int))=false:=rfl
      rw[cu c0,cu c1,e111']
      simp only[Option.bind_some]
      rw[e17 [] (by simp)]
      simp only[Option.bind_some,Bool.not_true,cond_false]
      rw[cu c9,cu c8,cr cX]
      refine⟨_,rfl,?_⟩
      refine⟨hP.b,⟨rfl,?_,rfl⟩,⟨rfl,?_,rfl⟩,?_⟩
      ·rw[hat];exact hP.s.a
      ·rw[hat];exact hP.s.a
      ·show z.2.2.2.2.2.1++[]=l++[];rw[hP.o]
     ·have hlt:K.length<(K++[e]).length:=by simp
      have ew:IntKind.wrap .i64 ((((K++[e]).length:Nat):Int)-1)=(K.length:Int):=by rw[List.length_append,List.length_singleton] at *;rw[bN (by omega) (by omega)];omega
      have hge:(K++[e])[K.length]'hlt=e:=by rw[List.getElem_append_right (Nat.le_refl _)];simp
      have c5:decide (0<(((K++[e]).length:Nat):Int))=true:=decide_eq_true (by omega)
      have c6:((decide (0≤(IntKind.wrap .i64 ((((K++[e]).length:Nat):Int)-1))))&&(decide ((IntKind.wrap .i64 ((((K++[e]).length:Nat):Int)-1))<(((K++[e]).length:Nat):Int))))=true:=by
       rw[ew,fe,eO hlt];rfl
      have hat2:(rd (.pair (.int .i64) (.pair (.int .i64) (.pair (.int .i64) (.pair (.int .i64) (.pair (.int .i64) (.pair (.int .i64) (.pair (.int .i64) (.pair (.int .i64) .bool)))))))) (K++[e]) (Int.toNat (IntKind.wrap .i64 ((((K++[e]).length:Nat):Int)-1)))).2.1=(dh m.1 (K++[e])).1.2.2.1:=by
       rw[hat,ew,Int.toNat_natCast,rdE hlt,hge,List.getLast?_append];rfl
      have c9:(!(decide ((dh m.1 (K++[e])).2=0)))=false:=by rw[decide_eq_true ha];rfl
      rw[cu c0,cu c1,e111']
      simp only[Option.bind_some]
      rw[e17 (K++[e]) (by omega)]
      simp only[Option.bind_some,Bool.not_true,cond_false]
      rw[cu c9,cr c5,cr c6,cr cX]
      refine⟨_,rfl,?_⟩
      refine⟨hP.b,⟨rfl,hat2,rfl⟩,⟨rfl,hat2,rfl⟩,?_⟩
      show z.2.2.2.2.2.1++(K++[e])=l++(K++[e]);rw[hP.o]
theorem Wi (b:List Nat)(hb:∀ c∈b,c<256)(hl:b.length≤1000000)(s:ST)(n:Nat)(hM:bR s)(hn:n≤b.length)(z0:di)(hP:X3 b z0 (s,n) []) :
  ∃ y m l,iter aA cE z0=some (.inr y)∧ZV y m l∧Reads bU b (s,n) m l:=by
 have key:=lV (f:=cE)
  (fun z=>∃ m l,X3 b z m l∧bR m.1∧m.2≤b.length∧l.length≤400 * m.2∧∀ r l',Reads bU b m r l'→Reads bU b (s,n) r (l++l'))
  (fun z=>(((b.length:Nat):Int)-z.2.1.2.2.2.2.2.2.2.1.2.2.2.2.2.2.2.2.2.2.2.2.2.2.2.2.2.1).toNat)
  (fun r=>∃ y m l,r = .inr y∧ZV y m l∧Reads bU b (s,n) m l)
  ?_ aA z0 ⟨(s,n),[],hP,hM,hn,by simp,fun r l' h=>h⟩ (by
   have he:z0.2.1.2.2.2.2.2.2.2.1.2.2.2.2.2.2.2.2.2.2.2.2.2.2.2.2.2.1=((n:Nat):Int):=hP.s.e
   show (((b.length:Nat):Int)-z0.2.1.2.2.2.2.2.2.2.1.2.2.2.2.2.2.2.2.2.2.2.2.2.2.2.2.2.1).toNat<aA
   rw[he];unfold aA;omega)
 ·obtain⟨r,h1,y,m,l,rfl,h2,h3⟩:=key
  exact⟨y,m,l,h1,h2,h3⟩
 ·rintro z ⟨m,l,h1,h2,h3,h4,h5⟩
  obtain⟨s1,s2⟩:=Wo z b hb hl m l h1 h2 h3 h4
  cases hs:dD bU b m with
  | none=>
   obtain⟨y,e1,e2⟩:=s1 hs
   refine .inr (.inr ⟨y,e1,y,m,l,rfl,e2,?_⟩)
   have:=h5 m [] (.stop hs)
   rwa [List.append_nil] at this
  | some q=>
   obtain⟨m',l'⟩:=q
   obtain⟨z',e1,e2⟩:=s2 m' l' hs
   have hlt:=mj bU eC hb hs
   obtain⟨body,k,g1,g2,g3,g4⟩:=gH bU hs
   refine .inl ⟨z',e1,⟨m',l++l',e2,Br g3 h2,hlt.2.1,by rw[List.length_append];omega,fun r l2 hr=>?_⟩,?_⟩
   ·have:=h5 r (l'++l2) (.step hs hr)
    rwa [← List.append_assoc] at this
   ·have a1:z.2.1.2.2.2.2.2.2.2.1.2.2.2.2.2.2.2.2.2.2.2.2.2.2.2.2.2.1=((m.2:Nat):Int):=h1.s.e
    have a2:z'.2.1.2.2.2.2.2.2.2.1.2.2.2.2.2.2.2.2.2.2.2.2.2.2.2.2.2.1=((m'.2:Nat):Int):=e2.s.e
    show (((b.length:Nat):Int)-z'.2.1.2.2.2.2.2.2.2.1.2.2.2.2.2.2.2.2.2.2.2.2.2.2.2.2.2.1).toNat<(((b.length:Nat):Int)-z.2.1.2.2.2.2.2.2.2.1.2.2.2.2.2.2.2.2.2.2.2.2.2.2.2.2.2.1).toNat
    rw[a1,a2];omega
theorem XR (b:List Nat)(hb:∀ c∈b,c<256)(hl:b.length≤1000000)(s:ST)(n:Nat)(hM:bR s)(hn:n≤b.length)(z0:di)(hP:X3 b z0 (s,n) []) :
  ∃ (t:ST) (k:Nat) (l:List ET),Reads bU b (s,n) (t,k) l∧((iter aA cE z0).bind fun r=>match r with
   | .inl _=>none
   | .inr z4=>some (((((z4.2.1.2.2.1.1,z4.2.1.2.2.1.2.1),(z4.2.1.2.2.1.2.2.1,z4.2.1.2.2.1.2.2.2.1),z4.2.1.2.2.1.2.2.2.2.1,z4.2.1.2.2.1.2.2.2.2.2.1,z4.2.1.2.2.1.2.2.2.2.2.2.1,z4.2.1.2.2.1.2.2.2.2.2.2.2.1),(z4.2.1.2.2.1.2.2.2.2.2.2.2.2.1,z4.2.1.2.2.1.2.2.2.2.2.2.2.2.2.1,z4.2.1.2.2.1.2.2.2.2.2.2.2.2.2.2.1,z4.2.1.2.2.1.2.2.2.2.2.2.2.2.2.2.2.1),z4.2.1.2.2.1.2.2.2.2.2.2.2.2.2.2.2.2.1,z4.2.1.2.2.1.2.2.2.2.2.2.2.2.2.2.2.2.2.1,z4.2.1.2.2.1.2.2.2.2.2.2.2.2.2.2.2.2.2.2.1,z4.2.1.2.2.1.2.2.2.2.2.2.2.2.2.2.2.2.2.2.2.1),z4.2.1.2.2.1.2.2.2.2.2.2.2.2.2.2.2.2.2.2.2.2.1,z4.2.1.2.2.1.2.2.2.2.2.2.2.2.2.2.2.2.2.2.2.2.2.1),z4.2.2.2.2.2.1,true,()))=some (((t,t.2.2.1,(k:Int)),l,true,())):=by
 obtain⟨y,m,l,h1,h2,h3⟩:=Wi b hb hl s n hM hn z0 hP
 refine⟨m.1,m.2,l,h3,?_⟩
 rw[h1]
 obtain⟨⟨q1,q2,q3⟩,q4⟩:=h2
 show some (((ZS y.2.1.2.2.1,y.2.1.2.2.1.2.2.2.2.2.2.2.2.2.2.2.2.2.2.2.2.1,y.2.1.2.2.1.2.2.2.2.2.2.2.2.2.2.2.2.2.2.2.2.2.1),y.2.2.2.2.2.1,true,()))=_
 rw[q1,q2,q3,q4]
theorem O7 (b:List Nat)(hb:∀ c∈b,c<256)(hl:b.length≤1000000)(h:fu b=none):f25 (ints b)=some (((lI,0,0),[],false,())):=by
 unfold f25
 rw[Er b hb hl,h];rfl
theorem KT (b:List Nat)(hb:∀ c∈b,c<256)(hl:b.length≤1000000){s:ST}{n:Nat}(h:fu b=some (s,n)) :
  ∃ (t:ST) (k:Nat) (l:List ET),Reads bU b (s,n) (t,k) l∧f25 (ints b)=some (((t,t.2.2.1,(k:Int)),l,true,())):=by
 obtain⟨hM,_,hn⟩:=gW hb h
 unfold f25
 rw[Er b hb hl,h]
 exact XR b hb hl s n hM hn _ ⟨rfl,⟨rfl,rfl,rfl⟩,⟨rfl,rfl,rfl⟩,rfl⟩
set_option maxRecDepth 100000
theorem Ig:f7=some (true,()):=by kernel_rfl
inductive KV (b:List Nat):Option ((ST×Nat)×List ET)→Prop
 | bad:fu b=none→KV b none
 | good {s n r l}:fu b=some (s,n)→Reads bU b (s,n) r l→KV b (some (r,l))
def bg:Option ((ST×Nat)×List ET)→((ST×Int×Int)×List ET×Bool×Unit)
 | none=>((lI,0,0),[],false,())
 | some y=>((y.1.1,y.1.1.2.2.1,((y.1.2:Nat):Int)),y.2,true,())
theorem fU (b:List Nat)(hb:∀ c∈b,c<256)(hl:b.length≤1000000):∃ o,KV b o∧f25 (ints b)=some (bg o):=by
 cases h:fu b with
 | none=>exact⟨none,.bad h,O7 b hb hl h⟩
 | some y=>
  obtain⟨s,n⟩:=y
  obtain⟨t,k,l,h1,h2⟩:=KT b hb hl h
  exact⟨some ((t,k),l),.good h h1,h2⟩
theorem Ud {b:List Int}{o}(h:f25 b=some (bg o)):f15 b=some ((bg o).1.1,(bg o).2.2.1,()):=by unfold f15;rw[h];rfl
theorem uP {b:List Int}{o}(h:f25 b=some (bg o)):f16 b=some ((bg o).1.2.2,(bg o).2.2.1,()):=by unfold f16;rw[h];rfl
theorem zi {b:List Int}{o}(h:f25 b=some (bg o)):f18 b=some ((bg o).2.1,()):=by unfold f18;rw[h];rfl
theorem uD {b:List Int}{r:ST×Nat}{l:List ET}(h:f25 b=some (bg (some (r,l)))):f16 b=some (((r.2:Nat):Int),true,()):=uP h
theorem D9 {b:List Int}{r:ST×Nat}{l:List ET}(h:f25 b=some (bg (some (r,l)))):f18 b=some (l,()):=zi h
theorem QC {b:List Int}(h:f25 b=some (bg none)):f16 b=some (0,false,()):=uP h
theorem Qs {b:List Int}(h:f25 b=some (bg none)):f18 b=some ([],()):=zi h
theorem sK {b b':List Nat}(hb:∀ c∈b,c<256){s:ST}{n:Nat}(h:fu b=some (s,n))(h':b.take n=b'.take n):fu b'=some (s,n):=by
 unfold fu at h ⊢
 cases hg:iq bU b with
 | error e=>rw[hg] at h;cases h
 | ok x=>
  obtain⟨k,body,m⟩:=x
  rw[hg] at h
  simp only at h
  by_cases hk:k=1
  ·rw[if_pos hk] at h
   cases hr:iD body with
   | none=>rw[hr] at h;cases h
   | some t=>
    rw[hr] at h
    simp only[Option.map_some,Option.some.injEq,Prod.mk.injEq] at h
    obtain⟨rfl,rfl⟩:=h
    rw[wL bU eC hb hg h']
    simp only[if_pos hk,hr,Option.map_some]
  ·rw[if_neg hk] at h;cases h
theorem MQ (l:List ET)(hl:l.length≤1000000000):f20 l l=some (true,()):=by
 have h45:f45 l l=some (true,()):=by
  unfold f45
  rw[decide_eq_true (rfl:((l.length:Nat):Int)=_)]
  have k:=Hp (u:=xB) (fun j=>((l,l,((l.length:Nat):Int),((j:Nat):Int),()),(),())) (n:=l.length) (y:=((),(),())) (fun j hj=>by
   simp only[xB,Nt,eO hj,fe,cond_true,Bool.and_self,Int.toNat_natCast,decide_true,beq_self_eq_true,Bool.not_true,cond_false,nx hj (show l.length≤9223372036854775807 by omega)]) (by
   simp only[xB,Nt]
   rw[nG];rfl) (by omega)
  have k:iter aA xB ((l,l,((l.length:Nat):Int),0,()),(),())=_:=k
  simp only[Bool.not_true,cond_false,k,Option.bind_some]
 unfold f20
 rw[h45];rfl
theorem Li {b:List Nat}{m r:ST×Nat}{l:List ET}(h:Reads bU b m r l):pG m.1 l=(r.1,0):=by
 induction h with
 | stop _=>rfl
 | step h1 _ ih=>
  obtain⟨body,n,g1,g2,g3,g4⟩:=gH bU h1
  have hg:=(vH _ _ (by rw[g3])).symm.trans g3
  rw[x4,hg,if_pos rfl];exact ih
theorem xo {b:List Nat}{m r:ST×Nat}{l:List ET}(h:Reads bU b m r l)(hM:bR m.1):bR r.1:=by
 induction h with
 | stop _=>exact hM
 | step h1 _ ih=>
  obtain⟨body,n,g1,g2,g3,g4⟩:=gH bU h1
  exact ih (Br g3 hM)
theorem qN {c:Int}{F:List FD}{x:FD}(h:dx c (F++[x])=true):dx c F=true:=by
  have hF:=nL h
  have hi:=rj hF.1
  have hu:=hF.2.2.2.2
  have hl:=hF.2.2.2.1
  rw[List.length_append,List.length_singleton] at hl
  rw[nI] at hu
  unfold dx
  rw[hi.1,decide_eq_true hF.2.1,decide_eq_true hF.2.2.1,decide_eq_true (show F.length≤12 by omega),decide_eq_true (by omega)];rfl
theorem JJ (c:Int)(F:List FD)(x:FD)(h:dx c (F++[x])=true):f26 c (F++[x]) x.1=some ((c,F),0,()):=by
  have hS:=iw h
  have hl:=hS.1
  rw[List.length_append,List.length_singleton] at hl
  have h56:f113 c (F++[x]) x.1=some ((F.length:Int),()):=by
    have k:=OC c (F++[x]) h (i:=F.length) (by simp)
    rw[jv] at k;exact k
  unfold f26
  rw[qU c _ hS,h,h56,HW c _ hS]
  have e1:IntKind.wrap .i64 ((F.length:Int)+1)=((F.length+1:Nat):Int):=by rw[bN (by omega) (by omega)];omega
  have hlen:(F++[x]).length=F.length+1:=by simp
  have s1:List.drop (0+(F.length+1)) (List.take (0+(F.length+1)) (F++[x]))=[]:=by
    rw[List.drop_eq_nil_iff,List.length_take];omega
  have s2:List.take (0+F.length) (F++[x])=F:=by rw[Nat.zero_add,List.take_left' rfl]
  simp only[Option.bind_some,Bool.not_true,cond_false,decide_eq_false (show ¬ ((F.length:Nat):Int) = -1 by omega),e1,hlen,fe,decide_eq_true (show ((F.length:Nat):Int)≤((F.length+1:Nat):Int) by omega),decide_eq_true (Int.le_refl ((F.length+1:Nat):Int)),decide_eq_true (show (0:Int)+((F.length+1:Nat):Int)≤((F.length+1:Nat):Int) by omega),Bool.and_self,cond_true,
    decide_eq_false (show ¬ ((F.length:Nat):Int)=((F.length+1:Nat):Int) by omega),decide_eq_true (show (0:Int)+((F.length:Nat):Int)≤((F.length+1:Nat):Int) by omega),Nat.sub_zero,Int.toNat_natCast,s1,s2,List.length_nil,Nat.add_zero,decide_eq_true (show 0+F.length≤F.length+1 by omega)]
  refine (cr ?_).trans ?_
  · simp only[Bool.and_eq_true,decide_eq_true_eq,List.append_nil,List.length_append,List.length_drop,List.length_singleton,List.length_nil];exact⟨⟨trivial,by omega⟩,by omega⟩
  · simp only[Nat.zero_add,List.drop_zero,List.append_nil]
    rw[KM]
theorem Pc (c:Int)(F:List FD)(x:FD)(h:dx c (F++[x])=true)(k:Nat)(hk:k≤x.2.1.length):f27 c (F++[x]) x.1 (k:Int)=some ((c,F++[(x.1,x.2.1.take k,(k:Int))]),0,()):=by
  have hS:=iw h
  have hl:=hS.1
  rw[List.length_append,List.length_singleton] at hl
  have hlt:F.length<(F++[x]).length:=by simp
  have h56:f113 c (F++[x]) x.1=some ((F.length:Int),()):=by
    have q:=OC c (F++[x]) h (i:=F.length) (by simp)
    rw[jv] at q;exact q
  have rdS:∀ y:FD,rd (.pair (.int .i64) (.pair (.row (.int .u8)) (.int .i64))) (F++[y]) F.length=y:=fun y=>by rw[j3 (by simp),jv]
  unfold f27
  simp only[qU c _ hS,h,h56,HW c _ hS,Option.bind_some,Bool.not_true,cond_false,decide_eq_false (show ¬ ((F.length:Nat):Int) = -1 by omega),fe,eO hlt,Bool.and_self,cond_true,decide_eq_false (show ¬ ((k:Nat):Int)<0 by omega),Int.toNat_natCast,decide_eq_true hlt,j3 hlt,rdS,jv,decide_eq_false (show ¬ ((x.2.1.length:Nat):Int)<((k:Nat):Int) by omega),decide_eq_true (Int.le_refl ((k:Nat):Int)),decide_eq_true (show ((k:Nat):Int)≤((x.2.1.length:Nat):Int) by omega),List.length_set,Za hlt,Wm,K1,List.drop_zero]
theorem p6 {α:Type}{P:List α→Prop}(h0:P [])(h1:∀ l a,P l→P (l++[a])):∀ l,P l:=by
  have aux:∀ (n:Nat) (l:List α),l.length=n→P l:=by
    intro n
    induction n with
    | zero=>intro l h;rw[List.eq_nil_of_length_eq_zero h];exact h0
    | succ n ih=>
      intro l h
      rcases (by cases l with
        | nil=>exact .inl rfl
        | cons a r=>exact .inr ⟨(a::r).dropLast,(a::r).getLast (by simp),(List.dropLast_concat_getLast (by simp)).symm⟩:l=[]∨∃ G f,l=G++[f]) with rfl|⟨G,f,rfl⟩
      · exact h0
      · rw[List.length_append,List.length_singleton] at h
        exact h1 G f (ih G (by omega))
  exact fun l=>aux _ l rfl
structure PA (c:Int)(F:List FD)(z:dY)(i:Int)(acc:List Int):Prop where
  i:z.1.2.2.1=i
  c:z.2.1.1.1=c
  f:z.2.1.1.2.1=F
  n:z.2.1.2.2.2.2.2.1.1=0
  g:z.2.1.2.2.2.2.2.2.1.1=F
  d:z.2.2.2.2.2.2.2.2.2.1=acc
structure QA (c:Int)(F:List FD)(y:rR)(no:Int)(m:ST×Nat)(acc:List Int):Prop where
  c:y.2.1.1.1=c
  f:y.2.1.1.2.1=F
  n:y.2.1.2.2.2.2.2.1.1=no
  m:UX y.2.1.2.2.2.1 m
  d:y.2.2.2.2.2.2.1=acc
theorem Jv (c:Int)(F:List FD)(z:dY)(acc:List Int)(hP:PA c F z (-1) acc):∃ y,bZ z=some (.out y)∧y.2.1.2.2.2.2.2.1.1=0:=by
  unfold bZ qD
  rw[cu (show decide (0≤z.1.2.2.1)=false by rw[hP.i];rfl)]
  exact⟨_,rfl,hP.n⟩
theorem X4 (c:Int)(F:List FD)(hD:FM F)(z:dY)(j:Nat)(hj:j<F.length)(acc:List Int)(hP:PA c F z (j:Int) acc)(hacc:acc.length≤1000)(o:Option ((ST×Nat)×List ET))(h25:f25 F[j].2.1=some (bg o)) :
    (o=none→∃ z',bZ z=some (.next z')∧PA c F z' ((j:Int)-1) (acc++[F[j].1])) ∧
    (∀ r l,o=some (r,l)→∃ y,bZ z=some (.ret y)∧QA c F y F[j].1 r acc):=by
  have hlD:=hD.1
  have hrd:rd (.pair (.int .i64) (.pair (.row (.int .u8)) (.int .i64))) z.2.1.2.2.2.2.2.2.1.1 (Int.toNat z.1.2.2.1)=F[j]:=by rw[hP.g,hP.i,Int.toNat_natCast,j3 hj]
  have c1:decide (0≤z.1.2.2.1)=true:=by rw[hP.i];exact fe j
  have c2:((decide (0≤z.1.2.2.1))&&(decide (z.1.2.2.1<((z.2.1.2.2.2.2.2.2.1.1.length:Nat):Int))))=true:=by rw[hP.i,hP.g,fe,eO hj];rfl
  have h25':f25 (rd (.pair (.int .i64) (.pair (.row (.int .u8)) (.int .i64))) z.2.1.2.2.2.2.2.2.1.1 (Int.toNat z.1.2.2.1)).2.1=some (bg o):=by rw[hrd];exact h25
  unfold bZ qD
  rw[cr c1,cr c2,h25']
  simp only[Option.bind_some]
  refine⟨?_,?_⟩
  · rintro rfl
    have c3:(bg none).2.2.1=false:=rfl
    have c4:((decide (((z.2.2.2.2.2.2.2.2.2.1.length+1) * 8)≤140737488355328))&&(decide ((z.2.2.2.2.2.2.2.2.2.1.length+1)≤9223372036854775807)))=true:=by
      rw[hP.d,decide_eq_true (by omega),decide_eq_true (by omega)];rfl
    rw[cu c3,cr c4]
    refine⟨_,rfl,?_⟩
    refine⟨?_,hP.c,hP.f,hP.n,hP.g,?_⟩
    · show IntKind.wrap .i64 (z.1.2.2.1-1)=_
      rw[hP.i,bN (by omega) (by omega)]
    · show z.2.2.2.2.2.2.2.2.2.1++[_]=_
      rw[hP.d,hrd]
  · rintro r l rfl
    have c3:(bg (some (r,l))).2.2.1=true:=rfl
    rw[cr c3]
    refine⟨_,rfl,?_⟩
    exact⟨hP.c,hP.f,congrArg (fun q:FD=>q.1) hrd,⟨rfl,rfl,rfl⟩,hP.d⟩
def kX (B:List FD):List Int:=(B.map (·.1)).reverse
theorem JN (f:FD)(B:List FD):kX (f::B)=kX B++[f.1]:=by unfold kX;simp
theorem Zd (c:Int):∀ (A B:List FD) (z:dY),FM (A++B)→BM (A++B)→(∀ f∈B,f25 f.2.1=some (bg none))→PA c (A++B) z ((A.length:Int)-1) (kX B) →
    (∃ y,iter (A.length+1) bZ z=some (.inl y)∧y.2.1.2.2.2.2.2.1.1=0∧∀ f∈A++B,f25 f.2.1=some (bg none)) ∨
    ∃ A' f B' r l y,A++B=A'++f::B'∧(∀ g∈B',f25 g.2.1=some (bg none))∧f25 f.2.1=some (bg (some (r,l)))∧iter (A.length+1) bZ z=some (.inr y)∧QA c (A++B) y f.1 r (kX B'):=by
  intro A
  induction A using p6 with
  | h0=>
    intro B z hD hB hb hP
    obtain⟨y,h1,h2⟩:=Jv c _ z _ hP
    exact .inl ⟨y,bJ h1,h2,hb⟩
  | h1 G f ih=>
    intro B z hD hB hb hP
    have hl:=hD.1
    rw[List.length_append,List.length_append,List.length_singleton] at hl
    have hlt:G.length<((G++[f])++B).length:=by simp
    have hg:((G++[f])++B)[G.length]'hlt=f:=by
      rw[List.getElem_append_left (by simp)];exact jv G f
    have hi:(((G++[f]).length:Nat):Int)-1=(G.length:Int):=by rw[List.length_append,List.length_singleton];omega
    rw[hi] at hP
    have hfm:f∈(G++[f])++B:=by simp
    have hfl:=hD.2 f hfm
    obtain⟨b,hbb,hb256⟩:=hB f hfm
    obtain⟨o,ho,h25⟩:=fU b hb256 (by rw[hbb,aC] at hfl;exact hfl)
    rw[← hbb] at h25
    have hacc:(kX B).length≤1000:=by unfold kX;simp;omega
    have st:=X4 c _ hD z G.length hlt (kX B) hP hacc o (by rw[hg];exact h25)
    rw[hg] at st
    rw[List.length_append,List.length_singleton]
    cases o with
    | none=>
      obtain⟨z',s1,s2⟩:=st.1 rfl
      have e:(G++[f])++B=G++(f::B):=by simp
      rw[e] at hD hB s2 ⊢
      have:=ih (f::B) z' hD hB (fun x hx=>by
        rcases List.mem_cons.1 hx with rfl|hx
        · exact h25
        · exact hb x hx) (by rw[JN];exact s2)
      rw[br s1]
      exact this
    | some q=>
      obtain⟨r,l⟩:=q
      obtain⟨y,s1,s2⟩:=st.2 r l rfl
      exact .inr ⟨G,f,B,r,l,y,by simp,hb,h25,eP s1,s2⟩
structure PB (c:Int)(F:List FD)(no:Int)(m:ST×Nat)(dr:List Int)(z:xa)(k:Nat):Prop where
  l:z.1.2.2.2.2.2.1=(dr.length:Int)
  k:z.1.2.2.2.2.2.2.1=(k:Int)
  c:z.2.1.1.1=c
  f:z.2.1.1.2.1=F
  m:UX z.2.1.2.2.2.1 m
  n:z.2.1.2.2.2.2.1.1=no
  d:z.2.2.1=dr
structure QB (c:Int)(F:List FD)(no:Int)(m:ST×Nat)(y:Lm):Prop where
  c:y.2.1.1.1=c
  f:y.2.1.1.2.1=F
  m:UX y.2.1.2.2.2.1 m
  n:y.2.1.2.2.2.2.1.1=no
theorem Ye (c no:Int)(m:ST×Nat)(dr:List Int)(hdr:dr.length≤1000):∀ (B:List FD) (A:List FD) (k:Nat) (z:xa),dx c (A++B)=true→k+B.length=dr.length→dr.drop k=kX B→PB c (A++B) no m dr z k →
    ∃ y,iter (B.length+1) lM z=some (.inl y)∧QB c A no m y:=by
  intro B
  induction B using p6 with
  | h0=>
    intro A k z hm hk hd hP
    rw[List.append_nil] at hP
    have step:∃ y,lM z=some (.out y)∧QB c A no m y:=by
      unfold lM Lt
      rw[cu (show decide (z.1.2.2.2.2.2.2.1<z.1.2.2.2.2.2.1)=false by rw[hP.k,hP.l];exact decide_eq_false (by simp at hk;omega))]
      exact⟨_,rfl,⟨hP.c,hP.f,hP.m,hP.n⟩⟩
    obtain⟨y,s1,s2⟩:=step
    exact⟨y,bJ s1,s2⟩
  | h1 G f ih=>
    intro A k z hm hk hd hP
    rw[List.length_append,List.length_singleton] at hk
    have hklt:k<dr.length:=by omega
    have hnos:kX (G++[f])=f.1::kX G:=by unfold kX;simp
    rw[hnos,List.drop_eq_getElem_cons hklt] at hd
    obtain⟨d1,d2⟩:=List.cons.inj hd
    have e:A++(G++[f])=(A++G)++[f]:=by simp
    rw[e] at hm hP
    have c1:decide (z.1.2.2.2.2.2.2.1<z.1.2.2.2.2.2.1)=true:=by rw[hP.k,hP.l];exact eO hklt
    have c2:((decide (0≤z.1.2.2.2.2.2.2.1))&&(decide (z.1.2.2.2.2.2.2.1<((z.2.2.1.length:Nat):Int))))=true:=by rw[hP.k,hP.d,fe,eO hklt];rfl
    have c3:decide ((Int.toNat z.1.2.2.2.2.2.2.1)<z.2.2.1.length)=true:=by rw[hP.k,hP.d,Int.toNat_natCast];exact decide_eq_true hklt
    have h26:f26 z.2.1.1.1 z.2.1.1.2.1 (rd (.int .i64) z.2.2.1 (Int.toNat z.1.2.2.2.2.2.2.1))=some ((c,A++G),0,()):=by
      rw[hP.c,hP.f,hP.d,hP.k,Int.toNat_natCast,ZP hklt,d1]
      exact JJ c (A++G) f hm
    have step:∃ z',lM z=some (.next z')∧PB c (A++G) no m dr z' (k+1):=by
      unfold lM Lt
      rw[cr c1,cr c2,cr c3,h26]
      refine⟨_,rfl,?_⟩
      refine⟨hP.l,?_,rfl,rfl,hP.m,hP.n,hP.d⟩
      show IntKind.wrap .i64 (z.1.2.2.2.2.2.2.1+1)=_
      rw[hP.k,bN (by omega) (by omega)];rfl
    obtain⟨z',s1,s2⟩:=step
    rw[List.length_append,List.length_singleton,br s1]
    exact ih A (k+1) z' (qN hm) (by omega) d2 s2
theorem Gv (c:Int)(F:List FD)(hD:FM F)(h:dx c F=false):f9 c F=some (((0,[]),0,0),lI,1,()):=by
  unfold f9
  rw[qU c F hD,h];rfl
theorem aaj (c:Int)(A:List FD)(f:FD)(B:List FD)(r:ST×Nat)(hm:dx c (A++f::B)=true)(hmf:dx c (A++[f])=true)(hBl:B.length≤1000)(hk:r.2≤f.2.1.length)(z:xa)
    (hz:PB c ((A++[f])++B) f.1 r (kX B) z 0) :
    ((iter aA lM z).bind fun r=>match r with
     | .inl y6=>
       ((f27 y6.2.1.1.1 y6.2.1.1.2.1 y6.2.1.2.2.2.2.1.1 y6.2.1.2.2.2.1.2.2.2.2.2.2.2.2.2.2.2.2.2.2.2.2.2.1)).bind fun y8=>
       some (((y8.1.1,y8.1.2),y6.2.1.2.2.2.2.1.1,y6.2.1.2.2.2.1.2.2.2.2.2.2.2.2.2.2.2.2.2.2.2.2.1),(((y6.2.1.2.2.2.1.1,y6.2.1.2.2.2.1.2.1),(y6.2.1.2.2.2.1.2.2.1,y6.2.1.2.2.2.1.2.2.2.1),y6.2.1.2.2.2.1.2.2.2.2.1,y6.2.1.2.2.2.1.2.2.2.2.2.1,y6.2.1.2.2.2.1.2.2.2.2.2.2.1,y6.2.1.2.2.2.1.2.2.2.2.2.2.2.1),(y6.2.1.2.2.2.1.2.2.2.2.2.2.2.2.1,y6.2.1.2.2.2.1.2.2.2.2.2.2.2.2.2.1,y6.2.1.2.2.2.1.2.2.2.2.2.2.2.2.2.2.1,y6.2.1.2.2.2.1.2.2.2.2.2.2.2.2.2.2.2.1),y6.2.1.2.2.2.1.2.2.2.2.2.2.2.2.2.2.2.2.1,y6.2.1.2.2.2.1.2.2.2.2.2.2.2.2.2.2.2.2.2.1,y6.2.1.2.2.2.1.2.2.2.2.2.2.2.2.2.2.2.2.2.2.1,y6.2.1.2.2.2.1.2.2.2.2.2.2.2.2.2.2.2.2.2.2.2.1),0,())
     | .inr z7=>
       none:Option (WT×ST×Int×Unit))=some (((c,A++[(f.1,f.2.1.take r.2,(r.2:Int))]),f.1,r.1.2.2.1),r.1,0,()):=by
  have hnl:(kX B).length=B.length:=by unfold kX;simp
  have e:A++f::B=(A++[f])++B:=by simp
  obtain⟨y6,b1,b2⟩:=Ye c f.1 r (kX B) (by rw[hnl];exact hBl) B (A++[f]) 0 z (by rw[← e];exact hm) (by rw[hnl];omega) rfl hz
  refine (congrArg (fun o=>Option.bind o _) (en (show B.length+1≤aA by unfold aA;omega) b1)).trans ?_
  have h27:f27 y6.2.1.1.1 y6.2.1.1.2.1 y6.2.1.2.2.2.2.1.1 y6.2.1.2.2.2.1.2.2.2.2.2.2.2.2.2.2.2.2.2.2.2.2.2.1=some ((c,A++[(f.1,f.2.1.take r.2,(r.2:Int))]),0,()):=by
    have he:=b2.m.e
    rw[b2.c,b2.f,b2.n]
    refine (congrArg (f27 c (A++[f]) f.1) he).trans ?_
    exact Pc c A f hmf r.2 hk
  refine (congrArg (fun o=>Option.bind o _) h27).trans ?_
  obtain⟨⟨q1,q2,q3⟩,q4⟩:=(⟨b2.m,b2.n⟩:UX y6.2.1.2.2.2.1 r∧y6.2.1.2.2.2.2.1.1=f.1)
  show some (((c,A++[(f.1,f.2.1.take r.2,(r.2:Int))]),y6.2.1.2.2.2.2.1.1,y6.2.1.2.2.2.1.2.2.2.2.2.2.2.2.2.2.2.2.2.2.2.2.1),ZS y6.2.1.2.2.2.1,0,())=_
  rw[q1,q4]
  rw[show y6.2.1.2.2.2.1.2.2.2.2.2.2.2.2.2.2.2.2.2.2.2.2.1=r.1.2.2.1 from q2]
theorem LH (c:Int)(F:List FD)(hm:dx c F=true)(hB:BM F)(z0:dY)(hP:PA c F z0 ((F.length:Int)-1) []) :
    (((∀ f∈F,f25 f.2.1=some (bg none))∧((iter aA bZ z0).bind fun r=>match r with
  | .inl y4=>
    cond (decide (y4.2.1.2.2.2.2.2.1.1=0)) (
     some (((0,[]),0,0),(((0,0),(0,0),0,0,0,0),(0,0,0,false),0,[],[],[]),5,())) (
     none)
  | .inr z5=>
    cond (decide (z5.2.1.2.2.2.2.2.1.1=0)) (
     some (((0,[]),0,0),(((0,0),(0,0),0,0,0,0),(0,0,0,false),0,[],[],[]),5,())) (
     ((iter aA lM (((),(),(),(),(),((z5.2.2.2.2.2.2.1.length:Nat):Int),0,()),((z5.2.1.1.1,z5.2.1.1.2.1,()),(z5.2.1.2.1.1,(),z5.2.1.2.1.2.2.1,z5.2.1.2.1.2.2.2.1,()),(z5.2.1.2.2.1.1,z5.2.1.2.2.1.2.1,z5.2.1.2.2.1.2.2.1,z5.2.1.2.2.1.2.2.2.1,z5.2.1.2.2.1.2.2.2.2.1,z5.2.1.2.2.1.2.2.2.2.2.1,z5.2.1.2.2.1.2.2.2.2.2.2.1,z5.2.1.2.2.1.2.2.2.2.2.2.2.1,z5.2.1.2.2.1.2.2.2.2.2.2.2.2.1,z5.2.1.2.2.1.2.2.2.2.2.2.2.2.2.1,z5.2.1.2.2.1.2.2.2.2.2.2.2.2.2.2.1,z5.2.1.2.2.1.2.2.2.2.2.2.2.2.2.2.2.1,z5.2.1.2.2.1.2.2.2.2.2.2.2.2.2.2.2.2.1,(),(),(),()),(z5.2.1.2.2.2.1.1,z5.2.1.2.2.2.1.2.1,z5.2.1.2.2.2.1.2.2.1,z5.2.1.2.2.2.1.2.2.2.1,z5.2.1.2.2.2.1.2.2.2.2.1,z5.2.1.2.2.2.1.2.2.2.2.2.1,z5.2.1.2.2.2.1.2.2.2.2.2.2.1,z5.2.1.2.2.2.1.2.2.2.2.2.2.2.1,z5.2.1.2.2.2.1.2.2.2.2.2.2.2.2.1,z5.2.1.2.2.2.1.2.2.2.2.2.2.2.2.2.1,z5.2.1.2.2.2.1.2.2.2.2.2.2.2.2.2.2.1,z5.2.1.2.2.2.1.2.2.2.2.2.2.2.2.2.2.2.1,z5.2.1.2.2.2.1.2.2.2.2.2.2.2.2.2.2.2.2.1,z5.2.1.2.2.2.1.2.2.2.2.2.2.2.2.2.2.2.2.2.1,z5.2.1.2.2.2.1.2.2.2.2.2.2.2.2.2.2.2.2.2.2.1,z5.2.1.2.2.2.1.2.2.2.2.2.2.2.2.2.2.2.2.2.2.2.1,z5.2.1.2.2.2.1.2.2.2.2.2.2.2.2.2.2.2.2.2.2.2.2.1,z5.2.1.2.2.2.1.2.2.2.2.2.2.2.2.2.2.2.2.2.2.2.2.2.1,()),(z5.2.1.2.2.2.2.2.1.1,()),()),z5.2.2.2.2.2.2.1,z5.2.2.1,z5.2.2.2.1,z5.2.2.2.2.1,z5.2.2.2.2.2.1,()))).bind fun r=>match r with
     | .inl y6=>
       ((f27 y6.2.1.1.1 y6.2.1.1.2.1 y6.2.1.2.2.2.2.1.1 y6.2.1.2.2.2.1.2.2.2.2.2.2.2.2.2.2.2.2.2.2.2.2.2.1)).bind fun y8=>
       some (((y8.1.1,y8.1.2),y6.2.1.2.2.2.2.1.1,y6.2.1.2.2.2.1.2.2.2.2.2.2.2.2.2.2.2.2.2.2.2.2.1),(((y6.2.1.2.2.2.1.1,y6.2.1.2.2.2.1.2.1),(y6.2.1.2.2.2.1.2.2.1,y6.2.1.2.2.2.1.2.2.2.1),y6.2.1.2.2.2.1.2.2.2.2.1,y6.2.1.2.2.2.1.2.2.2.2.2.1,y6.2.1.2.2.2.1.2.2.2.2.2.2.1,y6.2.1.2.2.2.1.2.2.2.2.2.2.2.1),(y6.2.1.2.2.2.1.2.2.2.2.2.2.2.2.1,y6.2.1.2.2.2.1.2.2.2.2.2.2.2.2.2.1,y6.2.1.2.2.2.1.2.2.2.2.2.2.2.2.2.2.1,y6.2.1.2.2.2.1.2.2.2.2.2.2.2.2.2.2.2.1),y6.2.1.2.2.2.1.2.2.2.2.2.2.2.2.2.2.2.2.1,y6.2.1.2.2.2.1.2.2.2.2.2.2.2.2.2.2.2.2.2.1,y6.2.1.2.2.2.1.2.2.2.2.2.2.2.2.2.2.2.2.2.2.1,y6.2.1.2.2.2.1.2.2.2.2.2.2.2.2.2.2.2.2.2.2.2.1),0,())
     | .inr z7=>
       none):Option (WT×ST×Int×Unit))=some (((0,[]),0,0),lI,5,())) ∨
    ∃ A f B r l,F=A++f::B∧(∀ g∈B,f25 g.2.1=some (bg none))∧f25 f.2.1=some (bg (some (r,l))) ∧
      ((iter aA bZ z0).bind fun r=>match r with
  | .inl y4=>
    cond (decide (y4.2.1.2.2.2.2.2.1.1=0)) (
     some (((0,[]),0,0),(((0,0),(0,0),0,0,0,0),(0,0,0,false),0,[],[],[]),5,())) (
     none)
  | .inr z5=>
    cond (decide (z5.2.1.2.2.2.2.2.1.1=0)) (
     some (((0,[]),0,0),(((0,0),(0,0),0,0,0,0),(0,0,0,false),0,[],[],[]),5,())) (
     ((iter aA lM (((),(),(),(),(),((z5.2.2.2.2.2.2.1.length:Nat):Int),0,()),((z5.2.1.1.1,z5.2.1.1.2.1,()),(z5.2.1.2.1.1,(),z5.2.1.2.1.2.2.1,z5.2.1.2.1.2.2.2.1,()),(z5.2.1.2.2.1.1,z5.2.1.2.2.1.2.1,z5.2.1.2.2.1.2.2.1,z5.2.1.2.2.1.2.2.2.1,z5.2.1.2.2.1.2.2.2.2.1,z5.2.1.2.2.1.2.2.2.2.2.1,z5.2.1.2.2.1.2.2.2.2.2.2.1,z5.2.1.2.2.1.2.2.2.2.2.2.2.1,z5.2.1.2.2.1.2.2.2.2.2.2.2.2.1,z5.2.1.2.2.1.2.2.2.2.2.2.2.2.2.1,z5.2.1.2.2.1.2.2.2.2.2.2.2.2.2.2.1,z5.2.1.2.2.1.2.2.2.2.2.2.2.2.2.2.2.1,z5.2.1.2.2.1.2.2.2.2.2.2.2.2.2.2.2.2.1,(),(),(),()),(z5.2.1.2.2.2.1.1,z5.2.1.2.2.2.1.2.1,z5.2.1.2.2.2.1.2.2.1,z5.2.1.2.2.2.1.2.2.2.1,z5.2.1.2.2.2.1.2.2.2.2.1,z5.2.1.2.2.2.1.2.2.2.2.2.1,z5.2.1.2.2.2.1.2.2.2.2.2.2.1,z5.2.1.2.2.2.1.2.2.2.2.2.2.2.1,z5.2.1.2.2.2.1.2.2.2.2.2.2.2.2.1,z5.2.1.2.2.2.1.2.2.2.2.2.2.2.2.2.1,z5.2.1.2.2.2.1.2.2.2.2.2.2.2.2.2.2.1,z5.2.1.2.2.2.1.2.2.2.2.2.2.2.2.2.2.2.1,z5.2.1.2.2.2.1.2.2.2.2.2.2.2.2.2.2.2.2.1,z5.2.1.2.2.2.1.2.2.2.2.2.2.2.2.2.2.2.2.2.1,z5.2.1.2.2.2.1.2.2.2.2.2.2.2.2.2.2.2.2.2.2.1,z5.2.1.2.2.2.1.2.2.2.2.2.2.2.2.2.2.2.2.2.2.2.1,z5.2.1.2.2.2.1.2.2.2.2.2.2.2.2.2.2.2.2.2.2.2.2.1,z5.2.1.2.2.2.1.2.2.2.2.2.2.2.2.2.2.2.2.2.2.2.2.2.1,()),(z5.2.1.2.2.2.2.2.1.1,()),()),z5.2.2.2.2.2.2.1,z5.2.2.1,z5.2.2.2.1,z5.2.2.2.2.1,z5.2.2.2.2.2.1,()))).bind fun r=>match r with
     | .inl y6=>
       ((f27 y6.2.1.1.1 y6.2.1.1.2.1 y6.2.1.2.2.2.2.1.1 y6.2.1.2.2.2.1.2.2.2.2.2.2.2.2.2.2.2.2.2.2.2.2.2.1)).bind fun y8=>
       some (((y8.1.1,y8.1.2),y6.2.1.2.2.2.2.1.1,y6.2.1.2.2.2.1.2.2.2.2.2.2.2.2.2.2.2.2.2.2.2.2.1),(((y6.2.1.2.2.2.1.1,y6.2.1.2.2.2.1.2.1),(y6.2.1.2.2.2.1.2.2.1,y6.2.1.2.2.2.1.2.2.2.1),y6.2.1.2.2.2.1.2.2.2.2.1,y6.2.1.2.2.2.1.2.2.2.2.2.1,y6.2.1.2.2.2.1.2.2.2.2.2.2.1,y6.2.1.2.2.2.1.2.2.2.2.2.2.2.1),(y6.2.1.2.2.2.1.2.2.2.2.2.2.2.2.1,y6.2.1.2.2.2.1.2.2.2.2.2.2.2.2.2.1,y6.2.1.2.2.2.1.2.2.2.2.2.2.2.2.2.2.1,y6.2.1.2.2.2.1.2.2.2.2.2.2.2.2.2.2.2.1),y6.2.1.2.2.2.1.2.2.2.2.2.2.2.2.2.2.2.2.1,y6.2.1.2.2.2.1.2.2.2.2.2.2.2.2.2.2.2.2.2.1,y6.2.1.2.2.2.1.2.2.2.2.2.2.2.2.2.2.2.2.2.2.1,y6.2.1.2.2.2.1.2.2.2.2.2.2.2.2.2.2.2.2.2.2.2.1),0,())
     | .inr z7=>
       none):Option (WT×ST×Int×Unit))=some (((c,A++[(f.1,f.2.1.take r.2,(r.2:Int))]),f.1,r.1.2.2.1),r.1,0,())):=by
  have hD:=iw hm
  have hl:=hD.1
  have hF:=nL hm
  have k:=Zd c F [] z0 (by rw[List.append_nil];exact hD) (by rw[List.append_nil];exact hB) (by simp) (by rw[List.append_nil];exact hP)
  rcases k with⟨y,h1,h2,h3⟩|⟨A,f,B,r,l,y,h1,h2,h3,h4,h5⟩
  · rw[List.append_nil] at h3
    refine .inl ⟨h3,?_⟩
    rw[en (show F.length+1≤aA by unfold aA;omega) h1]
    simp only[Option.bind_some]
    rw[cr (show decide (y.2.1.2.2.2.2.2.1.1=0)=true by rw[h2];rfl)]
  · rw[List.append_nil] at h1 h5
    subst h1
    refine .inr ⟨A,f,B,r,l,rfl,h2,h3,?_⟩
    have hfm:f∈A++f::B:=by simp
    have hf0:=(tM hF.1 f hfm).1
    have hBl:B.length≤1000:=by rw[List.length_append,List.length_cons] at hl;omega
    have hnl:(kX B).length=B.length:=by unfold kX;simp
    have e:A++f::B=(A++[f])++B:=by simp
    have hmf:dx c (A++[f])=true:=by
      rw[e] at hm
      have aux:∀ (B:List FD),dx c ((A++[f])++B)=true→dx c (A++[f])=true:=by
        intro B
        induction B using p6 with
        | h0=>intro h;rw[List.append_nil] at h;exact h
        | h1 G x ih=>intro h;rw[← List.append_assoc] at h;exact ih (qN h)
      exact aux B hm
    obtain⟨b,hbb,hb256⟩:=hB f hfm
    have hfl:=hD.2 f hfm
    have hk:r.2≤f.2.1.length:=by
      rw[hbb,aC] at hfl
      obtain⟨o,ho,h25⟩:=fU b hb256 hfl
      rw[← hbb,h3] at h25
      cases ho with
      | bad _=>simp only[bg,Option.some.injEq,Prod.mk.injEq] at h25;exact absurd h25.2.2.1 (by simp)
      | @good s n r' l' g1 g2=>
        simp only[bg,Option.some.injEq,Prod.mk.injEq] at h25
        have:=(Reads.le bU eC hb256 g2).2.1 (gW hb256 g1).2.2
        rw[hbb,aC]
        have:=h25.1.2.2
        omega
    rw[en (show (A++f::B).length+1≤aA by unfold aA;omega) h4]
    simp only[Option.bind_some]
    rw[cu (show decide (y.2.1.2.2.2.2.2.1.1=0)=false by rw[h5.n];exact decide_eq_false (by omega))]
    exact aaj c A f B r hm hmf hBl hk _ ⟨congrArg (fun q:List Int=>(q.length:Int)) h5.d,rfl,h5.c,by rw[← e];exact h5.f,h5.m,h5.n,h5.d⟩
theorem AP (c:Int)(F:List FD)(hm:dx c F=true)(hB:BM F) :
    ((∀ f∈F,f25 f.2.1=some (bg none))∧f9 c F=some (((0,[]),0,0),lI,5,())) ∨
    ∃ A f B r l,F=A++f::B∧(∀ g∈B,f25 g.2.1=some (bg none))∧f25 f.2.1=some (bg (some (r,l))) ∧
      f9 c F=some (((c,A++[(f.1,f.2.1.take r.2,(r.2:Int))]),f.1,r.1.2.2.1),r.1,0,()):=by
  have hD:=iw hm
  have hl:=hD.1
  have k:=LH c F hm hB ((((),(),(IntKind.wrap .i64 (((F.length:Nat):Int)-1)),()),((c,F,()),(0,(),0,0,()),(0,0,0,0,0,0,0,0,0,0,0,false,0,(),(),(),()),(0,0,0,0,0,0,0,0,0,0,0,false,0,(),(),(),0,0,()),((),()),(0,()),(F,()),((),(),(),(),(),(),(),(),(),(),(),(),(),(),(),(),(),(),(),(),(),(),(),(),(),(),(),(),(),(),(),(),(),(),(),(),(),(),(),(),(),(),(),(),(),(),(),(),(),(),(),(),(),(),(),(),(),(),(),(),(),(),(),(),(),(),(),(),(),(),(),(),(),()),()),[],[],[],[],[],[],[],[],())) ⟨by show IntKind.wrap .i64 (((F.length:Nat):Int)-1)=_;rw[bN (by omega) (by omega)],rfl,rfl,rfl,rfl,rfl⟩
  have e:f9 c F=((iter aA bZ ((((),(),(IntKind.wrap .i64 (((F.length:Nat):Int)-1)),()),((c,F,()),(0,(),0,0,()),(0,0,0,0,0,0,0,0,0,0,0,false,0,(),(),(),()),(0,0,0,0,0,0,0,0,0,0,0,false,0,(),(),(),0,0,()),((),()),(0,()),(F,()),((),(),(),(),(),(),(),(),(),(),(),(),(),(),(),(),(),(),(),(),(),(),(),(),(),(),(),(),(),(),(),(),(),(),(),(),(),(),(),(),(),(),(),(),(),(),(),(),(),(),(),(),(),(),(),(),(),(),(),(),(),(),(),(),(),(),(),(),(),(),(),(),(),()),()),[],[],[],[],[],[],[],[],()))).bind fun r=>match r with
  | .inl y4=>
    cond (decide (y4.2.1.2.2.2.2.2.1.1=0)) (
     some (((0,[]),0,0),(((0,0),(0,0),0,0,0,0),(0,0,0,false),0,[],[],[]),5,())) (
     none)
  | .inr z5=>
    cond (decide (z5.2.1.2.2.2.2.2.1.1=0)) (
     some (((0,[]),0,0),(((0,0),(0,0),0,0,0,0),(0,0,0,false),0,[],[],[]),5,())) (
     ((iter aA lM (((),(),(),(),(),((z5.2.2.2.2.2.2.1.length:Nat):Int),0,()),((z5.2.1.1.1,z5.2.1.1.2.1,()),(z5.2.1.2.1.1,(),z5.2.1.2.1.2.2.1,z5.2.1.2.1.2.2.2.1,()),(z5.2.1.2.2.1.1,z5.2.1.2.2.1.2.1,z5.2.1.2.2.1.2.2.1,z5.2.1.2.2.1.2.2.2.1,z5.2.1.2.2.1.2.2.2.2.1,z5.2.1.2.2.1.2.2.2.2.2.1,z5.2.1.2.2.1.2.2.2.2.2.2.1,z5.2.1.2.2.1.2.2.2.2.2.2.2.1,z5.2.1.2.2.1.2.2.2.2.2.2.2.2.1,z5.2.1.2.2.1.2.2.2.2.2.2.2.2.2.1,z5.2.1.2.2.1.2.2.2.2.2.2.2.2.2.2.1,z5.2.1.2.2.1.2.2.2.2.2.2.2.2.2.2.2.1,z5.2.1.2.2.1.2.2.2.2.2.2.2.2.2.2.2.2.1,(),(),(),()),(z5.2.1.2.2.2.1.1,z5.2.1.2.2.2.1.2.1,z5.2.1.2.2.2.1.2.2.1,z5.2.1.2.2.2.1.2.2.2.1,z5.2.1.2.2.2.1.2.2.2.2.1,z5.2.1.2.2.2.1.2.2.2.2.2.1,z5.2.1.2.2.2.1.2.2.2.2.2.2.1,z5.2.1.2.2.2.1.2.2.2.2.2.2.2.1,z5.2.1.2.2.2.1.2.2.2.2.2.2.2.2.1,z5.2.1.2.2.2.1.2.2.2.2.2.2.2.2.2.1,z5.2.1.2.2.2.1.2.2.2.2.2.2.2.2.2.2.1,z5.2.1.2.2.2.1.2.2.2.2.2.2.2.2.2.2.2.1,z5.2.1.2.2.2.1.2.2.2.2.2.2.2.2.2.2.2.2.1,z5.2.1.2.2.2.1.2.2.2.2.2.2.2.2.2.2.2.2.2.1,z5.2.1.2.2.2.1.2.2.2.2.2.2.2.2.2.2.2.2.2.2.1,z5.2.1.2.2.2.1.2.2.2.2.2.2.2.2.2.2.2.2.2.2.2.1,z5.2.1.2.2.2.1.2.2.2.2.2.2.2.2.2.2.2.2.2.2.2.2.1,z5.2.1.2.2.2.1.2.2.2.2.2.2.2.2.2.2.2.2.2.2.2.2.2.1,()),(z5.2.1.2.2.2.2.2.1.1,()),()),z5.2.2.2.2.2.2.1,z5.2.2.1,z5.2.2.2.1,z5.2.2.2.2.1,z5.2.2.2.2.2.1,()))).bind fun r=>match r with
     | .inl y6=>
       ((f27 y6.2.1.1.1 y6.2.1.1.2.1 y6.2.1.2.2.2.2.1.1 y6.2.1.2.2.2.1.2.2.2.2.2.2.2.2.2.2.2.2.2.2.2.2.2.1)).bind fun y8=>
       some (((y8.1.1,y8.1.2),y6.2.1.2.2.2.2.1.1,y6.2.1.2.2.2.1.2.2.2.2.2.2.2.2.2.2.2.2.2.2.2.2.1),(((y6.2.1.2.2.2.1.1,y6.2.1.2.2.2.1.2.1),(y6.2.1.2.2.2.1.2.2.1,y6.2.1.2.2.2.1.2.2.2.1),y6.2.1.2.2.2.1.2.2.2.2.1,y6.2.1.2.2.2.1.2.2.2.2.2.1,y6.2.1.2.2.2.1.2.2.2.2.2.2.1,y6.2.1.2.2.2.1.2.2.2.2.2.2.2.1),(y6.2.1.2.2.2.1.2.2.2.2.2.2.2.2.1,y6.2.1.2.2.2.1.2.2.2.2.2.2.2.2.2.1,y6.2.1.2.2.2.1.2.2.2.2.2.2.2.2.2.2.1,y6.2.1.2.2.2.1.2.2.2.2.2.2.2.2.2.2.2.1),y6.2.1.2.2.2.1.2.2.2.2.2.2.2.2.2.2.2.2.1,y6.2.1.2.2.2.1.2.2.2.2.2.2.2.2.2.2.2.2.2.1,y6.2.1.2.2.2.1.2.2.2.2.2.2.2.2.2.2.2.2.2.2.1,y6.2.1.2.2.2.1.2.2.2.2.2.2.2.2.2.2.2.2.2.2.2.1),0,())
     | .inr z7=>
       none):Option (WT×ST×Int×Unit)):=by
    unfold f9
    rw[qU c F hD,hm]
    rfl
  rw[e]
  exact k
theorem xf {r r':ST×Nat}{l l':List ET}(h:bg (some (r,l))=bg (some (r',l'))):r=r'∧l=l':=by
 simp only[bg,Prod.mk.injEq,and_true] at h
 refine⟨Prod.ext h.1.1 ?_,h.2⟩
 have:=h.1.2.2
 omega
theorem jN {b:List Nat}(hb:∀ c∈b,c<256)(hl:b.length≤1000000){r:ST×Nat}{l:List ET}(h:f25 (ints b)=some (bg (some (r,l)))) :
  ∃ s n,fu b=some (s,n)∧Reads bU b (s,n) r l∧bR r.1∧r.2≤b.length∧n≤r.2:=by
 obtain⟨o,ho,h25⟩:=fU b hb hl
 rw[h] at h25
 cases ho with
 | bad _=>simp only[bg,Option.some.injEq,Prod.mk.injEq] at h25;exact absurd h25.2.2.1 (by simp)
 | @good s n r' l' g1 g2=>
  obtain⟨rfl,rfl⟩:=xf (Option.some.inj h25)
  have hM:=gW hb g1
  have hle:=Reads.le bU eC hb g2
  exact⟨s,n,g1,g2,xo g2 hM.1,hle.2.1 hM.2.2,hle.1⟩
theorem MO {b:List Nat}(hb:∀ c∈b,c<256)(hl:b.length≤1000000){r:ST×Nat}{l:List ET}(h:f25 (ints b)=some (bg (some (r,l)))):f25 (ints (b.take r.2))=some (bg (some (r,l))):=by
 obtain⟨s,n,g1,g2,g3,g4,g5⟩:=jN hb hl h
 have hbt:∀ c∈b.take r.2,c<256:=fun c hc=>hb c (List.mem_of_mem_take hc)
 have hF:=sK hb (b':=b.take r.2) g1 (by rw[List.take_take,Nat.min_eq_left g5])
 obtain⟨o,ho,h25⟩:=fU (b.take r.2) hbt (by rw[List.length_take];omega)
 cases ho with
 | bad h2=>rw[hF] at h2;cases h2
 | @good s' n' r' l' k1 k2=>
  rw[hF] at k1
  simp only[Option.some.injEq,Prod.mk.injEq] at k1
  obtain⟨rfl,rfl⟩:=k1
  obtain⟨e1,e2⟩:=(Reads.cut bU eC hb r.2 g2 k2).2.2 (Nat.le_refl _)
  rw[h25,e1,e2]
abbrev gL (f:FD)(k:Nat):FD:=(f.1,f.2.1.take k,(k:Int))
theorem wJ {c:Int}{A B:List FD}(h:dx c (A++B)=true):dx c A=true:=by
 induction B using p6 with
 | h0=>rw[List.append_nil] at h;exact h
 | h1 G x ih=>rw[← List.append_assoc] at h;exact ih (qN h)
theorem yF {c:Int}{A:List FD}{f:FD}{k:Nat}(h:dx c (A++[f])=true)(hk:k≤f.2.1.length):dx c (A++[gL f k])=true:=by
 have hF:=nL h
 have hu:=hF.2.2.2.2
 rw[nI] at hu
 refine IQ h (by omega) (by rw[List.length_take];omega) ?_
 rw[List.length_take];omega
theorem Fa (c:Int)(A:List FD)(f:FD)(r:ST×Nat)(l:List ET)(hm:dx c (A++[f])=true)(hBA:BM A)(b:List Nat)(hbb:f.2.1=ints b)(hb:∀ c∈b,c<256)(h:f25 f.2.1=some (bg (some (r,l)))) :
  f9 c (A++[gL f r.2])=some (((c,A++[gL f r.2]),f.1,r.1.2.2.1),r.1,0,()):=by
 have hS:=iw hm
 have hfl:=hS.2 f (by simp)
 rw[hbb,aC] at hfl
 rw[hbb] at h
 obtain⟨s,n,g1,g2,g3,g4,g5⟩:=jN hb hfl h
 have hc:=MO hb hfl h
 have hcf:f25 (gL f r.2).2.1=some (bg (some (r,l))):=by
  show f25 (f.2.1.take r.2)=_
  rw[hbb,bF];exact hc
 have hm2:=yF (k:=r.2) hm (by rw[hbb,aC];exact g4)
 have hB2:BM (A++[gL f r.2]):=by
  intro g hg
  rcases List.mem_append.1 hg with hg|hg
  ·exact hBA g hg
  ·rw[List.mem_singleton.1 hg]
   exact⟨b.take r.2,by show f.2.1.take r.2=_;rw[hbb,bF],fun x hx=>hb x (List.mem_of_mem_take hx)⟩
 rcases AP c _ hm2 hB2 with⟨k1,_⟩|⟨A',f',B',r',l',k1,k2,k3,k4⟩
 ·have:=k1 (gL f r.2) (by simp)
  rw[hcf] at this
  simp only[bg,Option.some.injEq,Prod.mk.injEq] at this
  exact absurd this.2.2.1 (by simp)
 ·rcases yc B' with rfl|⟨G,x,rfl⟩
  ·have hi:=List.append_inj' k1 rfl
   obtain⟨rfl,h2⟩:=hi
   have h3:gL f r.2=f':=(List.cons.inj h2).1
   subst h3
   rw[hcf] at k3
   obtain⟨rfl,rfl⟩:=xf (Option.some.inj k3)
   rw[k4]
   have:(gL f r.2).2.1.take r.2=(gL f r.2).2.1:=by
    show (f.2.1.take r.2).take r.2=f.2.1.take r.2
    rw[List.take_take,Nat.min_self]
   rw[this]
  ·have e:A'++f'::(G++[x])=(A'++f'::G)++[x]:=by simp
   rw[e] at k1
   have h2:=(List.append_inj' k1 rfl).2
   have h3:gL f r.2=x:=(List.cons.inj h2).1
   have:=k2 x (by simp)
   rw[← h3,hcf] at this
   simp only[bg,Option.some.injEq,Prod.mk.injEq] at this
   exact absurd this.2.2.1 (by simp)
theorem XX {n:Nat}(h:n≤maxLen):n≤9223372036854775807:=Nat.le_trans h (by decide)
theorem Bb {xs:List Int}(h:∀ y∈xs,(Lit.int .u8 y).wf=true):Qr xs:=by
 have hr:∀ y∈xs,0≤y∧y≤255:=fun y hy=>by
  have:=h y hy
  simp only[Lit.wf,Bool.and_eq_true,decide_eq_true_eq] at this
  exact this
 refine⟨xs.map Int.toNat,?_,fun c hc=>?_⟩
 ·unfold ints
  rw[List.map_map]
  conv=>lhs;rw[← List.map_id xs]
  exact List.map_congr_left fun x hx=>(toNat_cast (hr x hx).1).symm
 ·obtain⟨x,hx,rfl⟩:=List.mem_map.1 hc
  have:=hr x hx
  omega
theorem G8 {F:List FD}(h:∀ f∈F,Wf (.pair (.int .i64) (.pair (.row (.int .u8)) (.int .i64))) f):BM F:=fun f hf=>Bb (h f hf).2.1.2
end Go.Proofs.Zz
namespace Go.Proofs.YtjkplgcpgpicnaaGreat
open Go Go.Sy Go.RowKit Go.Proofs.Zz
set_option linter.unusedVariables false
set_option maxRecDepth 100000
theorem own:ownKnob Tryz.prog.godebug=none:=by kernel_rfl
theorem laidOut:laidOutB Tryz.prog=true:=by kernel_rfl
end Go.Proofs.YtjkplgcpgpicnaaGreat
