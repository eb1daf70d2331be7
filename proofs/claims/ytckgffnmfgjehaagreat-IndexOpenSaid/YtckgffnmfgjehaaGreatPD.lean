/- P18A, P18y, P18B, P18C, P18D, P18E, P18F, P18G, P18N, P18O, W18, W18b, Row18. -/
import Derived.Test.YtckgffnmfgjehaaGreatPC
import Derived.Test.YtckgffnmfgjehaaGreatFI
import Derived.Test.YtckgffnmfgjehaaGreatPU
import Derived.KernelRfl
import Derived.Test.YtckgffnmfgjehaaGreatFD
import Derived.Test.YtckgffnmfgjehaaGreatEQ
import Derived.Test.YtckgffnmfgjehaaGreatRows
import Derived.ProofKit
import Derived.JoinedOf
open Int renaming toNat_natCast → ae, fdiv → dk, toNat → dE
open Option renaming bind_some → al, bind → cd
open List renaming length_append → ap, length_singleton → ba, append_nil → bi, take → bj, drop → cn, filter_cons → da, take_length → db, length_take → dd, append_assoc → dj, eq_nil_of_length_eq_zero → dp, mem_singleton → dq, length_cons → dv, getElem_mem → dC, findIdx_lt_length → eh, take_left' → eI, mem_append → eJ, length_filter_le → eK
open Bool renaming and_self → aw, not_true → bm, and_eq_true → ee, not_false → eQ, false_and → fa, and_false → fb
open Go.IntKind renaming wrap → be
open Prod.mk renaming injEq → cf
open Option.some renaming injEq → dt
open Nat renaming zero_le → du, le_trans → fg
open Except renaming ok → fj
namespace Go.Proofs.Zz
open Go Go.Sy
set_option linter.unusedSimpArgs false
set_option linter.unusedVariables false
abbrev Oz (at':Int)(ns:List Nat)(e:ET)(acc:List ET):Kn:=
 (((),(),()),(((),(),(),(),(),(),(),()),(at',ints ns,e.1,e.2.1,e.2.2.1,e.2.2.2.1,e.2.2.2.2.1,e.2.2.2.2.2.1,e.2.2.2.2.2.2.1,e.2.2.2.2.2.2.2.1,e.2.2.2.2.2.2.2.2,false,()),()),acc,())
theorem mI (n:Nat)(l:List Nat):cn 1 (bj (ints (n::l)).length (ints (n::l)))=ints l:=by rw[db];rfl
theorem VU (n:Nat)(l:List Nat):rd (.int .i64) (ints (n::l)) 0=((n:Nat):Int):=rfl
theorem eT (n:Nat)(l:List Nat):(ints (n::l)).length=l.length+1:=by rw[aE];rfl
theorem fd (n k:Nat):dk (n:Int) (k:Int)=((n / k:Nat):Int):=by rw[Int.fdiv_eq_ediv_of_nonneg _ (by omega)];rfl
theorem Uo {n:Nat}(h:n≤1099511627776):aG .and .i64 (n:Int) 7=((n % 8:Nat):Int):=jS (a:=n) (m:=3) (by omega) (by omega)
theorem UQ {n:Nat}(h:n≤1099511627776):aG .and .i64 (n:Int) 3=((n % 4:Nat):Int):=jS (a:=n) (m:=2) (by omega) (by omega)
theorem adf (n:Nat):Int.tmod (n:Int) 16=((n % 16:Nat):Int):=by rw[Int.tmod_eq_emod_of_nonneg (by omega)];omega
theorem adC (n:Nat):Int.tdiv (n:Int) 16=((n / 16:Nat):Int):=by rw[Int.tdiv_eq_ediv_of_nonneg (by omega)];omega
theorem Tv (n:Nat)(l:List Nat)(at':Int)(e:ET)(acc:List ET)(hn:∀ x∈n::l,x≤1099511627776)(ha:fX at' 0 1073741824)(hacc:acc.length≤100000) :
  zM (Oz at' (n::l) e acc) =
   if 7≤n % 16 then some (.ret ((false,()),(),[],()))
   else match gv (n % 16) (at'+((n / 16:Nat):Int)) l with
    | none=>some (.ret ((false,()),(),[],()))
    | some (e',l')=>if eE e' then some (.next (Oz e'.2.1 l' e' (acc++[e']))) else some (.ret ((false,()),(),[],())):=by
 have hn0:=hn n (List.mem_cons_self ..)
 unfold fX at ha
 have wN:be .i64 (at'+be .i64 ((n / 16:Nat):Int))=at'+((n / 16:Nat):Int):=by rw[bY (x:=((n / 16:Nat):Int)) (by omega) (by omega),bY (by omega) (by omega)]
 have c0:decide ((0:Int)<((l.length+1:Nat):Int))=true:=decide_eq_true (by omega)
 have c1:decide (((l.length+1:Nat):Int)=0)=false:=decide_eq_false (by omega)
 have c2:decide ((1:Int)≤((l.length+1:Nat):Int))=true:=decide_eq_true (by omega)
 have c3:∀ k:Nat,decide (((k:Nat):Int)≤((k:Nat):Int))=true:=fun k=>decide_eq_true (Int.le_refl _)
 have cA:decide ((acc.length+1) * 72≤140737488355328)=true:=decide_eq_true (by omega)
 have cB:decide (acc.length+1≤9223372036854775807)=true:=decide_eq_true (by omega)
 simp only[zM,Vp,eT,ae,c0,c1,c2,c3,cond_true,cond_false,aw,VU,adf,adC,wN]
 have hd:cn 1 (bj (l.length+1) (ints (n::l)))=ints l:=by rw[← eT n l];exact mI n l
 simp only[hd]
 by_cases h7:7≤n % 16
 ·rw[if_pos h7,decide_eq_true (show (7:Int)≤((n % 16:Nat):Int) by omega)];rfl
 rw[if_neg h7,decide_eq_false (show ¬ (7:Int)≤((n % 16:Nat):Int) by omega)]
 simp only[cond_false]
 generalize hA:at'+((n / 16:Nat):Int)=A
 generalize hK:n % 16=K at h7
 have dK:∀ k:Nat,decide (((K:Nat):Int)=((k:Nat):Int))=decide (K=k):=fun k=>decide_eq_decide.2 (by omega)
 have d0:=dK 0
 have d1:=dK 1
 have d2:=dK 2
 have d3:=dK 3
 have d4:=dK 4
 have d5:=dK 5
 have d6:=dK 6
 have nilc:decide (((0:Nat):Int)=0)=true:=rfl
 rcases (show K=0∨K=1∨K=2∨K=3∨K=4∨K=5∨K=6 by omega) with rfl|rfl|rfl|rfl|rfl|rfl|rfl
 ·cases l with
  | nil=>rfl
  | cons n1 l1=>
   have h1:=hn n1 (by simp)
   have hd1:cn 1 (bj (l1.length+1) (ints (n1::l1)))=ints l1:=by rw[← eT n1 l1];exact mI n1 l1
   have g0:decide ((0:Int)<((l1.length+1:Nat):Int))=true:=decide_eq_true (by omega)
   have g1:decide (((l1.length+1:Nat):Int)=0)=false:=decide_eq_false (by omega)
   have g2:decide ((1:Int)≤((l1.length+1:Nat):Int))=true:=decide_eq_true (by omega)
   have f108:dk (n1:Int) 32=((n1 / 32:Nat):Int):=fd n1 32
   have f17:dk (n1:Int) 8=((n1 / 8:Nat):Int):=fd n1 8
   have h8:n1 / 8≤1099511627776:=by omega
   have hE:=mY ((((0:Nat):Int)),A,((n1 / 32:Nat):Int),((n1 / 8 % 4:Nat):Int),((n1 % 8:Nat):Int),0,0,0,false)
   have hT:gv 0 A (n1::l1)=some (((((0:Nat):Int)),A,((n1 / 32:Nat):Int),((n1 / 8 % 4:Nat):Int),((n1 % 8:Nat):Int),0,0,0,false),l1):=rfl
   simp only[hT,eT,show decide (((0:Nat):Int)=0)=true from rfl,ae,g0,g1,g2,c3,cond_true,cond_false,aw,VU,hd1,cA,cB,f108,f17,UQ h8,Uo h1]
   refine (congrArg (fun o=>cd o _) hE).trans ?_
   by_cases hm:eE ((((0:Nat):Int)),A,((n1 / 32:Nat):Int),((n1 / 8 % 4:Nat):Int),((n1 % 8:Nat):Int),0,0,0,false)
   ·rw[decide_eq_true hm,if_pos hm];rfl
   ·rw[decide_eq_false hm,if_neg hm];rfl
 ·cases l with
  | nil=>rfl
  | cons n1 l1=>
   have h1:=hn n1 (by simp)
   have hd1:cn 1 (bj (l1.length+1) (ints (n1::l1)))=ints l1:=by rw[← eT n1 l1];exact mI n1 l1
   have g0:decide ((0:Int)<((l1.length+1:Nat):Int))=true:=decide_eq_true (by omega)
   have g1:decide (((l1.length+1:Nat):Int)=0)=false:=decide_eq_false (by omega)
   have g2:decide ((1:Int)≤((l1.length+1:Nat):Int))=true:=decide_eq_true (by omega)
   have f108:dk (n1:Int) 32=((n1 / 32:Nat):Int):=fd n1 32
   have f17:dk (n1:Int) 8=((n1 / 8:Nat):Int):=fd n1 8
   have h8:n1 / 8≤1099511627776:=by omega
   have hE:=mY ((((1:Nat):Int)),A,((n1 / 32:Nat):Int),((n1 / 8 % 4:Nat):Int),((n1 % 8:Nat):Int),0,0,0,false)
   have hT:gv 1 A (n1::l1)=some (((((1:Nat):Int)),A,((n1 / 32:Nat):Int),((n1 / 8 % 4:Nat):Int),((n1 % 8:Nat):Int),0,0,0,false),l1):=rfl
   simp only[hT,eT,show decide (((1:Nat):Int)=0)=false from rfl,show decide (((1:Nat):Int)=1)=true from rfl,ae,g0,g1,g2,c3,cond_true,cond_false,aw,VU,hd1,cA,cB,f108,f17,UQ h8,Uo h1]
   refine (congrArg (fun o=>cd o _) hE).trans ?_
   by_cases hm:eE ((((1:Nat):Int)),A,((n1 / 32:Nat):Int),((n1 / 8 % 4:Nat):Int),((n1 % 8:Nat):Int),0,0,0,false)
   ·rw[decide_eq_true hm,if_pos hm];rfl
   ·rw[decide_eq_false hm,if_neg hm];rfl
 ·cases l with
  | nil=>rfl
  | cons n1 l1=>
   have h1:=hn n1 (by simp)
   have hd1:cn 1 (bj (l1.length+1) (ints (n1::l1)))=ints l1:=by rw[← eT n1 l1];exact mI n1 l1
   have g0:decide ((0:Int)<((l1.length+1:Nat):Int))=true:=decide_eq_true (by omega)
   have g1:decide (((l1.length+1:Nat):Int)=0)=false:=decide_eq_false (by omega)
   have g2:decide ((1:Int)≤((l1.length+1:Nat):Int))=true:=decide_eq_true (by omega)
   have f108:dk (n1:Int) 32=((n1 / 32:Nat):Int):=fd n1 32
   have f17:dk (n1:Int) 8=((n1 / 8:Nat):Int):=fd n1 8
   have h8:n1 / 8≤1099511627776:=by omega
   have hE:=mY ((((2:Nat):Int)),A,((n1 / 8:Nat):Int),((n1 % 8:Nat):Int),0,0,0,0,false)
   have hT:gv 2 A (n1::l1)=some (((((2:Nat):Int)),A,((n1 / 8:Nat):Int),((n1 % 8:Nat):Int),0,0,0,0,false),l1):=rfl
   simp only[hT,eT,show decide (((2:Nat):Int)=0)=false from rfl,show decide (((2:Nat):Int)=1)=false from rfl,show decide (((2:Nat):Int)=2)=true from rfl,ae,g0,g1,g2,c3,cond_true,cond_false,aw,VU,hd1,cA,cB,f17,Uo h1]
   refine (congrArg (fun o=>cd o _) hE).trans ?_
   by_cases hm:eE ((((2:Nat):Int)),A,((n1 / 8:Nat):Int),((n1 % 8:Nat):Int),0,0,0,0,false)
   ·rw[decide_eq_true hm,if_pos hm];rfl
   ·rw[decide_eq_false hm,if_neg hm];rfl
 ·cases l with
  | nil=>rfl
  | cons n1 l1=>
   have h1:=hn n1 (by simp)
   have hd1:cn 1 (bj (l1.length+1) (ints (n1::l1)))=ints l1:=by rw[← eT n1 l1];exact mI n1 l1
   have g0:decide ((0:Int)<((l1.length+1:Nat):Int))=true:=decide_eq_true (by omega)
   have g1:decide (((l1.length+1:Nat):Int)=0)=false:=decide_eq_false (by omega)
   have g2:decide ((1:Int)≤((l1.length+1:Nat):Int))=true:=decide_eq_true (by omega)
   have hE:=mY ((((3:Nat):Int)),A,(n1:Int),0,0,0,0,0,false)
   have hT:gv 3 A (n1::l1)=some (((((3:Nat):Int)),A,(n1:Int),0,0,0,0,0,false),l1):=rfl
   simp only[hT,eT,show decide (((3:Nat):Int)=0)=false from rfl,show decide (((3:Nat):Int)=1)=false from rfl,show decide (((3:Nat):Int)=2)=false from rfl,show decide (((3:Nat):Int)=3)=true from rfl,ae,g0,g1,g2,c3,cond_true,cond_false,aw,VU,hd1,cA,cB]
   refine (congrArg (fun o=>cd o _) hE).trans ?_
   by_cases hm:eE ((((3:Nat):Int)),A,(n1:Int),0,0,0,0,0,false)
   ·rw[decide_eq_true hm,if_pos hm];rfl
   ·rw[decide_eq_false hm,if_neg hm];rfl
 ·cases l with
  | nil=>rfl
  | cons n1 l1=>
   have h1:=hn n1 (by simp)
   have hd1:cn 1 (bj (l1.length+1) (ints (n1::l1)))=ints l1:=by rw[← eT n1 l1];exact mI n1 l1
   have g0:decide ((0:Int)<((l1.length+1:Nat):Int))=true:=decide_eq_true (by omega)
   have g1:decide (((l1.length+1:Nat):Int)=0)=false:=decide_eq_false (by omega)
   have g2:decide ((1:Int)≤((l1.length+1:Nat):Int))=true:=decide_eq_true (by omega)
   have f108:dk (n1:Int) 32=((n1 / 32:Nat):Int):=fd n1 32
   have f17:dk (n1:Int) 8=((n1 / 8:Nat):Int):=fd n1 8
   have h8:n1 / 8≤1099511627776:=by omega
   have hE:=mY ((((4:Nat):Int)),A,((n1 / 8:Nat):Int),((n1 % 8:Nat):Int),0,0,0,0,false)
   have hT:gv 4 A (n1::l1)=some (((((4:Nat):Int)),A,((n1 / 8:Nat):Int),((n1 % 8:Nat):Int),0,0,0,0,false),l1):=rfl
   simp only[hT,eT,show decide (((4:Nat):Int)=0)=false from rfl,show decide (((4:Nat):Int)=1)=false from rfl,show decide (((4:Nat):Int)=2)=false from rfl,show decide (((4:Nat):Int)=3)=false from rfl,show decide (((4:Nat):Int)=4)=true from rfl,ae,g0,g1,g2,c3,cond_true,cond_false,aw,VU,hd1,cA,cB,f17,Uo h1]
   refine (congrArg (fun o=>cd o _) hE).trans ?_
   by_cases hm:eE ((((4:Nat):Int)),A,((n1 / 8:Nat):Int),((n1 % 8:Nat):Int),0,0,0,0,false)
   ·rw[decide_eq_true hm,if_pos hm];rfl
   ·rw[decide_eq_false hm,if_neg hm];rfl
 ·cases l with
  | nil=>rfl
  | cons n1 l1=>
   have h1:=hn n1 (by simp)
   have hd1:cn 1 (bj (l1.length+1) (ints (n1::l1)))=ints l1:=by rw[← eT n1 l1];exact mI n1 l1
   have g0:decide ((0:Int)<((l1.length+1:Nat):Int))=true:=decide_eq_true (by omega)
   have g1:decide (((l1.length+1:Nat):Int)=0)=false:=decide_eq_false (by omega)
   have g2:decide ((1:Int)≤((l1.length+1:Nat):Int))=true:=decide_eq_true (by omega)
   have hE:=mY ((((5:Nat):Int)),A,(n1:Int),0,0,0,0,0,false)
   have hT:gv 5 A (n1::l1)=some (((((5:Nat):Int)),A,(n1:Int),0,0,0,0,0,false),l1):=rfl
   simp only[hT,eT,show decide (((5:Nat):Int)=0)=false from rfl,show decide (((5:Nat):Int)=1)=false from rfl,show decide (((5:Nat):Int)=2)=false from rfl,show decide (((5:Nat):Int)=3)=false from rfl,show decide (((5:Nat):Int)=4)=false from rfl,show decide (((5:Nat):Int)=5)=true from rfl,ae,g0,g1,g2,c3,cond_true,cond_false,aw,VU,hd1,cA,cB]
   refine (congrArg (fun o=>cd o _) hE).trans ?_
   by_cases hm:eE ((((5:Nat):Int)),A,(n1:Int),0,0,0,0,0,false)
   ·rw[decide_eq_true hm,if_pos hm];rfl
   ·rw[decide_eq_false hm,if_neg hm];rfl
 ·rcases l with _|⟨n1,_|⟨n2,_|⟨n3,_|⟨n4,l4⟩⟩⟩⟩
  ·rfl
  ·rfl
  ·rfl
  ·rfl
  ·have h4:=hn n4 (by simp)
   have hd1:cn 1 (bj ((n2::n3::n4::l4).length+1) (ints (n1::(n2::n3::n4::l4))))=ints (n2::n3::n4::l4):=by rw[← eT n1 (n2::n3::n4::l4)];exact mI n1 (n2::n3::n4::l4)
   have g1a:decide ((0:Int)<(((n2::n3::n4::l4).length+1:Nat):Int))=true:=decide_eq_true (by omega)
   have g1b:decide ((((n2::n3::n4::l4).length+1:Nat):Int)=0)=false:=decide_eq_false (by omega)
   have g1c:decide ((1:Int)≤(((n2::n3::n4::l4).length+1:Nat):Int))=true:=decide_eq_true (by omega)
   have hd2:cn 1 (bj ((n3::n4::l4).length+1) (ints (n2::(n3::n4::l4))))=ints (n3::n4::l4):=by rw[← eT n2 (n3::n4::l4)];exact mI n2 (n3::n4::l4)
   have g2a:decide ((0:Int)<(((n3::n4::l4).length+1:Nat):Int))=true:=decide_eq_true (by omega)
   have g2b:decide ((((n3::n4::l4).length+1:Nat):Int)=0)=false:=decide_eq_false (by omega)
   have g2c:decide ((1:Int)≤(((n3::n4::l4).length+1:Nat):Int))=true:=decide_eq_true (by omega)
   have hd3:cn 1 (bj ((n4::l4).length+1) (ints (n3::(n4::l4))))=ints (n4::l4):=by rw[← eT n3 (n4::l4)];exact mI n3 (n4::l4)
   have g3a:decide ((0:Int)<(((n4::l4).length+1:Nat):Int))=true:=decide_eq_true (by omega)
   have g3b:decide ((((n4::l4).length+1:Nat):Int)=0)=false:=decide_eq_false (by omega)
   have g3c:decide ((1:Int)≤(((n4::l4).length+1:Nat):Int))=true:=decide_eq_true (by omega)
   have hd4:cn 1 (bj (l4.length+1) (ints (n4::l4)))=ints l4:=by rw[← eT n4 l4];exact mI n4 l4
   have g4a:decide ((0:Int)<((l4.length+1:Nat):Int))=true:=decide_eq_true (by omega)
   have g4b:decide (((l4.length+1:Nat):Int)=0)=false:=decide_eq_false (by omega)
   have g4c:decide ((1:Int)≤((l4.length+1:Nat):Int))=true:=decide_eq_true (by omega)
   have hP:decide (((n4:Nat):Int)=1)=decide (n4=1):=decide_eq_decide.2 (by omega)
   have hE:=mY ((((6:Nat):Int)),A,0,0,0,(n1:Int),(n2:Int),(n3:Int),decide (n4=1))
   have hT:gv 6 A (n1::n2::n3::n4::l4)=if n4≤1 then some (((((6:Nat):Int)),A,0,0,0,(n1:Int),(n2:Int),(n3:Int),decide (n4=1)),l4) else none:=rfl
   simp only[hT,eT,show decide (((6:Nat):Int)=0)=false from rfl,show decide (((6:Nat):Int)=1)=false from rfl,show decide (((6:Nat):Int)=2)=false from rfl,show decide (((6:Nat):Int)=3)=false from rfl,show decide (((6:Nat):Int)=4)=false from rfl,show decide (((6:Nat):Int)=5)=false from rfl,show decide (((6:Nat):Int)=6)=true from rfl,ae,c3,cond_true,cond_false,aw,VU,hd1,hd2,hd3,hd4,g1a,g1b,g1c,g2a,g2b,g2c,g3a,g3b,g3c,g4a,g4b,g4c,cA,cB,hP]
   by_cases hp:n4≤1
   ·rw[if_pos hp,decide_eq_false (show ¬ (1:Int)<((n4:Nat):Int) by omega)]
    simp only[cond_false]
    refine (congrArg (fun o=>cd o _) hE).trans ?_
    by_cases hm:eE ((((6:Nat):Int)),A,0,0,0,(n1:Int),(n2:Int),(n3:Int),decide (n4=1))
    ·rw[decide_eq_true hm,if_pos hm];rfl
    ·rw[decide_eq_false hm,if_neg hm];rfl
   ·rw[if_neg hp,decide_eq_true (show (1:Int)<((n4:Nat):Int) by omega)];rfl
theorem SQ:∀ (f:Nat) (ns:List Nat) (at':Int) (e:ET) (acc:List ET),ns.length≤f→(∀ x∈ns,x≤1099511627776)→fX at' 0 1073741824→acc.length+ns.length≤1000 →
  iter (f+1) zM (Oz at' ns e acc)=some (match Jx f at' ns with
   | some l=>.inl ((),(),acc++l,())
   | none=>.inr ((false,()),(),[],())):=by
 intro f
 induction f with
 | zero=>
  intro ns at' e acc hl hn ha hacc
  have:ns=[]:=dp (by omega)
  subst this
  rw[bW (y:=((),(),acc,()))]
  ·simp[Jx]
  ·rfl
 | succ f ih=>
  intro ns at' e acc hl hn ha hacc
  cases ns with
  | nil=>
   rw[bW (y:=((),(),acc,()))]
   ·simp[Jx]
   ·rfl
  | cons n l=>
   rw[dv] at hl hacc
   have step:=Tv n l at' e acc hn ha (by omega)
   unfold Jx
   by_cases h7:7≤n % 16
   ·rw[if_pos h7] at step ⊢
    rw[fQ step]
   rw[if_neg h7] at step ⊢
   cases ht:gv (n % 16) (at'+((n / 16:Nat):Int)) l with
   | none=>rw[ht] at step;rw[fQ step]
   | some q=>
    obtain⟨e',l'⟩:=q
    rw[ht] at step
    simp only at step ⊢
    by_cases hm:eE e'
    ·rw[if_pos hm] at step ⊢
     obtain⟨s1,s2,s3⟩:=zo ht
     obtain⟨p,hp⟩:=K0 ht
     rw[bH step,ih l' e'.2.1 e' (acc++[e']) (by omega) (fun x hx=>hn x (by rw[hp];exact List.mem_cons_of_mem _ (List.mem_append_right _ hx))) hm.1 (by rw[ap,ba];omega)]
     cases Jx f e'.2.1 l' with
     | none=>rfl
     | some r=>simp only[Option.map_some,dj];rfl
    ·rw[if_neg hm] at step ⊢
     rw[fQ step]
theorem Yh (at':Int)(b:List Nat)(hb:∀ c∈b,c<256)(hl:b.length≤1000000000):f93 at' (ints b)=some (match om at' b with
  | some l=>(l,true,())
  | none=>([],false,())):=by
 unfold f93 om
 rw[uU b hb hl,O0]
 cases hv:uJ 400 b with
 | none=>
  by_cases hr:fX at' 0 1073741824
  ·rw[if_pos hr];rfl
  ·rw[if_neg hr];rfl
 | some ns=>
  obtain⟨h1,h2,_⟩:=oG 400 b ns hb hv
  simp only[al,bm,cond_false]
  by_cases hr:fX at' 0 1073741824
  ·rw[if_pos hr,decide_eq_true hr]
   have k:=fZ (show ns.length+1≤az by unfold az;omega) (SQ ns.length ns at' (0,0,0,0,0,0,0,0,false) [] (Nat.le_refl _) h2 hr (by simp;omega))
   simp only[bm,cond_false]
   have k:iter az zM (((),(),()),(((),(),(),(),(),(),(),()),(at',ints ns,0,0,0,0,0,0,0,0,false,false,()),()),[],())=_:=k
   rw[k]
   cases Jx ns.length at' ns with
   | none=>rfl
   | some l=>rfl
  ·rw[if_neg hr,decide_eq_false hr];rfl
theorem cx {α:Type}{c:Bool}{a b:α}(h:c=true):cond c a b=a:=by rw[h];rfl
theorem cv {α:Type}{c:Bool}{a b:α}(h:c=false):cond c a b=b:=by rw[h];rfl
theorem Nr {α:Type}(r A B C:List α):bj r.length (bj r.length (r++A)++B++C)=r:=by
 rw[eI rfl,dj,eI rfl]
def ZV (d:List Int):Prop:=∃ b:List Nat,d=ints b∧∀ c∈b,c<256
def IC (F:List FD):Prop:=∀ f∈F,ZV f.2.1
def XM (F:List FD):Prop:=(∀ f∈F,f.2.1.length≤3000)∧F.length≤14
theorem XM.sz {F:List FD}(h:XM F):My F:=⟨by have:=h.2;omega,fun f hf=>by have:=h.1 f hf;omega⟩
theorem Zc (c:Int)(F:List FD)(hl:F.length≤9223372036854775807):∃ q:Bool,f17 c F=some (q,())∧(q=true→XM F):=by
 have key:∀ (r:List FD) (j:Nat),F.drop j=r→(∀ f∈F.take j,f.2.1.length≤3000) →
   iter (r.length+1) xL (((),((j:Nat):Int),()),((c,F,()),()),())=some (if ∀ f∈F,f.2.1.length≤3000 then .inl (((),()),((c,F,()),()),()) else .inr ((false,()),(),())):=by
  intro r
  induction r with
  | nil=>
   intro j hj hp
   have hjl:F.length≤j:=List.drop_eq_nil_iff.1 hj
   rw[List.take_of_length_le hjl] at hp
   rw[if_pos hp]
   refine bW ?_
   simp only[xL,OG]
   rw[decide_eq_false (by omega)];rfl
  | cons f r ih=>
   intro j hj hp
   have hjl:j<F.length:=by
    rcases Nat.lt_or_ge j F.length with h|h
    ·exact h
    ·rw[List.drop_eq_nil_of_le h] at hj;cases hj
   have hc:=List.getElem_cons_drop hjl
   rw[hj] at hc
   obtain⟨hf,hr⟩:=List.cons.inj hc
   have step:xL (((),((j:Nat):Int),()),((c,F,()),()),())=some (cond (decide (f.2.1.length≤3000)) (.next (((),((j+1:Nat):Int),()),((c,F,()),()),())) (.ret ((false,()),(),()))):=by
    simp only[xL,OG,gp hjl,eL,aw,cond_true,ae,uq hjl,hf,nx hjl (show F.length≤9223372036854775807 by omega)]
    by_cases hq:f.2.1.length≤3000
    ·rw[decide_eq_true hq,decide_eq_false (by omega)];rfl
    ·rw[decide_eq_false hq,decide_eq_true (by omega)];rfl
   rw[dv]
   by_cases hq:f.2.1.length≤3000
   ·rw[decide_eq_true hq] at step
    rw[bH step]
    refine ih (j+1) hr fun g hg=>?_
    rw[List.take_succ_eq_append_getElem hjl] at hg
    rcases eJ.1 hg with hg|hg
    ·exact hp g hg
    ·rw[dq.1 hg,hf];exact hq
   ·rw[decide_eq_false hq] at step
    rw[fQ step,if_neg (fun h=>hq (by rw[← hf];exact h _ (dC hjl)))]
 have k:=fZ (show F.length+1≤az by unfold az;omega) (key F 0 rfl (by simp))
 have k:iter az xL (((),0,()),((c,F,()),()),())=_:=k
 unfold f17
 rw[k]
 by_cases h:∀ f∈F,f.2.1.length≤3000
 ·rw[if_pos h]
  refine⟨decide (((F.length:Nat):Int)≤14),rfl,fun hq=>⟨h,?_⟩⟩
  have:=of_decide_eq_true hq;omega
 ·rw[if_neg h]
  exact⟨false,rfl,fun h=>by cases h⟩
abbrev MF:Type:=Int×Int×Int×Int×Int×Int×Int×Int×Int×Int×Int×Bool×Int×List HT×List LT×List HT×Int×Int×Unit
abbrev sOf (q:MF):ST:=(((q.1,q.2.1),(q.2.2.1,q.2.2.2.1),q.2.2.2.2.1,q.2.2.2.2.2.1,q.2.2.2.2.2.2.1,q.2.2.2.2.2.2.2.1),(q.2.2.2.2.2.2.2.2.1,q.2.2.2.2.2.2.2.2.2.1,q.2.2.2.2.2.2.2.2.2.2.1,q.2.2.2.2.2.2.2.2.2.2.2.1),q.2.2.2.2.2.2.2.2.2.2.2.2.1,q.2.2.2.2.2.2.2.2.2.2.2.2.2.1,q.2.2.2.2.2.2.2.2.2.2.2.2.2.2.1,q.2.2.2.2.2.2.2.2.2.2.2.2.2.2.2.1)
structure Ya (q:MF)(m:ST×Nat):Prop where
 s:sOf q=m.1
 a:q.2.2.2.2.2.2.2.2.2.2.2.2.2.2.2.2.1=m.1.2.2.1
 e:q.2.2.2.2.2.2.2.2.2.2.2.2.2.2.2.2.2.1=(m.2:Int)
structure P25 (b:List Nat)(z:eg)(m:ST×Nat)(l:List ET):Prop where
 b:z.2.1.2.2.2.2.1.1=ints b
 r:Ya z.2.1.2.2.1 m
 s:Ya z.2.1.2.2.2.2.2.2.2.1 m
 o:z.2.2.2.2.2.1=l
theorem Ss {s t:ST}{l:List ET}(h:dV s l=(t,0)):t.2.2.1=(l.getLast?).elim s.2.2.1 (·.2.1):=by
 have hg:mU s l=(t,0):=by rw[← xG s l (by rw[h]),h]
 clear h
 induction l generalizing s with
 | nil=>simp only[mU,cf] at hg;rw[← hg.1];rfl
 | cons e r ih=>
  rw[mU] at hg
  by_cases he:(bp s e).2=0
  ·rw[if_pos he] at hg
   have k:=ih hg
   have hm:=nL he
   have hn:(bp s e).1.2.2.1=e.2.1:=(Ig hm.2.2.2.2).2
   rw[k,hn]
   cases r with
   | nil=>rfl
   | cons x r=>simp[List.getLast?_cons_cons,List.getLast?_cons]
  ·rw[if_neg he] at hg
   simp only[cf] at hg
   exact absurd hg.2 he
theorem Dj {s t:ST}{l:List ET}(h:dV s l=(t,0))(hM:bS s):bS t:=by
 have hg:mU s l=(t,0):=by rw[← xG s l (by rw[h]),h]
 clear h
 induction l generalizing s with
 | nil=>simp only[mU,cf] at hg;rw[← hg.1];exact hM
 | cons e r ih=>
  rw[mU] at hg
  by_cases he:(bp s e).2=0
  ·rw[if_pos he] at hg
   exact ih (nL he).2.2.2.1 hg
  ·rw[if_neg he] at hg
   simp only[cf] at hg
   exact absurd hg.2 he
def Q25 (y:j7)(m:ST×Nat)(l:List ET):Prop:=Ya y.2.1.2.2.1 m∧y.2.2.2.2.2.1=l
theorem Xy (z:eg)(b:List Nat)(hb:∀ c∈b,c<256)(hl:b.length≤1000000)(m:ST×Nat)(l:List ET)(hP:P25 b z m l)(hM:bS m.1)(hk:m.2≤b.length)(hll:l.length≤400 * m.2) :
  (dO cN b m=none→∃ y,dz z=some (.ret y)∧Q25 y m l) ∧
  (∀ m' l',dO cN b m=some (m',l')→∃ z',dz z=some (.next z')∧P25 b z' m' (l++l')):=by
 have e40:f70 z.2.1.2.2.2.2.1.1 z.2.1.2.2.2.2.2.2.2.1.2.2.2.2.2.2.2.2.2.2.2.2.2.2.2.2.2.1=some (sP m.2 (jc cN (b.drop m.2))):=by rw[hP.b,hP.s.e];exact Pj b hb hl m.2 hk
 have e17:∀ l':List ET,l'.length≤9223372036854775807→f94 z.2.1.2.2.2.2.2.2.2.1.1 z.2.1.2.2.2.2.2.2.2.1.2.1 z.2.1.2.2.2.2.2.2.2.1.2.2.1 z.2.1.2.2.2.2.2.2.2.1.2.2.2.1 z.2.1.2.2.2.2.2.2.2.1.2.2.2.2.1 z.2.1.2.2.2.2.2.2.2.1.2.2.2.2.2.1 z.2.1.2.2.2.2.2.2.2.1.2.2.2.2.2.2.1 z.2.1.2.2.2.2.2.2.2.1.2.2.2.2.2.2.2.1 z.2.1.2.2.2.2.2.2.2.1.2.2.2.2.2.2.2.2.1 z.2.1.2.2.2.2.2.2.2.1.2.2.2.2.2.2.2.2.2.1 z.2.1.2.2.2.2.2.2.2.1.2.2.2.2.2.2.2.2.2.2.1 z.2.1.2.2.2.2.2.2.2.1.2.2.2.2.2.2.2.2.2.2.2.1 z.2.1.2.2.2.2.2.2.2.1.2.2.2.2.2.2.2.2.2.2.2.2.1 z.2.1.2.2.2.2.2.2.2.1.2.2.2.2.2.2.2.2.2.2.2.2.2.1 z.2.1.2.2.2.2.2.2.2.1.2.2.2.2.2.2.2.2.2.2.2.2.2.2.1 z.2.1.2.2.2.2.2.2.2.1.2.2.2.2.2.2.2.2.2.2.2.2.2.2.2.1 l'=some ((dV m.1 l').1,(dV m.1 l').2,()):=fun l' h'=>
  (Yr (sOf z.2.1.2.2.2.2.2.2.2.1) l' (by rw[hP.s.s];exact hM.sm9) h').trans (by rw[hP.s.s])
 unfold dz xA
 rw[e40]
 simp only[al]
 have hd:∀ c∈b.drop m.2,c<256:=fun c hc=>hb c (List.mem_of_mem_drop hc)
 have hQ:∀ y:j7,y.2.1.2.2.1=z.2.1.2.2.1→y.2.2.2.2.2.1=z.2.2.2.2.2.1→Q25 y m l:=fun y h1 h2=>⟨by rw[h1];exact hP.r,by rw[h2];exact hP.o⟩
 cases hg:jc cN (b.drop m.2) with
 | error e=>
  have hs:dO cN b m=none:=by unfold dO;rw[hg]
  refine⟨fun _=>?_,fun m' l' h=>by rw[hs] at h;cases h⟩
  have he:e≠0:=by
   rcases lF cN (b.drop m.2) with⟨e',he,h⟩|⟨c,r,n',k',_,ho,hv,h1,h2,h3,h4⟩
   ·rw[he] at hg;cases hg;exact h
   ·rw[h4] at hg;cases hg
  have c9:(!(decide ((sP m.2 (Except.error e)).2.2.1=0)))=true:=by
   show (!(decide (((e:Nat):Int)=0)))=true
   rw[decide_eq_false (show ¬ ((e:Nat):Int)=0 by omega)];rfl
  refine⟨_,cx c9,?_⟩
  exact hQ _ rfl rfl
 | ok x=>
  obtain⟨kd,body,n⟩:=x
  obtain⟨g1,g2,g3,g4⟩:=CI hd hg
  rw[List.length_drop] at g3
  have c0:(!(decide ((sP m.2 (fj (kd,body,n))).2.2.1=0)))=false:=rfl
  by_cases hkd:kd=2
  case neg=>
   have hs:dO cN b m=none:=by unfold dO;rw[hg];simp only[if_neg hkd]
   refine⟨fun _=>?_,fun m' l' h=>by rw[hs] at h;cases h⟩
   have c9:(!(decide ((sP m.2 (fj (kd,body,n))).1.1=2)))=true:=by
    show (!(decide (((kd:Nat):Int)=2)))=true
    rw[decide_eq_false (show ¬ ((kd:Nat):Int)=2 by omega)];rfl
   rw[cv c0]
   refine⟨_,cx c9,?_⟩
   exact hQ _ rfl rfl
  case pos=>
   subst hkd
   have c1:(!(decide ((sP m.2 (fj (2,body,n))).1.1=2)))=false:=rfl
   have e111:f93 z.2.1.2.2.2.2.2.2.2.1.2.2.2.2.2.2.2.2.2.2.2.2.2.2.2.2.1 (ints body)=some (match om m.1.2.2.1 body with
     | some l=>(l,true,())
     | none=>([],false,())):=by rw[hP.s.a];exact Yh _ body g1 (by omega)
   have e111':f93 z.2.1.2.2.2.2.2.2.2.1.2.2.2.2.2.2.2.2.2.2.2.2.2.2.2.2.1 (sP m.2 (fj (2,body,n))).1.2=_:=e111
   cases hr:om m.1.2.2.1 body with
   | none=>
    have hs:dO cN b m=none:=by unfold dO;rw[hg];simp only[if_true,hr]
    refine⟨fun _=>?_,fun m' l' h=>by rw[hs] at h;cases h⟩
    rw[hr] at e111'
    rw[cv c0,cv c1,e111']
    simp only[al]
    rw[e17 [] (by simp)]
    simp only[al,eQ,cond_true]
    refine⟨_,rfl,?_⟩
    exact hQ _ rfl rfl
   | some l2=>
    rw[hr] at e111'
    obtain⟨r1,r2,r3⟩:=wh g1 hr
    by_cases ha:(dV m.1 l2).2=0
    case neg=>
     have hs:dO cN b m=none:=by unfold dO;rw[hg];simp only[if_true,hr,if_neg ha]
     refine⟨fun _=>?_,fun m' l' h=>by rw[hs] at h;cases h⟩
     have c9:(!(decide ((dV m.1 l2).2=0)))=true:=by rw[decide_eq_false ha];rfl
     rw[cv c0,cv c1,e111']
     simp only[al]
     rw[e17 l2 (by omega)]
     simp only[al,bm,cond_false]
     rw[cx c9]
     refine⟨_,rfl,?_⟩
     exact hQ _ rfl rfl
    case pos=>
     have hs:dO cN b m=some (((dV m.1 l2).1,m.2+n),l2):=by unfold dO;rw[hg];simp only[if_true,hr,if_pos ha]
     refine⟨fun h=>by rw[hs] at h;(cases h),fun m' l' h=>?_⟩
     rw[hs] at h
     simp only[dt,cf] at h
     obtain⟨rfl,rfl⟩:=h
     have hat:=Ss (s:=m.1) (t:=(dV m.1 l2).1) (l:=l2) (by rw[← ha])
     have ho:(z.2.2.2.2.2.1).length≤400 * m.2:=by rw[hP.o];exact hll
     have cX:((decide (((z.2.2.2.2.2.1).length+l2.length) * 72≤140737488355328))&&(decide (((z.2.2.2.2.2.1).length+l2.length)≤9223372036854775807)))=true:=by
      rw[decide_eq_true (by omega),decide_eq_true (by omega)];rfl
     rcases SC l2 with rfl|⟨K,e,rfl⟩
     ·have c9:(!(decide ((dV m.1 []).2=0)))=false:=by rw[decide_eq_true ha];rfl
      have c8:decide (0<((([]:List ET).length:Nat):Int))=false:=rfl
      rw[cv c0,cv c1,e111']
      simp only[al]
      rw[e17 [] (by simp)]
      simp only[al,bm,cond_false]
      rw[cv c9,cv c8,cx cX]
      refine⟨_,rfl,?_⟩
      refine⟨hP.b,⟨rfl,?_,rfl⟩,⟨rfl,?_,rfl⟩,?_⟩
      ·rw[hat];exact hP.s.a
      ·rw[hat];exact hP.s.a
      ·show z.2.2.2.2.2.1++[]=l++[];rw[hP.o]
     ·have hlt:K.length<(K++[e]).length:=by simp
      have ew:be .i64 ((((K++[e]).length:Nat):Int)-1)=(K.length:Int):=by rw[ap,ba] at *;rw[bY (by omega) (by omega)];omega
      have hge:(K++[e])[K.length]'hlt=e:=by rw[List.getElem_append_right (Nat.le_refl _)];simp
      have c5:decide (0<(((K++[e]).length:Nat):Int))=true:=decide_eq_true (by omega)
      have c6:((decide (0≤(be .i64 ((((K++[e]).length:Nat):Int)-1))))&&(decide ((be .i64 ((((K++[e]).length:Nat):Int)-1))<(((K++[e]).length:Nat):Int))))=true:=by
       rw[ew,eL,gp hlt];rfl
      have hat2:(rd (.pair (.int .i64) (.pair (.int .i64) (.pair (.int .i64) (.pair (.int .i64) (.pair (.int .i64) (.pair (.int .i64) (.pair (.int .i64) (.pair (.int .i64) .bool)))))))) (K++[e]) (dE (be .i64 ((((K++[e]).length:Nat):Int)-1)))).2.1=(dV m.1 (K++[e])).1.2.2.1:=by
       rw[hat,ew,ae,rdE hlt,hge,List.getLast?_append];rfl
      have c9:(!(decide ((dV m.1 (K++[e])).2=0)))=false:=by rw[decide_eq_true ha];rfl
      rw[cv c0,cv c1,e111']
      simp only[al]
      rw[e17 (K++[e]) (by omega)]
      simp only[al,bm,cond_false]
      rw[cv c9,cx c5,cx c6,cx cX]
      refine⟨_,rfl,?_⟩
      refine⟨hP.b,⟨rfl,hat2,rfl⟩,⟨rfl,hat2,rfl⟩,?_⟩
      show z.2.2.2.2.2.1++(K++[e])=l++(K++[e]);rw[hP.o]
theorem W7 (b:List Nat)(hb:∀ c∈b,c<256)(hl:b.length≤1000000)(s:ST)(n:Nat)(hM:bS s)(hn:n≤b.length)(z0:eg)(hP:P25 b z0 (s,n) []) :
  ∃ y m l,iter az dz z0=some (.inr y)∧Q25 y m l∧Reads cN b (s,n) m l:=by
 have key:=jZ (f:=dz)
  (fun z=>∃ m l,P25 b z m l∧bS m.1∧m.2≤b.length∧l.length≤400 * m.2∧∀ r l',Reads cN b m r l'→Reads cN b (s,n) r (l++l'))
  (fun z=>(((b.length:Nat):Int)-z.2.1.2.2.2.2.2.2.2.1.2.2.2.2.2.2.2.2.2.2.2.2.2.2.2.2.2.1).toNat)
  (fun r=>∃ y m l,r = .inr y∧Q25 y m l∧Reads cN b (s,n) m l)
  ?_ az z0 ⟨(s,n),[],hP,hM,hn,by simp,fun r l' h=>h⟩ (by
   have he:z0.2.1.2.2.2.2.2.2.2.1.2.2.2.2.2.2.2.2.2.2.2.2.2.2.2.2.2.1=((n:Nat):Int):=hP.s.e
   show (((b.length:Nat):Int)-z0.2.1.2.2.2.2.2.2.2.1.2.2.2.2.2.2.2.2.2.2.2.2.2.2.2.2.2.1).toNat<az
   rw[he];unfold az;omega)
 ·obtain⟨r,h1,y,m,l,rfl,h2,h3⟩:=key
  exact⟨y,m,l,h1,h2,h3⟩
 ·rintro z ⟨m,l,h1,h2,h3,h4,h5⟩
  obtain⟨s1,s2⟩:=Xy z b hb hl m l h1 h2 h3 h4
  cases hs:dO cN b m with
  | none=>
   obtain⟨y,e1,e2⟩:=s1 hs
   refine .inr (.inr ⟨y,e1,y,m,l,rfl,e2,?_⟩)
   have:=h5 m [] (.stop hs)
   rwa [bi] at this
  | some q=>
   obtain⟨m',l'⟩:=q
   obtain⟨z',e1,e2⟩:=s2 m' l' hs
   have hlt:=nA cN vO hb hs
   obtain⟨body,k,g1,g2,g3,g4⟩:=ij cN hs
   refine .inl ⟨z',e1,⟨m',l++l',e2,Dj g3 h2,hlt.2.1,by rw[ap];omega,fun r l2 hr=>?_⟩,?_⟩
   ·have:=h5 r (l'++l2) (.step hs hr)
    rwa [← dj] at this
   ·have a1:z.2.1.2.2.2.2.2.2.2.1.2.2.2.2.2.2.2.2.2.2.2.2.2.2.2.2.2.1=((m.2:Nat):Int):=h1.s.e
    have a2:z'.2.1.2.2.2.2.2.2.2.1.2.2.2.2.2.2.2.2.2.2.2.2.2.2.2.2.2.1=((m'.2:Nat):Int):=e2.s.e
    show (((b.length:Nat):Int)-z'.2.1.2.2.2.2.2.2.2.1.2.2.2.2.2.2.2.2.2.2.2.2.2.2.2.2.2.1).toNat<(((b.length:Nat):Int)-z.2.1.2.2.2.2.2.2.2.1.2.2.2.2.2.2.2.2.2.2.2.2.2.2.2.2.2.1).toNat
    rw[a1,a2];omega
theorem ZT (b:List Nat)(hb:∀ c∈b,c<256)(hl:b.length≤1000000)(s:ST)(n:Nat)(hM:bS s)(hn:n≤b.length)(z0:eg)(hP:P25 b z0 (s,n) []) :
  ∃ (t:ST) (k:Nat) (l:List ET),Reads cN b (s,n) (t,k) l∧((iter az dz z0).bind fun r=>match r with
   | .inl _=>none
   | .inr z4=>some (((((z4.2.1.2.2.1.1,z4.2.1.2.2.1.2.1),(z4.2.1.2.2.1.2.2.1,z4.2.1.2.2.1.2.2.2.1),z4.2.1.2.2.1.2.2.2.2.1,z4.2.1.2.2.1.2.2.2.2.2.1,z4.2.1.2.2.1.2.2.2.2.2.2.1,z4.2.1.2.2.1.2.2.2.2.2.2.2.1),(z4.2.1.2.2.1.2.2.2.2.2.2.2.2.1,z4.2.1.2.2.1.2.2.2.2.2.2.2.2.2.1,z4.2.1.2.2.1.2.2.2.2.2.2.2.2.2.2.1,z4.2.1.2.2.1.2.2.2.2.2.2.2.2.2.2.2.1),z4.2.1.2.2.1.2.2.2.2.2.2.2.2.2.2.2.2.1,z4.2.1.2.2.1.2.2.2.2.2.2.2.2.2.2.2.2.2.1,z4.2.1.2.2.1.2.2.2.2.2.2.2.2.2.2.2.2.2.2.1,z4.2.1.2.2.1.2.2.2.2.2.2.2.2.2.2.2.2.2.2.2.1),z4.2.1.2.2.1.2.2.2.2.2.2.2.2.2.2.2.2.2.2.2.2.1,z4.2.1.2.2.1.2.2.2.2.2.2.2.2.2.2.2.2.2.2.2.2.2.1),z4.2.2.2.2.2.1,true,()))=some (((t,t.2.2.1,(k:Int)),l,true,())):=by
 obtain⟨y,m,l,h1,h2,h3⟩:=W7 b hb hl s n hM hn z0 hP
 refine⟨m.1,m.2,l,h3,?_⟩
 rw[h1]
 obtain⟨⟨q1,q2,q3⟩,q4⟩:=h2
 show some (((sOf y.2.1.2.2.1,y.2.1.2.2.1.2.2.2.2.2.2.2.2.2.2.2.2.2.2.2.2.1,y.2.1.2.2.1.2.2.2.2.2.2.2.2.2.2.2.2.2.2.2.2.2.1),y.2.2.2.2.2.1,true,()))=_
 rw[q1,q2,q3,q4]
theorem Nh (b:List Nat)(hb:∀ c∈b,c<256)(hl:b.length≤1000000)(h:gS b=none):f36 (ints b)=some (((tZ,0,0),[],false,())):=by
 unfold f36
 rw[CH b hb hl,h];rfl
theorem Qs (b:List Nat)(hb:∀ c∈b,c<256)(hl:b.length≤1000000){s:ST}{n:Nat}(h:gS b=some (s,n)) :
  ∃ (t:ST) (k:Nat) (l:List ET),Reads cN b (s,n) (t,k) l∧f36 (ints b)=some (((t,t.2.2.1,(k:Int)),l,true,())):=by
 obtain⟨hM,_,hn⟩:=ig hb h
 unfold f36
 rw[CH b hb hl,h]
 exact ZT b hb hl s n hM hn _ ⟨rfl,⟨rfl,rfl,rfl⟩,⟨rfl,rfl,rfl⟩,rfl⟩
set_option maxRecDepth 100000
theorem aaO:f8=some (true,()):=by kernel_rfl
inductive N1 (b:List Nat):Option ((ST×Nat)×List ET)→Prop
 | bad:gS b=none→N1 b none
 | good {s n r l}:gS b=some (s,n)→Reads cN b (s,n) r l→N1 b (some (r,l))
def bN:Option ((ST×Nat)×List ET)→((ST×Int×Int)×List ET×Bool×Unit)
 | none=>((tZ,0,0),[],false,())
 | some y=>((y.1.1,y.1.1.2.2.1,((y.1.2:Nat):Int)),y.2,true,())
theorem xu (b:List Nat)(hb:∀ c∈b,c<256)(hl:b.length≤1000000):∃ o,N1 b o∧f36 (ints b)=some (bN o):=by
 cases h:gS b with
 | none=>exact⟨none,.bad h,Nh b hb hl h⟩
 | some y=>
  obtain⟨s,n⟩:=y
  obtain⟨t,k,l,h1,h2⟩:=Qs b hb hl h
  exact⟨some ((t,k),l),.good h h1,h2⟩
theorem YB {b:List Int}{o}(h:f36 b=some (bN o)):f41 b=some ((bN o).2.1,()):=by unfold f41;rw[h];rfl
theorem Pe {b:List Int}{r:ST×Nat}{l:List ET}(h:f36 b=some (bN (some (r,l)))):f41 b=some (l,()):=YB h
theorem Qu {b:List Nat}{m r:ST×Nat}{l:List ET}(h:Reads cN b m r l):mU m.1 l=(r.1,0):=by
 induction h with
 | stop _=>rfl
 | step h1 _ ih=>
  obtain⟨body,n,g1,g2,g3,g4⟩:=ij cN h1
  have hg:=(xG _ _ (by rw[g3])).symm.trans g3
  rw[yj,hg,if_pos rfl];exact ih
theorem LS {b:List Nat}{m r:ST×Nat}{l:List ET}(h:Reads cN b m r l)(hM:bS m.1):bS r.1:=by
 induction h with
 | stop _=>exact hM
 | step h1 _ ih=>
  obtain⟨body,n,g1,g2,g3,g4⟩:=ij cN h1
  exact ih (Dj g3 hM)
theorem yL {c:Int}{F:List FD}{x:FD}(h:gA c (F++[x])=true):gA c F=true:=by
  have hF:=Cu h
  have hi:=zy hF.1
  have hu:=hF.2.2.2.2
  have hl:=hF.2.2.2.1
  rw[ap,ba] at hl
  rw[GV] at hu
  unfold gA
  rw[hi.1,decide_eq_true hF.2.1,decide_eq_true hF.2.2.1,decide_eq_true (show F.length≤12 by omega),decide_eq_true (by omega)];rfl
theorem KW (c:Int)(F:List FD)(x:FD)(h:gA c (F++[x])=true):f37 c (F++[x]) x.1=some ((c,F),0,()):=by
  have hS:=nT h
  have hl:=hS.1
  rw[ap,ba] at hl
  have h56:f96 c (F++[x]) x.1=some ((F.length:Int),()):=by
    have k:=PU c (F++[x]) h (i:=F.length) (by simp)
    rw[ny] at k;exact k
  unfold f37
  rw[pK c _ hS,h,h56,Rm c _ hS]
  have e1:be .i64 ((F.length:Int)+1)=((F.length+1:Nat):Int):=by rw[bY (by omega) (by omega)];omega
  have hlen:(F++[x]).length=F.length+1:=by simp
  have s1:cn (0+(F.length+1)) (bj (0+(F.length+1)) (F++[x]))=[]:=by
    rw[List.drop_eq_nil_iff,dd];omega
  have s2:bj (0+F.length) (F++[x])=F:=by rw[Nat.zero_add,eI rfl]
  simp only[al,bm,cond_false,decide_eq_false (show ¬ ((F.length:Nat):Int) = -1 by omega),e1,hlen,eL,decide_eq_true (show ((F.length:Nat):Int)≤((F.length+1:Nat):Int) by omega),decide_eq_true (Int.le_refl ((F.length+1:Nat):Int)),decide_eq_true (show (0:Int)+((F.length+1:Nat):Int)≤((F.length+1:Nat):Int) by omega),aw,cond_true,
    decide_eq_false (show ¬ ((F.length:Nat):Int)=((F.length+1:Nat):Int) by omega),decide_eq_true (show (0:Int)+((F.length:Nat):Int)≤((F.length+1:Nat):Int) by omega),Nat.sub_zero,ae,s1,s2,List.length_nil,Nat.add_zero,decide_eq_true (show 0+F.length≤F.length+1 by omega)]
  refine (cx ?_).trans ?_
  · simp only[ee,decide_eq_true_eq,bi,ap,List.length_drop,ba,List.length_nil];exact⟨⟨trivial,by omega⟩,by omega⟩
  · simp only[Nat.zero_add,List.drop_zero,bi]
    rw[Nr]
theorem M9 (c:Int)(F:List FD)(x:FD)(h:gA c (F++[x])=true)(k:Nat)(hk:k≤x.2.1.length):f38 c (F++[x]) x.1 (k:Int)=some ((c,F++[(x.1,x.2.1.take k,(k:Int))]),0,()):=by
  have hS:=nT h
  have hl:=hS.1
  rw[ap,ba] at hl
  have hlt:F.length<(F++[x]).length:=by simp
  have h56:f96 c (F++[x]) x.1=some ((F.length:Int),()):=by
    have q:=PU c (F++[x]) h (i:=F.length) (by simp)
    rw[ny] at q;exact q
  have rdS:∀ y:FD,rd (.pair (.int .i64) (.pair (.row (.int .u8)) (.int .i64))) (F++[y]) F.length=y:=fun y=>by rw[uq (by simp),ny]
  unfold f38
  simp only[pK c _ hS,h,h56,Rm c _ hS,al,bm,cond_false,decide_eq_false (show ¬ ((F.length:Nat):Int) = -1 by omega),eL,gp hlt,aw,cond_true,decide_eq_false (show ¬ ((k:Nat):Int)<0 by omega),ae,decide_eq_true hlt,uq hlt,rdS,ny,decide_eq_false (show ¬ ((x.2.1.length:Nat):Int)<((k:Nat):Int) by omega),decide_eq_true (Int.le_refl ((k:Nat):Int)),decide_eq_true (show ((k:Nat):Int)≤((x.2.1.length:Nat):Int) by omega),List.length_set,abt hlt,Za,Oi,List.drop_zero]
theorem wz {α:Type}{P:List α→Prop}(h0:P [])(h1:∀ l a,P l→P (l++[a])):∀ l,P l:=by
  have aux:∀ (n:Nat) (l:List α),l.length=n→P l:=by
    intro n
    induction n with
    | zero=>intro l h;rw[dp h];exact h0
    | succ n ih=>
      intro l h
      rcases (by cases l with
        | nil=>exact .inl rfl
        | cons a r=>exact .inr ⟨(a::r).dropLast,(a::r).getLast (by simp),(List.dropLast_concat_getLast (by simp)).symm⟩:l=[]∨∃ G f,l=G++[f]) with rfl|⟨G,f,rfl⟩
      · exact h0
      · rw[ap,ba] at h
        exact h1 G f (ih G (by omega))
  exact fun l=>aux _ l rfl
structure PA (c:Int)(F:List FD)(z:dn)(i:Int)(acc:List Int):Prop where
  i:z.1.2.2.1=i
  c:z.2.1.1.1=c
  f:z.2.1.1.2.1=F
  n:z.2.1.2.2.2.2.2.1.1=0
  g:z.2.1.2.2.2.2.2.2.1.1=F
  d:z.2.2.2.2.2.2.2.2.2.1=acc
structure QA (c:Int)(F:List FD)(y:pE)(no:Int)(m:ST×Nat)(acc:List Int):Prop where
  c:y.2.1.1.1=c
  f:y.2.1.1.2.1=F
  n:y.2.1.2.2.2.2.2.1.1=no
  m:Ya y.2.1.2.2.2.1 m
  d:y.2.2.2.2.2.2.1=acc
theorem LZ (c:Int)(F:List FD)(z:dn)(acc:List Int)(hP:PA c F z (-1) acc):∃ y,bM z=some (.out y)∧y.2.1.2.2.2.2.2.1.1=0:=by
  unfold bM oQ
  rw[cv (show decide (0≤z.1.2.2.1)=false by rw[hP.i];rfl)]
  exact⟨_,rfl,hP.n⟩
theorem abF (c:Int)(F:List FD)(hD:My F)(z:dn)(j:Nat)(hj:j<F.length)(acc:List Int)(hP:PA c F z (j:Int) acc)(hacc:acc.length≤1000)(o:Option ((ST×Nat)×List ET))(h25:f36 F[j].2.1=some (bN o)) :
    (o=none→∃ z',bM z=some (.next z')∧PA c F z' ((j:Int)-1) (acc++[F[j].1])) ∧
    (∀ r l,o=some (r,l)→∃ y,bM z=some (.ret y)∧QA c F y F[j].1 r acc):=by
  have hlD:=hD.1
  have hrd:rd (.pair (.int .i64) (.pair (.row (.int .u8)) (.int .i64))) z.2.1.2.2.2.2.2.2.1.1 (dE z.1.2.2.1)=F[j]:=by rw[hP.g,hP.i,ae,uq hj]
  have c1:decide (0≤z.1.2.2.1)=true:=by rw[hP.i];exact eL j
  have c2:((decide (0≤z.1.2.2.1))&&(decide (z.1.2.2.1<((z.2.1.2.2.2.2.2.2.1.1.length:Nat):Int))))=true:=by rw[hP.i,hP.g,eL,gp hj];rfl
  have h25':f36 (rd (.pair (.int .i64) (.pair (.row (.int .u8)) (.int .i64))) z.2.1.2.2.2.2.2.2.1.1 (dE z.1.2.2.1)).2.1=some (bN o):=by rw[hrd];exact h25
  unfold bM oQ
  rw[cx c1,cx c2,h25']
  simp only[al]
  refine⟨?_,?_⟩
  · rintro rfl
    have c3:(bN none).2.2.1=false:=rfl
    have c4:((decide (((z.2.2.2.2.2.2.2.2.2.1.length+1) * 8)≤140737488355328))&&(decide ((z.2.2.2.2.2.2.2.2.2.1.length+1)≤9223372036854775807)))=true:=by
      rw[hP.d,decide_eq_true (by omega),decide_eq_true (by omega)];rfl
    rw[cv c3,cx c4]
    refine⟨_,rfl,?_⟩
    refine⟨?_,hP.c,hP.f,hP.n,hP.g,?_⟩
    · show be .i64 (z.1.2.2.1-1)=_
      rw[hP.i,bY (by omega) (by omega)]
    · show z.2.2.2.2.2.2.2.2.2.1++[_]=_
      rw[hP.d,hrd]
  · rintro r l rfl
    have c3:(bN (some (r,l))).2.2.1=true:=rfl
    rw[cx c3]
    refine⟨_,rfl,?_⟩
    exact⟨hP.c,hP.f,congrArg (fun q:FD=>q.1) hrd,⟨rfl,rfl,rfl⟩,hP.d⟩
def lP (B:List FD):List Int:=(B.map (·.1)).reverse
theorem KU (f:FD)(B:List FD):lP (f::B)=lP B++[f.1]:=by unfold lP;simp
theorem abj (c:Int):∀ (A B:List FD) (z:dn),My (A++B)→IC (A++B)→(∀ f∈B,f36 f.2.1=some (bN none))→PA c (A++B) z ((A.length:Int)-1) (lP B) →
    (∃ y,iter (A.length+1) bM z=some (.inl y)∧y.2.1.2.2.2.2.2.1.1=0∧∀ f∈A++B,f36 f.2.1=some (bN none)) ∨
    ∃ A' f B' r l y,A++B=A'++f::B'∧(∀ g∈B',f36 g.2.1=some (bN none))∧f36 f.2.1=some (bN (some (r,l)))∧iter (A.length+1) bM z=some (.inr y)∧QA c (A++B) y f.1 r (lP B'):=by
  intro A
  induction A using wz with
  | h0=>
    intro B z hD hB hb hP
    obtain⟨y,h1,h2⟩:=LZ c _ z _ hP
    exact .inl ⟨y,bW h1,h2,hb⟩
  | h1 G f ih=>
    intro B z hD hB hb hP
    have hl:=hD.1
    rw[ap,ap,ba] at hl
    have hlt:G.length<((G++[f])++B).length:=by simp
    have hg:((G++[f])++B)[G.length]'hlt=f:=by
      rw[List.getElem_append_left (by simp)];exact ny G f
    have hi:(((G++[f]).length:Nat):Int)-1=(G.length:Int):=by rw[ap,ba];omega
    rw[hi] at hP
    have hfm:f∈(G++[f])++B:=by simp
    have hfl:=hD.2 f hfm
    obtain⟨b,hbb,hb256⟩:=hB f hfm
    obtain⟨o,ho,h25⟩:=xu b hb256 (by rw[hbb,aE] at hfl;exact hfl)
    rw[← hbb] at h25
    have hacc:(lP B).length≤1000:=by unfold lP;simp;omega
    have st:=abF c _ hD z G.length hlt (lP B) hP hacc o (by rw[hg];exact h25)
    rw[hg] at st
    rw[ap,ba]
    cases o with
    | none=>
      obtain⟨z',s1,s2⟩:=st.1 rfl
      have e:(G++[f])++B=G++(f::B):=by simp
      rw[e] at hD hB s2 ⊢
      have:=ih (f::B) z' hD hB (fun x hx=>by
        rcases List.mem_cons.1 hx with rfl|hx
        · exact h25
        · exact hb x hx) (by rw[KU];exact s2)
      rw[bH s1]
      exact this
    | some q=>
      obtain⟨r,l⟩:=q
      obtain⟨y,s1,s2⟩:=st.2 r l rfl
      exact .inr ⟨G,f,B,r,l,y,by simp,hb,h25,fQ s1,s2⟩
structure PB (c:Int)(F:List FD)(no:Int)(m:ST×Nat)(dr:List Int)(z:rZ)(k:Nat):Prop where
  l:z.1.2.2.2.2.2.1=(dr.length:Int)
  k:z.1.2.2.2.2.2.2.1=(k:Int)
  c:z.2.1.1.1=c
  f:z.2.1.1.2.1=F
  m:Ya z.2.1.2.2.2.1 m
  n:z.2.1.2.2.2.2.1.1=no
  d:z.2.2.1=dr
structure QB (c:Int)(F:List FD)(no:Int)(m:ST×Nat)(y:FU):Prop where
  c:y.2.1.1.1=c
  f:y.2.1.1.2.1=F
  m:Ya y.2.1.2.2.2.1 m
  n:y.2.1.2.2.2.2.1.1=no
theorem ZP (c no:Int)(m:ST×Nat)(dr:List Int)(hdr:dr.length≤1000):∀ (B:List FD) (A:List FD) (k:Nat) (z:rZ),gA c (A++B)=true→k+B.length=dr.length→dr.drop k=lP B→PB c (A++B) no m dr z k →
    ∃ y,iter (B.length+1) gU z=some (.inl y)∧QB c A no m y:=by
  intro B
  induction B using wz with
  | h0=>
    intro A k z hm hk hd hP
    rw[bi] at hP
    have step:∃ y,gU z=some (.out y)∧QB c A no m y:=by
      unfold gU Hi
      rw[cv (show decide (z.1.2.2.2.2.2.2.1<z.1.2.2.2.2.2.1)=false by rw[hP.k,hP.l];exact decide_eq_false (by simp at hk;omega))]
      exact⟨_,rfl,⟨hP.c,hP.f,hP.m,hP.n⟩⟩
    obtain⟨y,s1,s2⟩:=step
    exact⟨y,bW s1,s2⟩
  | h1 G f ih=>
    intro A k z hm hk hd hP
    rw[ap,ba] at hk
    have hklt:k<dr.length:=by omega
    have hnos:lP (G++[f])=f.1::lP G:=by unfold lP;simp
    rw[hnos,List.drop_eq_getElem_cons hklt] at hd
    obtain⟨d1,d2⟩:=List.cons.inj hd
    have e:A++(G++[f])=(A++G)++[f]:=by simp
    rw[e] at hm hP
    have c1:decide (z.1.2.2.2.2.2.2.1<z.1.2.2.2.2.2.1)=true:=by rw[hP.k,hP.l];exact gp hklt
    have c2:((decide (0≤z.1.2.2.2.2.2.2.1))&&(decide (z.1.2.2.2.2.2.2.1<((z.2.2.1.length:Nat):Int))))=true:=by rw[hP.k,hP.d,eL,gp hklt];rfl
    have c3:decide ((dE z.1.2.2.2.2.2.2.1)<z.2.2.1.length)=true:=by rw[hP.k,hP.d,ae];exact decide_eq_true hklt
    have h26:f37 z.2.1.1.1 z.2.1.1.2.1 (rd (.int .i64) z.2.2.1 (dE z.1.2.2.2.2.2.2.1))=some ((c,A++G),0,()):=by
      rw[hP.c,hP.f,hP.d,hP.k,ae,rdI hklt,d1]
      exact KW c (A++G) f hm
    have step:∃ z',gU z=some (.next z')∧PB c (A++G) no m dr z' (k+1):=by
      unfold gU Hi
      rw[cx c1,cx c2,cx c3,h26]
      refine⟨_,rfl,?_⟩
      refine⟨hP.l,?_,rfl,rfl,hP.m,hP.n,hP.d⟩
      show be .i64 (z.1.2.2.2.2.2.2.1+1)=_
      rw[hP.k,bY (by omega) (by omega)];rfl
    obtain⟨z',s1,s2⟩:=step
    rw[ap,ba,bH s1]
    exact ih A (k+1) z' (yL hm) (by omega) d2 s2
theorem Un (c:Int)(F:List FD)(hD:My F)(h:gA c F=false):f18 c F=some (((0,[]),0,0),tZ,1,()):=by
  unfold f18
  rw[pK c F hD,h];rfl
theorem acI (c:Int)(A:List FD)(f:FD)(B:List FD)(r:ST×Nat)(hm:gA c (A++f::B)=true)(hmf:gA c (A++[f])=true)(hBl:B.length≤1000)(hk:r.2≤f.2.1.length)(z:rZ)
    (hz:PB c ((A++[f])++B) f.1 r (lP B) z 0) :
    ((iter az gU z).bind fun r=>match r with
     | .inl y6=>
       ((f38 y6.2.1.1.1 y6.2.1.1.2.1 y6.2.1.2.2.2.2.1.1 y6.2.1.2.2.2.1.2.2.2.2.2.2.2.2.2.2.2.2.2.2.2.2.2.1)).bind fun y8=>
       some (((y8.1.1,y8.1.2),y6.2.1.2.2.2.2.1.1,y6.2.1.2.2.2.1.2.2.2.2.2.2.2.2.2.2.2.2.2.2.2.2.1),(((y6.2.1.2.2.2.1.1,y6.2.1.2.2.2.1.2.1),(y6.2.1.2.2.2.1.2.2.1,y6.2.1.2.2.2.1.2.2.2.1),y6.2.1.2.2.2.1.2.2.2.2.1,y6.2.1.2.2.2.1.2.2.2.2.2.1,y6.2.1.2.2.2.1.2.2.2.2.2.2.1,y6.2.1.2.2.2.1.2.2.2.2.2.2.2.1),(y6.2.1.2.2.2.1.2.2.2.2.2.2.2.2.1,y6.2.1.2.2.2.1.2.2.2.2.2.2.2.2.2.1,y6.2.1.2.2.2.1.2.2.2.2.2.2.2.2.2.2.1,y6.2.1.2.2.2.1.2.2.2.2.2.2.2.2.2.2.2.1),y6.2.1.2.2.2.1.2.2.2.2.2.2.2.2.2.2.2.2.1,y6.2.1.2.2.2.1.2.2.2.2.2.2.2.2.2.2.2.2.2.1,y6.2.1.2.2.2.1.2.2.2.2.2.2.2.2.2.2.2.2.2.2.1,y6.2.1.2.2.2.1.2.2.2.2.2.2.2.2.2.2.2.2.2.2.2.1),0,())
     | .inr z7=>
       none:Option (WT×ST×Int×Unit))=some (((c,A++[(f.1,f.2.1.take r.2,(r.2:Int))]),f.1,r.1.2.2.1),r.1,0,()):=by
  have hnl:(lP B).length=B.length:=by unfold lP;simp
  have e:A++f::B=(A++[f])++B:=by simp
  obtain⟨y6,b1,b2⟩:=ZP c f.1 r (lP B) (by rw[hnl];exact hBl) B (A++[f]) 0 z (by rw[← e];exact hm) (by rw[hnl];omega) rfl hz
  refine (congrArg (fun o=>cd o _) (fZ (show B.length+1≤az by unfold az;omega) b1)).trans ?_
  have h27:f38 y6.2.1.1.1 y6.2.1.1.2.1 y6.2.1.2.2.2.2.1.1 y6.2.1.2.2.2.1.2.2.2.2.2.2.2.2.2.2.2.2.2.2.2.2.2.1=some ((c,A++[(f.1,f.2.1.take r.2,(r.2:Int))]),0,()):=by
    have he:=b2.m.e
    rw[b2.c,b2.f,b2.n]
    refine (congrArg (f38 c (A++[f]) f.1) he).trans ?_
    exact M9 c A f hmf r.2 hk
  refine (congrArg (fun o=>cd o _) h27).trans ?_
  obtain⟨⟨q1,q2,q3⟩,q4⟩:=(⟨b2.m,b2.n⟩:Ya y6.2.1.2.2.2.1 r∧y6.2.1.2.2.2.2.1.1=f.1)
  show some (((c,A++[(f.1,f.2.1.take r.2,(r.2:Int))]),y6.2.1.2.2.2.2.1.1,y6.2.1.2.2.2.1.2.2.2.2.2.2.2.2.2.2.2.2.2.2.2.2.1),sOf y6.2.1.2.2.2.1,0,())=_
  rw[q1,q4]
  rw[show y6.2.1.2.2.2.1.2.2.2.2.2.2.2.2.2.2.2.2.2.2.2.2.1=r.1.2.2.1 from q2]
theorem Rf (c:Int)(F:List FD)(hm:gA c F=true)(hB:IC F)(z0:dn)(hP:PA c F z0 ((F.length:Int)-1) []) :
    (((∀ f∈F,f36 f.2.1=some (bN none))∧((iter az bM z0).bind fun r=>match r with
  | .inl y4=>
    cond (decide (y4.2.1.2.2.2.2.2.1.1=0)) (
     some (((0,[]),0,0),(((0,0),(0,0),0,0,0,0),(0,0,0,false),0,[],[],[]),5,())) (
     none)
  | .inr z5=>
    cond (decide (z5.2.1.2.2.2.2.2.1.1=0)) (
     some (((0,[]),0,0),(((0,0),(0,0),0,0,0,0),(0,0,0,false),0,[],[],[]),5,())) (
     ((iter az gU (((),(),(),(),(),((z5.2.2.2.2.2.2.1.length:Nat):Int),0,()),((z5.2.1.1.1,z5.2.1.1.2.1,()),(z5.2.1.2.1.1,(),z5.2.1.2.1.2.2.1,z5.2.1.2.1.2.2.2.1,()),(z5.2.1.2.2.1.1,z5.2.1.2.2.1.2.1,z5.2.1.2.2.1.2.2.1,z5.2.1.2.2.1.2.2.2.1,z5.2.1.2.2.1.2.2.2.2.1,z5.2.1.2.2.1.2.2.2.2.2.1,z5.2.1.2.2.1.2.2.2.2.2.2.1,z5.2.1.2.2.1.2.2.2.2.2.2.2.1,z5.2.1.2.2.1.2.2.2.2.2.2.2.2.1,z5.2.1.2.2.1.2.2.2.2.2.2.2.2.2.1,z5.2.1.2.2.1.2.2.2.2.2.2.2.2.2.2.1,z5.2.1.2.2.1.2.2.2.2.2.2.2.2.2.2.2.1,z5.2.1.2.2.1.2.2.2.2.2.2.2.2.2.2.2.2.1,(),(),(),()),(z5.2.1.2.2.2.1.1,z5.2.1.2.2.2.1.2.1,z5.2.1.2.2.2.1.2.2.1,z5.2.1.2.2.2.1.2.2.2.1,z5.2.1.2.2.2.1.2.2.2.2.1,z5.2.1.2.2.2.1.2.2.2.2.2.1,z5.2.1.2.2.2.1.2.2.2.2.2.2.1,z5.2.1.2.2.2.1.2.2.2.2.2.2.2.1,z5.2.1.2.2.2.1.2.2.2.2.2.2.2.2.1,z5.2.1.2.2.2.1.2.2.2.2.2.2.2.2.2.1,z5.2.1.2.2.2.1.2.2.2.2.2.2.2.2.2.2.1,z5.2.1.2.2.2.1.2.2.2.2.2.2.2.2.2.2.2.1,z5.2.1.2.2.2.1.2.2.2.2.2.2.2.2.2.2.2.2.1,z5.2.1.2.2.2.1.2.2.2.2.2.2.2.2.2.2.2.2.2.1,z5.2.1.2.2.2.1.2.2.2.2.2.2.2.2.2.2.2.2.2.2.1,z5.2.1.2.2.2.1.2.2.2.2.2.2.2.2.2.2.2.2.2.2.2.1,z5.2.1.2.2.2.1.2.2.2.2.2.2.2.2.2.2.2.2.2.2.2.2.1,z5.2.1.2.2.2.1.2.2.2.2.2.2.2.2.2.2.2.2.2.2.2.2.2.1,()),(z5.2.1.2.2.2.2.2.1.1,()),()),z5.2.2.2.2.2.2.1,z5.2.2.1,z5.2.2.2.1,z5.2.2.2.2.1,z5.2.2.2.2.2.1,()))).bind fun r=>match r with
     | .inl y6=>
       ((f38 y6.2.1.1.1 y6.2.1.1.2.1 y6.2.1.2.2.2.2.1.1 y6.2.1.2.2.2.1.2.2.2.2.2.2.2.2.2.2.2.2.2.2.2.2.2.1)).bind fun y8=>
       some (((y8.1.1,y8.1.2),y6.2.1.2.2.2.2.1.1,y6.2.1.2.2.2.1.2.2.2.2.2.2.2.2.2.2.2.2.2.2.2.2.1),(((y6.2.1.2.2.2.1.1,y6.2.1.2.2.2.1.2.1),(y6.2.1.2.2.2.1.2.2.1,y6.2.1.2.2.2.1.2.2.2.1),y6.2.1.2.2.2.1.2.2.2.2.1,y6.2.1.2.2.2.1.2.2.2.2.2.1,y6.2.1.2.2.2.1.2.2.2.2.2.2.1,y6.2.1.2.2.2.1.2.2.2.2.2.2.2.1),(y6.2.1.2.2.2.1.2.2.2.2.2.2.2.2.1,y6.2.1.2.2.2.1.2.2.2.2.2.2.2.2.2.1,y6.2.1.2.2.2.1.2.2.2.2.2.2.2.2.2.2.1,y6.2.1.2.2.2.1.2.2.2.2.2.2.2.2.2.2.2.1),y6.2.1.2.2.2.1.2.2.2.2.2.2.2.2.2.2.2.2.1,y6.2.1.2.2.2.1.2.2.2.2.2.2.2.2.2.2.2.2.2.1,y6.2.1.2.2.2.1.2.2.2.2.2.2.2.2.2.2.2.2.2.2.1,y6.2.1.2.2.2.1.2.2.2.2.2.2.2.2.2.2.2.2.2.2.2.1),0,())
     | .inr z7=>
       none):Option (WT×ST×Int×Unit))=some (((0,[]),0,0),tZ,5,())) ∨
    ∃ A f B r l,F=A++f::B∧(∀ g∈B,f36 g.2.1=some (bN none))∧f36 f.2.1=some (bN (some (r,l))) ∧
      ((iter az bM z0).bind fun r=>match r with
  | .inl y4=>
    cond (decide (y4.2.1.2.2.2.2.2.1.1=0)) (
     some (((0,[]),0,0),(((0,0),(0,0),0,0,0,0),(0,0,0,false),0,[],[],[]),5,())) (
     none)
  | .inr z5=>
    cond (decide (z5.2.1.2.2.2.2.2.1.1=0)) (
     some (((0,[]),0,0),(((0,0),(0,0),0,0,0,0),(0,0,0,false),0,[],[],[]),5,())) (
     ((iter az gU (((),(),(),(),(),((z5.2.2.2.2.2.2.1.length:Nat):Int),0,()),((z5.2.1.1.1,z5.2.1.1.2.1,()),(z5.2.1.2.1.1,(),z5.2.1.2.1.2.2.1,z5.2.1.2.1.2.2.2.1,()),(z5.2.1.2.2.1.1,z5.2.1.2.2.1.2.1,z5.2.1.2.2.1.2.2.1,z5.2.1.2.2.1.2.2.2.1,z5.2.1.2.2.1.2.2.2.2.1,z5.2.1.2.2.1.2.2.2.2.2.1,z5.2.1.2.2.1.2.2.2.2.2.2.1,z5.2.1.2.2.1.2.2.2.2.2.2.2.1,z5.2.1.2.2.1.2.2.2.2.2.2.2.2.1,z5.2.1.2.2.1.2.2.2.2.2.2.2.2.2.1,z5.2.1.2.2.1.2.2.2.2.2.2.2.2.2.2.1,z5.2.1.2.2.1.2.2.2.2.2.2.2.2.2.2.2.1,z5.2.1.2.2.1.2.2.2.2.2.2.2.2.2.2.2.2.1,(),(),(),()),(z5.2.1.2.2.2.1.1,z5.2.1.2.2.2.1.2.1,z5.2.1.2.2.2.1.2.2.1,z5.2.1.2.2.2.1.2.2.2.1,z5.2.1.2.2.2.1.2.2.2.2.1,z5.2.1.2.2.2.1.2.2.2.2.2.1,z5.2.1.2.2.2.1.2.2.2.2.2.2.1,z5.2.1.2.2.2.1.2.2.2.2.2.2.2.1,z5.2.1.2.2.2.1.2.2.2.2.2.2.2.2.1,z5.2.1.2.2.2.1.2.2.2.2.2.2.2.2.2.1,z5.2.1.2.2.2.1.2.2.2.2.2.2.2.2.2.2.1,z5.2.1.2.2.2.1.2.2.2.2.2.2.2.2.2.2.2.1,z5.2.1.2.2.2.1.2.2.2.2.2.2.2.2.2.2.2.2.1,z5.2.1.2.2.2.1.2.2.2.2.2.2.2.2.2.2.2.2.2.1,z5.2.1.2.2.2.1.2.2.2.2.2.2.2.2.2.2.2.2.2.2.1,z5.2.1.2.2.2.1.2.2.2.2.2.2.2.2.2.2.2.2.2.2.2.1,z5.2.1.2.2.2.1.2.2.2.2.2.2.2.2.2.2.2.2.2.2.2.2.1,z5.2.1.2.2.2.1.2.2.2.2.2.2.2.2.2.2.2.2.2.2.2.2.2.1,()),(z5.2.1.2.2.2.2.2.1.1,()),()),z5.2.2.2.2.2.2.1,z5.2.2.1,z5.2.2.2.1,z5.2.2.2.2.1,z5.2.2.2.2.2.1,()))).bind fun r=>match r with
     | .inl y6=>
       ((f38 y6.2.1.1.1 y6.2.1.1.2.1 y6.2.1.2.2.2.2.1.1 y6.2.1.2.2.2.1.2.2.2.2.2.2.2.2.2.2.2.2.2.2.2.2.2.1)).bind fun y8=>
       some (((y8.1.1,y8.1.2),y6.2.1.2.2.2.2.1.1,y6.2.1.2.2.2.1.2.2.2.2.2.2.2.2.2.2.2.2.2.2.2.2.1),(((y6.2.1.2.2.2.1.1,y6.2.1.2.2.2.1.2.1),(y6.2.1.2.2.2.1.2.2.1,y6.2.1.2.2.2.1.2.2.2.1),y6.2.1.2.2.2.1.2.2.2.2.1,y6.2.1.2.2.2.1.2.2.2.2.2.1,y6.2.1.2.2.2.1.2.2.2.2.2.2.1,y6.2.1.2.2.2.1.2.2.2.2.2.2.2.1),(y6.2.1.2.2.2.1.2.2.2.2.2.2.2.2.1,y6.2.1.2.2.2.1.2.2.2.2.2.2.2.2.2.1,y6.2.1.2.2.2.1.2.2.2.2.2.2.2.2.2.2.1,y6.2.1.2.2.2.1.2.2.2.2.2.2.2.2.2.2.2.1),y6.2.1.2.2.2.1.2.2.2.2.2.2.2.2.2.2.2.2.1,y6.2.1.2.2.2.1.2.2.2.2.2.2.2.2.2.2.2.2.2.1,y6.2.1.2.2.2.1.2.2.2.2.2.2.2.2.2.2.2.2.2.2.1,y6.2.1.2.2.2.1.2.2.2.2.2.2.2.2.2.2.2.2.2.2.2.1),0,())
     | .inr z7=>
       none):Option (WT×ST×Int×Unit))=some (((c,A++[(f.1,f.2.1.take r.2,(r.2:Int))]),f.1,r.1.2.2.1),r.1,0,())):=by
  have hD:=nT hm
  have hl:=hD.1
  have hF:=Cu hm
  have k:=abj c F [] z0 (by rw[bi];exact hD) (by rw[bi];exact hB) (by simp) (by rw[bi];exact hP)
  rcases k with⟨y,h1,h2,h3⟩|⟨A,f,B,r,l,y,h1,h2,h3,h4,h5⟩
  · rw[bi] at h3
    refine .inl ⟨h3,?_⟩
    rw[fZ (show F.length+1≤az by unfold az;omega) h1]
    simp only[al]
    rw[cx (show decide (y.2.1.2.2.2.2.2.1.1=0)=true by rw[h2];rfl)]
  · rw[bi] at h1 h5
    subst h1
    refine .inr ⟨A,f,B,r,l,rfl,h2,h3,?_⟩
    have hfm:f∈A++f::B:=by simp
    have hf0:=(AG hF.1 f hfm).1
    have hBl:B.length≤1000:=by rw[ap,dv] at hl;omega
    have hnl:(lP B).length=B.length:=by unfold lP;simp
    have e:A++f::B=(A++[f])++B:=by simp
    have hmf:gA c (A++[f])=true:=by
      rw[e] at hm
      have aux:∀ (B:List FD),gA c ((A++[f])++B)=true→gA c (A++[f])=true:=by
        intro B
        induction B using wz with
        | h0=>intro h;rw[bi] at h;exact h
        | h1 G x ih=>intro h;rw[← dj] at h;exact ih (yL h)
      exact aux B hm
    obtain⟨b,hbb,hb256⟩:=hB f hfm
    have hfl:=hD.2 f hfm
    have hk:r.2≤f.2.1.length:=by
      rw[hbb,aE] at hfl
      obtain⟨o,ho,h25⟩:=xu b hb256 hfl
      rw[← hbb,h3] at h25
      cases ho with
      | bad _=>simp only[bN,dt,cf] at h25;exact absurd h25.2.2.1 (by simp)
      | @good s n r' l' g1 g2=>
        simp only[bN,dt,cf] at h25
        have:=(Reads.le cN vO hb256 g2).2.1 (ig hb256 g1).2.2
        rw[hbb,aE]
        have:=h25.1.2.2
        omega
    rw[fZ (show (A++f::B).length+1≤az by unfold az;omega) h4]
    simp only[al]
    rw[cv (show decide (y.2.1.2.2.2.2.2.1.1=0)=false by rw[h5.n];exact decide_eq_false (by omega))]
    exact acI c A f B r hm hmf hBl hk _ ⟨congrArg (fun q:List Int=>(q.length:Int)) h5.d,rfl,h5.c,by rw[← e];exact h5.f,h5.m,h5.n,h5.d⟩
theorem Sj (c:Int)(F:List FD)(hm:gA c F=true)(hB:IC F) :
    ((∀ f∈F,f36 f.2.1=some (bN none))∧f18 c F=some (((0,[]),0,0),tZ,5,())) ∨
    ∃ A f B r l,F=A++f::B∧(∀ g∈B,f36 g.2.1=some (bN none))∧f36 f.2.1=some (bN (some (r,l))) ∧
      f18 c F=some (((c,A++[(f.1,f.2.1.take r.2,(r.2:Int))]),f.1,r.1.2.2.1),r.1,0,()):=by
  have hD:=nT hm
  have hl:=hD.1
  have k:=Rf c F hm hB ((((),(),(be .i64 (((F.length:Nat):Int)-1)),()),((c,F,()),(0,(),0,0,()),(0,0,0,0,0,0,0,0,0,0,0,false,0,(),(),(),()),(0,0,0,0,0,0,0,0,0,0,0,false,0,(),(),(),0,0,()),((),()),(0,()),(F,()),((),(),(),(),(),(),(),(),(),(),(),(),(),(),(),(),(),(),(),(),(),(),(),(),(),(),(),(),(),(),(),(),(),(),(),(),(),(),(),(),(),(),(),(),(),(),(),(),(),(),(),(),(),(),(),(),(),(),(),(),(),(),(),(),(),(),(),(),(),(),(),(),(),()),()),[],[],[],[],[],[],[],[],())) ⟨by show be .i64 (((F.length:Nat):Int)-1)=_;rw[bY (by omega) (by omega)],rfl,rfl,rfl,rfl,rfl⟩
  have e:f18 c F=((iter az bM ((((),(),(be .i64 (((F.length:Nat):Int)-1)),()),((c,F,()),(0,(),0,0,()),(0,0,0,0,0,0,0,0,0,0,0,false,0,(),(),(),()),(0,0,0,0,0,0,0,0,0,0,0,false,0,(),(),(),0,0,()),((),()),(0,()),(F,()),((),(),(),(),(),(),(),(),(),(),(),(),(),(),(),(),(),(),(),(),(),(),(),(),(),(),(),(),(),(),(),(),(),(),(),(),(),(),(),(),(),(),(),(),(),(),(),(),(),(),(),(),(),(),(),(),(),(),(),(),(),(),(),(),(),(),(),(),(),(),(),(),(),()),()),[],[],[],[],[],[],[],[],()))).bind fun r=>match r with
  | .inl y4=>
    cond (decide (y4.2.1.2.2.2.2.2.1.1=0)) (
     some (((0,[]),0,0),(((0,0),(0,0),0,0,0,0),(0,0,0,false),0,[],[],[]),5,())) (
     none)
  | .inr z5=>
    cond (decide (z5.2.1.2.2.2.2.2.1.1=0)) (
     some (((0,[]),0,0),(((0,0),(0,0),0,0,0,0),(0,0,0,false),0,[],[],[]),5,())) (
     ((iter az gU (((),(),(),(),(),((z5.2.2.2.2.2.2.1.length:Nat):Int),0,()),((z5.2.1.1.1,z5.2.1.1.2.1,()),(z5.2.1.2.1.1,(),z5.2.1.2.1.2.2.1,z5.2.1.2.1.2.2.2.1,()),(z5.2.1.2.2.1.1,z5.2.1.2.2.1.2.1,z5.2.1.2.2.1.2.2.1,z5.2.1.2.2.1.2.2.2.1,z5.2.1.2.2.1.2.2.2.2.1,z5.2.1.2.2.1.2.2.2.2.2.1,z5.2.1.2.2.1.2.2.2.2.2.2.1,z5.2.1.2.2.1.2.2.2.2.2.2.2.1,z5.2.1.2.2.1.2.2.2.2.2.2.2.2.1,z5.2.1.2.2.1.2.2.2.2.2.2.2.2.2.1,z5.2.1.2.2.1.2.2.2.2.2.2.2.2.2.2.1,z5.2.1.2.2.1.2.2.2.2.2.2.2.2.2.2.2.1,z5.2.1.2.2.1.2.2.2.2.2.2.2.2.2.2.2.2.1,(),(),(),()),(z5.2.1.2.2.2.1.1,z5.2.1.2.2.2.1.2.1,z5.2.1.2.2.2.1.2.2.1,z5.2.1.2.2.2.1.2.2.2.1,z5.2.1.2.2.2.1.2.2.2.2.1,z5.2.1.2.2.2.1.2.2.2.2.2.1,z5.2.1.2.2.2.1.2.2.2.2.2.2.1,z5.2.1.2.2.2.1.2.2.2.2.2.2.2.1,z5.2.1.2.2.2.1.2.2.2.2.2.2.2.2.1,z5.2.1.2.2.2.1.2.2.2.2.2.2.2.2.2.1,z5.2.1.2.2.2.1.2.2.2.2.2.2.2.2.2.2.1,z5.2.1.2.2.2.1.2.2.2.2.2.2.2.2.2.2.2.1,z5.2.1.2.2.2.1.2.2.2.2.2.2.2.2.2.2.2.2.1,z5.2.1.2.2.2.1.2.2.2.2.2.2.2.2.2.2.2.2.2.1,z5.2.1.2.2.2.1.2.2.2.2.2.2.2.2.2.2.2.2.2.2.1,z5.2.1.2.2.2.1.2.2.2.2.2.2.2.2.2.2.2.2.2.2.2.1,z5.2.1.2.2.2.1.2.2.2.2.2.2.2.2.2.2.2.2.2.2.2.2.1,z5.2.1.2.2.2.1.2.2.2.2.2.2.2.2.2.2.2.2.2.2.2.2.2.1,()),(z5.2.1.2.2.2.2.2.1.1,()),()),z5.2.2.2.2.2.2.1,z5.2.2.1,z5.2.2.2.1,z5.2.2.2.2.1,z5.2.2.2.2.2.1,()))).bind fun r=>match r with
     | .inl y6=>
       ((f38 y6.2.1.1.1 y6.2.1.1.2.1 y6.2.1.2.2.2.2.1.1 y6.2.1.2.2.2.1.2.2.2.2.2.2.2.2.2.2.2.2.2.2.2.2.2.1)).bind fun y8=>
       some (((y8.1.1,y8.1.2),y6.2.1.2.2.2.2.1.1,y6.2.1.2.2.2.1.2.2.2.2.2.2.2.2.2.2.2.2.2.2.2.2.1),(((y6.2.1.2.2.2.1.1,y6.2.1.2.2.2.1.2.1),(y6.2.1.2.2.2.1.2.2.1,y6.2.1.2.2.2.1.2.2.2.1),y6.2.1.2.2.2.1.2.2.2.2.1,y6.2.1.2.2.2.1.2.2.2.2.2.1,y6.2.1.2.2.2.1.2.2.2.2.2.2.1,y6.2.1.2.2.2.1.2.2.2.2.2.2.2.1),(y6.2.1.2.2.2.1.2.2.2.2.2.2.2.2.1,y6.2.1.2.2.2.1.2.2.2.2.2.2.2.2.2.1,y6.2.1.2.2.2.1.2.2.2.2.2.2.2.2.2.2.1,y6.2.1.2.2.2.1.2.2.2.2.2.2.2.2.2.2.2.1),y6.2.1.2.2.2.1.2.2.2.2.2.2.2.2.2.2.2.2.1,y6.2.1.2.2.2.1.2.2.2.2.2.2.2.2.2.2.2.2.2.1,y6.2.1.2.2.2.1.2.2.2.2.2.2.2.2.2.2.2.2.2.2.1,y6.2.1.2.2.2.1.2.2.2.2.2.2.2.2.2.2.2.2.2.2.2.1),0,())
     | .inr z7=>
       none):Option (WT×ST×Int×Unit)):=by
    unfold f18
    rw[pK c F hD,hm]
    rfl
  rw[e]
  exact k
theorem ym {r r':ST×Nat}{l l':List ET}(h:bN (some (r,l))=bN (some (r',l'))):r=r'∧l=l':=by
 simp only[bN,cf,and_true] at h
 refine⟨Prod.ext h.1.1 ?_,h.2⟩
 have:=h.1.2.2
 omega
abbrev HiT:Ty:=.pair (.int .i64) (.pair (.int .i64) (.pair (.int .i64) (.pair (.int .i64) (.int .i64))))
abbrev Mm:=Int×Int×Int×Int×Int×Int×Int×Int×Int×Int×Int×Bool×Int×(List (Int×Int×Int))×(List (Int×Int×Int×Int×Int))×(List (Int×Int×Int))×Unit
abbrev FiT:=Int×(List Int)×Int×Unit
abbrev H5T:=Int×Int×Int×Int×Int×Unit
abbrev WT5:=(Unit×Unit×Unit)×(List ((Int×Int×Int)×Int))×(List (Int×Int×Int×Int×Int))×FiT×Mm×Mm×H5T×Unit
def h5 (x:H5T):LT:=(x.1,x.2.1,x.2.2.1,x.2.2.2.1,x.2.2.2.2.1)
theorem aa5 (L:List LT)(j:Nat):rd HiT L j=L.getD j zL:=rfl
def KR (x y:LT):Bool:=k3 (iJ x) (iJ y)&&decide (x.2.2.2.1=y.2.2.2.1)
theorem DB (L:List LT)(hL:L.length≤1000000)(w:WT5) :
  iter az cI ((L,(),((L.length:Nat):Int),0,()),w,()) =
   some (if L.findIdx (KR (h5 w.2.2.2.2.2.2.1))<L.length then
    .inr (((((L.findIdx (KR (h5 w.2.2.2.2.2.2.1)):Nat):Int)),()),w,()) else .inl ((),w,())):=by
 refine iz (u:=cI) L (KR (h5 w.2.2.2.2.2.2.1)) (fun j=>((L,(),((L.length:Nat):Int),((j:Nat):Int),()),w,())) (fun j=>((((j:Nat):Int),()),w,())) (fun j h=>?_) ?_ (by unfold az;omega)
 ·obtain⟨w0,w1,w2,w3,w4,w5,⟨a,b,c,d,e,_⟩,_⟩:=w
  simp only[cI,mT,gp h,eL,cond_true,aw,ae,N8 h,nx h (show L.length≤9223372036854775807 by omega),f75,al,h5,KR,k3,iJ]
  generalize L[j]=y
  by_cases h1:a=y.1
  case neg=>simp only[h1,decide_false,fa,cond_false]
  by_cases h2:b=y.2.1
  case neg=>simp only[h2,decide_false,fa,fb,cond_false]
  by_cases h3:c=y.2.2.1
  case neg=>simp only[h3,decide_false,fa,fb,cond_false]
  by_cases h4:d=y.2.2.2.1
  case neg=>simp only[h1,h2,h3,h4,decide_true,decide_false,aw,fb,cond_false,cond_true]
  simp only[h1,h2,h3,h4,decide_true,aw,cond_true]
 ·simp only[cI,mT,ow,cond_false]
theorem RV {L:List LT}(hL:L.length≤1000000){w:WT5}(h:Cx L (h5 w.2.2.2.2.2.2.1)=true) :
  ∃ k:Nat,iter az cI ((L,(),((L.length:Nat):Int),0,()),w,())=some (.inr ((((k:Nat):Int),()),w,())):=by
 refine⟨L.findIdx (KR (h5 w.2.2.2.2.2.2.1)),(DB L hL w).trans ?_⟩
 rw[if_pos]
 exact eh.2 (List.any_eq_true.1 h)
theorem Yx {L:List LT}(hL:L.length≤1000000){w:WT5}(h:Cx L (h5 w.2.2.2.2.2.2.1)=false) :
  iter az cI ((L,(),((L.length:Nat):Int),0,()),w,())=some (.inl ((),w,())):=by
 rw[DB L hL w,if_neg]
 intro hlt
 have:=List.any_eq_true.2 (eh.1 hlt)
 have h':L.any (KR (h5 w.2.2.2.2.2.2.1))=false:=h
 rw[h'] at this;cases this
abbrev RT:=FiT×Mm×Mm×Unit
def Ys (R:RT)(n:Int)(j:Nat)(b:BT):ko:=(((),(),(),n,((j:Nat):Int),()),(((),(),()),b.2,b.1,R),())
theorem Ie (R:RT)(n:Nat)(j:Nat)(b:BT)(hb:Good b)(hn:b.1.length=n)(hj:j<n)(hN:n≤1000000000000)(hL:R.2.2.1.2.2.2.2.2.2.2.2.2.2.2.2.2.2.1.length≤1000000) :
  dZ (Ys R n j b)=some (.next (Ys R n (j+1) (if (b.1.getD j zL).2.2.2.2 = -1∧Cx R.2.2.1.2.2.2.2.2.2.2.2.2.2.2.2.2.2.1 (b.1.getD j zL)=false then oF b (iJ (b.1.getD j zL)) R.2.2.1.2.2.2.2.2.2.2.2.2.2.2.2.1 else b))):=by
 have hj':j<b.1.length:=by omega
 obtain⟨h,o⟩:=b
 simp only at hn hj' ⊢
 have hmk:∀ k,bg o k=true→0≤aM o k∧aM o k<((h.length:Nat):Int)∧(aM o k).toNat<h.length:=by
  intro k hk
  obtain⟨i,hi,e,_,_⟩:=hb.has k hk
  have hi:i<h.length:=hi
  have e:aM o k=(i:Int):=e
  rw[e];omega
 unfold Ys
 simp only[dZ,pH,decide_eq_true (show ((j:Nat):Int)<(n:Int) by omega),decide_eq_true (show ((j:Nat):Int)<((h.length:Nat):Int) by omega),eL,cond_true,aw,ae,decide_eq_true hj',aa5,
  show be .i64 (((j:Nat):Int)+1)=((j+1:Nat):Int) by rw[bY (by omega) (by omega)];omega]
 obtain⟨x,hx⟩:∃ x,h.getD j zL=x:=⟨_,rfl⟩
 simp only[hx]
 by_cases h1:x.2.2.2.2 = -1
 case neg=>
  rw[decide_eq_false h1,if_neg (fun k=>h1 k.1)];rfl
 rw[decide_eq_true h1]
 simp only[cond_true]
 cases h2:Cx R.2.2.1.2.2.2.2.2.2.2.2.2.2.2.2.2.2.1 x with
 | true=>
  rw[if_neg (fun k=>by cases k.2)]
  obtain⟨k,e⟩:=RV (L:=R.2.2.1.2.2.2.2.2.2.2.2.2.2.2.2.2.2.1) hL (w:=(((),(),()),o,h,R.1,R.2.1,R.2.2.1,(x.1,x.2.1,x.2.2.1,x.2.2.2.1,x.2.2.2.2,()),())) h2
  refine (congrArg (fun z=>cd z _) e).trans ?_
  simp only[al,eL,bm,cond_false]
 | false=>
  rw[if_pos ⟨h1,rfl⟩]
  have e:=Yx (L:=R.2.2.1.2.2.2.2.2.2.2.2.2.2.2.2.2.2.1) hL (w:=(((),(),()),o,h,R.1,R.2.1,R.2.2.1,(x.1,x.2.1,x.2.2.1,x.2.2.2.1,x.2.2.2.2,()),())) h2
  refine (congrArg (fun z=>cd z _) e).trans ?_
  simp only[al,decide_eq_true (show ((j:Nat):Int)<((h.length:Nat):Int) by omega),eL,cond_true,aw,ae,decide_eq_true hj',aa5,hx,f75]
  unfold oF
  show cond (bg o (iJ x)) _ _=_
  cases hm:bg o (iJ x) with
  | false=>rfl
  | true=>
   obtain⟨a1,a2,a3⟩:=hmk _ hm
   rw[cond_true]
   show cond (decide (0≤aM o (iJ x))&&decide (aM o (iJ x)<((h.length:Nat):Int))) (cond (decide ((aM o (iJ x)).toNat<h.length)) _ none) none=_
   rw[decide_eq_true a1,decide_eq_true a2,decide_eq_true a3]
   rfl
theorem FV (R:RT)(b:BT)(hb:Good b)(hN:b.1.length≤1000000000000)(hL:R.2.2.1.2.2.2.2.2.2.2.2.2.2.2.2.2.2.1.length≤1000000)(hn:R.2.2.1.2.2.2.2.2.2.2.2.2.2.2.2.1 ≠ -1) :
  iter az dZ (Ys R b.1.length 0 b)=some (.inl (((),(),()),(((),(),()),(bh R.2.2.1.2.2.2.2.2.2.2.2.2.2.2.2.2.2.1 R.2.2.1.2.2.2.2.2.2.2.2.2.2.2.2.1 b b.1.length).2,(bh R.2.2.1.2.2.2.2.2.2.2.2.2.2.2.2.2.2.1 R.2.2.1.2.2.2.2.2.2.2.2.2.2.2.2.1 b b.1.length).1,R),())):=by
 refine lE (fun j=>Ys R b.1.length j (bh R.2.2.1.2.2.2.2.2.2.2.2.2.2.2.2.2.2.1 R.2.2.1.2.2.2.2.2.2.2.2.2.2.2.2.1 b j)) (n:=b.1.length) (fun j hj=>?_) ?_ 0 az (du _) (by unfold az;omega)
 ·exact Ie R b.1.length j _ (oO hb hn j (by omega)).1 (fF _ _ _ j) hj hN hL
 ·unfold Ys
  simp only[dZ,pH,decide_eq_false (Int.lt_irrefl _),cond_false]
abbrev RU:=FiT×Mm×Unit
def stU (L:List LT)(h0:List LT)(R:RU)(j:Nat)(b:BT):kC:=(((),L,((L.length:Nat):Int),((j:Nat):Int),()),(((),(),()),b.2,h0,R),b.1,())
theorem Me (L h0:List LT)(R:RU)(b:BT)(hL:L.length≤1000000)(hN:b.1.length≤1000000000000) :
  iter az de (stU L h0 R 0 b)=some (.inl ((),(((),(),()),(ez L b).2,h0,R),(ez L b).1,())):=by
 have key:=lE (u:=de) (fun j=>stU L h0 R j (ez (L.take j) b)) (n:=L.length) (y:=((),(((),(),()),(ez L b).2,h0,R),(ez L b).1,())) (fun j hj=>by
  have hl:=xM (L.take j) b
  rw[dd] at hl
  have e:ez (L.take (j+1)) b=jE (ez (L.take j) b) L[j]:=by
   unfold ez
   rw[bC hj,List.foldl_append];rfl
  simp only[e]
  generalize ez (L.take j) b=c at hl ⊢
  obtain⟨h,o⟩:=c
  simp only at hl
  unfold stU
  simp only[de,oE,gp hj,eL,cond_true,aw,ae,N8 hj,nx hj (show L.length≤9223372036854775807 by omega),f75,al,jE]
  show cond (!bg o (iJ L[j])) _ _=_
  cases hm:bg o (iJ L[j]) with
  | true=>rfl
  | false=>
   simp only[eQ,cond_true,decide_eq_true (show (h.length+1) * 40≤140737488355328 by omega),decide_eq_true (show h.length+1≤9223372036854775807 by omega),aw]
   rfl) (by
  unfold stU
  simp only[de,oE,ow,cond_false,db]) 0 az (du _) (by unfold az;omega)
 exact key
abbrev EvT:Ty:=.pair (.int .i64) (.pair (.int .i64) (.pair (.int .i64) (.pair (.int .i64) (.pair (.int .i64) (.pair (.int .i64) (.pair (.int .i64) (.pair (.int .i64) .bool)))))))
theorem acV {l:List ET}{j:Nat}(h:j<l.length):rd EvT l j=l[j]:=uc h
def stV (F:List FD)(n k:Int)(l:List ET)(j:Nat)(b:BT):Bp:=(((),F,n,k,l,((l.length:Nat):Int),((j:Nat):Int),()),(((),(),()),b.2,()),b.1,())
theorem Ta (F:List FD)(n k:Int)(l:List ET)(s t:ST)(b:BT)(hb:Told b s.2.2.2.2.1)(hg:mU s l=(t,0))(hl:l.length≤100000000000)(hN:b.1.length≤1000000000000) :
  iter az mw (stV F n k l 0 b)=some (.inl (((),F,n,k,()),(((),(),()),(l.foldl bZ b).2,()),(l.foldl bZ b).1,())):=by
 have pre:∀ j,j≤l.length→Good ((l.take j).foldl bZ b):=by
  intro j hj
  have:∀ (m:List ET) (s t:ST) (b:BT) (r:List ET),Told b s.2.2.2.2.1→mU s (m++r)=(t,0)→Good (m.foldl bZ b):=by
   intro m
   induction m with
   | nil=>intro s t b r h _;exact h.1
   | cons e m ih=>
    intro s t b r h hg
    rw[List.cons_append] at hg
    unfold mU at hg
    split at hg
    ·rename_i he
     exact ih (bp s e).1 t (bZ b e) r (vT h (show bp s e=((bp s e).1,0) by rw[← he])) hg
    ·rename_i he
     have:=congrArg (·.2) hg
     exact absurd this he
  exact this (l.take j) s t b (l.drop j) hb (by rw[List.take_append_drop];exact hg)
 have key:=lE (u:=mw) (fun j=>stV F n k l j ((l.take j).foldl bZ b)) (n:=l.length) (y:=(((),F,n,k,()),(((),(),()),(l.foldl bZ b).2,()),(l.foldl bZ b).1,())) (fun j hj=>by
  have hlen:=oN (l.take j) b
  rw[dd] at hlen
  have hgd:=pre j (by omega)
  have e:(l.take (j+1)).foldl bZ b=bZ ((l.take j).foldl bZ b) l[j]:=by
   rw[bC hj,List.foldl_append];rfl
  simp only[e]
  generalize (l.take j).foldl bZ b=c at hlen hgd ⊢
  obtain⟨h,o⟩:=c
  simp only at hlen
  have hmk:∀ k,bg o k=true→0≤aM o k∧aM o k<((h.length:Nat):Int)∧(aM o k).toNat<h.length:=by
   intro k hk
   obtain⟨i,hi,e,_,_⟩:=hgd.has k hk
   have hi:i<h.length:=hi
   have e:aM o k=(i:Int):=e
   rw[e];omega
  unfold stV
  simp only[mw,Hy,gp hj,eL,cond_true,aw,ae,acV hj,nx hj (show l.length≤9223372036854775807 by omega),f75,al,bZ]
  by_cases h0:l[j].1=0
  ·rw[if_pos h0,decide_eq_true h0]
   simp only[cond_true,decide_eq_true (show (h.length+1) * 40≤140737488355328 by omega),decide_eq_true (show h.length+1≤9223372036854775807 by omega),aw]
   rfl
  rw[if_neg h0,decide_eq_false h0]
  by_cases h1:l[j].1=1
  ·rw[if_pos h1,decide_eq_true h1]
   simp only[cond_true,cond_false,oF]
   cases hm:bg o (l[j].2.2.1,l[j].2.2.2.1,l[j].2.2.2.2.1) with
   | false=>rfl
   | true=>
    obtain⟨a1,a2,a3⟩:=hmk _ hm
    rw[decide_eq_true a1,decide_eq_true a2,decide_eq_true a3]
    rfl
  ·rw[if_neg h1,decide_eq_false h1]
   rfl) (by
  unfold stV
  simp only[mw,Hy,ow,cond_false,db]) 0 az (du _) (by unfold az;omega)
 exact key
def Vx (s:ST):Mm:=(s.1.1.1,s.1.1.2,s.1.2.1.1,s.1.2.1.2,s.1.2.2.1,s.1.2.2.2.1,s.1.2.2.2.2.1,s.1.2.2.2.2.2,s.2.1.1,s.2.1.2.1,s.2.1.2.2.1,s.2.1.2.2.2,s.2.2.1,s.2.2.2.1,s.2.2.2.2.1,s.2.2.2.2.2,())
def DD (F:List FD)(j:Nat)(b:BT):Ka:=(((),F,((F.length:Nat):Int),((j:Nat):Int),()),(((),(),()),b.2,()),b.1,())
theorem PV (F:List FD)(j:Nat)(hj:j<F.length)(hF:F.length≤1000)(b:BT)(c:List Nat)(hc:F[j].2.1=ints c)(hb:∀ x∈c,x<256)(hl:c.length≤1000000)(h1:gS c=none) :
    nh (DD F j b)=some (.next (DD F (j+1) b)):=by
  unfold DD
  simp only[nh,Ko,gp hj,eL,cond_true,aw,ae,uq hj,hc,CH c hb hl,h1,Gp,al,eQ,nx hj (show F.length≤9223372036854775807 by omega)]
theorem Mg (F:List FD)(j:Nat)(hj:j<F.length)(hF:F.length≤1000)(b:BT)(c:List Nat)(hc:F[j].2.1=ints c)(hb:∀ x∈c,x<256)(hl:c.length≤1000000){s:ST}{n:Nat}(h1:gS c=some (s,n))
    {r:ST×Nat} {l:List ET} (h2:f36 (ints c)=some (bN (some (r,l)))) (hg:mU s l=(r.1,0)) (hb1:Good b) (hN:b.1.length≤900000000000) (hll:l.length≤400000000) :
    nh (DD F j b)=some (.next (DD F (j+1) (l.foldl bZ (oL b s)))):=by
  have hM:=(ig hb h1).1
  have hn:s.2.2.1 ≠ -1:=fun e=>by have:=hM.Uv;omega
  have h41:=Pe h2
  have e0:nh (DD F j b)=((f39 F[j].2.1)).bind fun y6=>
   cond (!y6.2.2.1) (
    some (R3.next (((),F,((F.length:Nat):Int),((j+1:Nat):Int),()),(((),(),()),b.2,()),b.1,()))) (
    ((iter az dZ (Ys ((F[j].1,F[j].2.1,F[j].2.2,()),Vx y6.1,Vx y6.1,()) ((b.1.length:Nat):Int) 0 b))).bind fun r=>match r with
    | .inl y7=>
      ((iter az de (((),y7.2.1.2.2.2.2.2.1.2.2.2.2.2.2.2.2.2.2.2.2.2.2.1,((y7.2.1.2.2.2.2.2.1.2.2.2.2.2.2.2.2.2.2.2.2.2.2.1.length:Nat):Int),0,()),(((),(),()),y7.2.1.2.1,[],y7.2.1.2.2.2.1,y7.2.1.2.2.2.2.1,()),y7.2.1.2.2.1,()))).bind fun r=>match r with
      | .inl y9=>
        ((f41 y9.2.1.2.2.2.1.2.1)).bind fun y11=>
        ((iter az mw (((),F,((F.length:Nat):Int),((j:Nat):Int),y11.1,((y11.1.length:Nat):Int),0,()),(((),(),()),y9.2.1.2.1,()),y9.2.2.1,()))).bind fun r=>match r with
        | .inl y12=>
          some (R3.next (((),y12.1.2.1,y12.1.2.2.1,(be .i64 (y12.1.2.2.2.1+1)),()),(((),(),()),y12.2.1.2.1,()),y12.2.2.1,()))
        | .inr z13=>
          some (R3.ret ((),(),()))
      | .inr z10=>
        none
    | .inr z8=>
      none):=by
    unfold DD
    simp only[nh,Ko,gp hj,eL,cond_true,aw,ae,uq hj,nx hj (show F.length≤9223372036854775807 by omega)]
    rfl
  rw[e0,hc,CH c hb hl,h1]
  simp only[Gp,al,bm,cond_false]
  have hsw:=FV ((F[j].1,ints c,F[j].2.2,()),Vx s,Vx s,()) b hb1 (by omega) (show s.2.2.2.2.1.length≤1000000 by have:=hM.len;omega) (show s.2.2.1 ≠ -1 from hn)
  rw[hsw]
  have hb2:=fF s.2.2.2.2.1 s.2.2.1 b b.1.length
  have hst:ez s.2.2.2.2.1 (bh s.2.2.2.2.1 s.2.2.1 b b.1.length)=oL b s:=rfl
  have hfl:=Me s.2.2.2.2.1 [] ((F[j].1,ints c,F[j].2.2,()),Vx s,()) (bh s.2.2.2.2.1 s.2.2.1 b b.1.length) (by have:=hM.len;omega) (by omega)
  simp only[al]
  have e1:(Vx s).2.2.2.2.2.2.2.2.2.2.2.2.2.2.1=s.2.2.2.2.1:=rfl
  have e2:(Vx s).2.2.2.2.2.2.2.2.2.2.2.2.1=s.2.2.1:=rfl
  rw[e1,e2]
  unfold stU at hfl
  have hfl':iter az de (((),s.2.2.2.2.1,((s.2.2.2.2.1.length:Nat):Int),0,()),(((),(),()),(bh s.2.2.2.2.1 s.2.2.1 b b.1.length).2,[],(F[j].1,ints c,F[j].2.2,()),Vx s,()),(bh s.2.2.2.2.1 s.2.2.1 b b.1.length).1,())=_:=hfl
  rw[hfl']
  have hlen:=za (b:=b) hM
  have hev:=Ta F ((F.length:Nat):Int) ((j:Nat):Int) l s r.1 (oL b s) (we hb1 hM) hg (by omega) (by omega)
  simp only[al,h41]
  unfold stV at hev
  have hev':iter az mw (((),F,((F.length:Nat):Int),((j:Nat):Int),l,((l.length:Nat):Int),0,()),(((),(),()),(ez s.2.2.2.2.1 (bh s.2.2.2.2.1 s.2.2.1 b b.1.length)).2,()),(ez s.2.2.2.2.1 (bh s.2.2.2.2.1 s.2.2.1 b b.1.length)).1,())=_:=hev
  rw[hev']
  simp only[al,nx hj (show F.length≤9223372036854775807 by omega)]
  rfl
def xo (F:List FD)(b:BT)(L:List LT):Prop:=((∀ f∈F,f36 f.2.1=some (bN none))∧L=[]∧b.1=[]) ∨
  ∃ A f B r l,F=A++f::B∧(∀ g∈B,f36 g.2.1=some (bN none))∧f36 f.2.1=some (bN (some (r,l)))∧L=r.1.2.2.2.2.1
theorem xo.bad {F:List FD}{b:BT}{L:List LT}(h:xo F b L){f:FD}(hf:f36 f.2.1=some (bN none)):xo (F++[f]) b L:=by
  rcases h with⟨h1,h2⟩|⟨A,g,B,r,l,e,h1,h2,h3⟩
  · left
    refine⟨fun x hx=>?_,h2⟩
    rcases eJ.1 hx with hx|hx
    · exact h1 x hx
    · rw[dq.1 hx];exact hf
  · right
    refine⟨A,g,B++[f],r,l,by rw[e];simp,fun x hx=>?_,h2,h3⟩
    rcases eJ.1 hx with hx|hx
    · exact h1 x hx
    · rw[dq.1 hx];exact hf
theorem Lt (F:List FD)(hD:My F)(hB:IC F):∃ b L,iter az nh (DD F 0 ([],[]))=some (.inl (((),()),(((),(),()),b.2,()),b.1,()))∧Told b L∧xo F b L∧L.Pairwise ov∧b.1.length≤401000000 * F.length:=by
  have hF:=hD.1
  obtain⟨r,hr,hq⟩:=jZ (f:=nh) (fun z=>∃ j b L,j≤F.length∧z=DD F j b∧Told b L∧xo (F.take j) b L∧L.Pairwise ov∧b.1.length≤401000000 * j)
    (fun z=>F.length-z.1.2.2.2.1.toNat) (fun r=>∃ b L,r = .inl (((),()),(((),(),()),b.2,()),b.1,())∧Told b L∧xo F b L∧L.Pairwise ov∧b.1.length≤401000000 * F.length)
    (by
      rintro z ⟨j,b,L,hj,rfl,hT,hL,hP,hlen⟩
      rcases Nat.lt_or_ge j F.length with hlt|hge
      · left
        have hm:∀ b',(DD F (j+1) b').1.2.2.2.1.toNat=j+1:=fun b'=>ae (j+1)
        have hm0:∀ b',(DD F j b').1.2.2.2.1.toNat=j:=fun b'=>ae j
        obtain⟨c,hc,hb⟩:=hB F[j] (dC hlt)
        have hl:=hD.2 F[j] (dC hlt)
        rw[hc,aE] at hl
        have htk:F.take (j+1)=F.take j++[F[j]]:=by rw[List.take_append_getElem]
        obtain⟨o,ho,h36⟩:=xu c hb hl
        cases ho with
        | bad h1=>
          refine⟨_,PV F j hlt hF b c hc hb hl h1,⟨j+1,b,L,hlt,rfl,hT,?_,hP,by omega⟩,?_⟩
          · rw[htk];exact hL.bad (by rw[hc];exact h36)
          · show F.length-(DD F (j+1) b).1.2.2.2.1.toNat<F.length-(DD F j b).1.2.2.2.1.toNat
            rw[hm,hm0];omega
        | @good s n r l h1 h2=>
          have hM:=(ig hb h1).1
          have hg:=Qu h2
          have hle:=Reads.le cN vO hb h2
          have hn:=(ig hb h1).2.2
          have h1b:=hle.2.1 hn
          have hll:l.length≤400000000:=by have:=hle.2.2;omega
          have hl2:=oN l (oL b s)
          have hl3:=za (b:=b) hM
          have hbig:b.1.length≤900000000000:=by
            have:401000000 * j≤401000000 * 1000:=Nat.mul_le_mul_left _ (by omega)
            omega
          refine⟨_,Mg F j hlt hF b c hc hb hl h1 h36 hg hT.1 hbig hll,⟨j+1,_,r.1.2.2.2.2.1,hlt,rfl,tW (we hT.1 hM) hg,?_,?_,by omega⟩,?_⟩
          · right
            exact⟨F.take j,F[j],[],r,l,by rw[htk],(fun g hg=>by cases hg),by rw[hc];exact h36,rfl⟩
          · exact (LS h2 hM).o8.Gr
          · show F.length-(DD F (j+1) _).1.2.2.2.1.toNat<F.length-(DD F j b).1.2.2.2.1.toNat
            rw[hm,hm0];omega
      · right;left
        have:j=F.length:=by omega
        subst this
        refine⟨_,?_,⟨b,L,rfl,hT,by rw[db] at hL;exact hL,hP,hlen⟩⟩
        unfold DD
        simp only[nh,Ko,ow,cond_false]) az (DD F 0 ([],[]))
    ⟨0,([],[]),[],du _,rfl,⟨NX,fun q=>⟨fun⟨x,hx,_⟩=>absurd hx (by simp),fun h=>absurd h (by simp)⟩⟩,.inl ⟨fun f hf=>absurd hf (by simp),rfl,rfl⟩,List.Pairwise.nil,by simp⟩ (by
      show F.length-_<az
      unfold az;omega)
  obtain⟨b,L,rfl,h1,h2,h3,h4⟩:=hq
  exact⟨b,L,hr,h1,h2,h3,h4⟩
theorem Tc (c:Int)(F:List FD)(hm:gA c F=true)(hB:IC F):∃ b L,f19 c F=some (b.1,())∧Told b L∧xo F b L∧L.Pairwise ov∧b.1.length≤401000000 * F.length:=by
  have hD:=nT hm
  obtain⟨b,L,h1,h2⟩:=Lt F hD hB
  refine⟨b,L,?_,h2⟩
  unfold f19
  rw[pK c F hD,hm]
  simp only[al,bm,cond_false]
  have h1':iter az nh (((),F,((F.length:Nat):Int),0,()),(((),(),()),[],()),[],())=_:=h1
  rw[h1'];rfl
theorem RJ (c:Int)(F:List FD)(hD:My F)(h:gA c F=false):f19 c F=some ([],()):=by
  unfold f19
  rw[pK c F hD,h];rfl
theorem XK (H:List LT)(x:LT)(hl:H.length≤1000000000000):f20 H x.1 x.2.1 x.2.2.1 x.2.2.2.1 x.2.2.2.2 =
    some ((((H.filter fun z=>decide (z.2.2.2.2 = -1)&&decide (q4 z=q4 x)).length:Nat):Int),(((H.filter fun z=>decide (z.2.2.2.2 = -1)).length:Nat):Int),()):=by
  have key:=lE (u:=yA) (fun j=>((H,(),((((H.take j).filter fun z=>decide (z.2.2.2.2 = -1)&&decide (q4 z=q4 x)).length:Nat):Int),((((H.take j).filter fun z=>decide (z.2.2.2.2 = -1)).length:Nat):Int),((j:Nat):Int),()),((x.1,x.2.1,x.2.2.1,x.2.2.2.1,x.2.2.2.2,()),()),()))
    (n:=H.length) (y:=(((((H.filter fun z=>decide (z.2.2.2.2 = -1)&&decide (q4 z=q4 x)).length:Nat):Int),(((H.filter fun z=>decide (z.2.2.2.2 = -1)).length:Nat):Int),()),(),())) (fun j hj=>by
    have b1:((H.take j).filter fun z=>decide (z.2.2.2.2 = -1)&&decide (q4 z=q4 x)).length≤j:=fg (eK _ _) (by rw[dd];omega)
    have b2:((H.take j).filter fun z=>decide (z.2.2.2.2 = -1)).length≤j:=fg (eK _ _) (by rw[dd];omega)
    rw[bC hj,List.filter_append,List.filter_append,ap,ap]
    generalize ((H.take j).filter fun z=>decide (z.2.2.2.2 = -1)&&decide (q4 z=q4 x)).length=m1 at b1 ⊢
    generalize ((H.take j).filter fun z=>decide (z.2.2.2.2 = -1)).length=m2 at b2 ⊢
    have w1:∀ m:Nat,m≤j→be .i64 ((m:Int)+1)=((m+1:Nat):Int):=fun m hm=>by rw[bY (by omega) (by omega)];omega
    simp only[yA,Ri,gp hj,eL,cond_true,aw,ae,N8 hj,nx hj (show H.length≤9223372036854775807 by omega),w1 m1 b1,w1 m2 b2]
    generalize H[j]=y
    by_cases h0:y.2.2.2.2 = -1
    case neg=>simp[h0,da]
    by_cases h1:q4 y=q4 x
    · have h1':=h1
      unfold q4 at h1'
      simp only[cf] at h1'
      simp[h0,h1,h1'.1,h1'.2.1,h1'.2.2.1,h1'.2.2.2,da]
    · have h1':¬ (y.1=x.1∧y.2.1=x.2.1∧y.2.2.1=x.2.2.1∧y.2.2.2.1=x.2.2.2.1):=fun k=>h1 (by unfold q4;rw[k.1,k.2.1,k.2.2.1,k.2.2.2])
      by_cases a1:y.1=x.1
      case neg=>simp[h0,h1,a1,da]
      by_cases a2:y.2.1=x.2.1
      case neg=>simp[h0,h1,a2,da]
      by_cases a3:y.2.2.1=x.2.2.1
      case neg=>simp[h0,h1,a3,da]
      have a4:¬ y.2.2.2.1=x.2.2.2.1:=fun k=>h1' ⟨a1,a2,a3,k⟩
      simp[h0,h1,a4,da]) (by
    simp only[yA,Ri,ow,cond_false,db]) 0 az (du _) (by unfold az;omega)
  unfold f20
  have key':iter az yA ((H,(),0,0,0,()),((x.1,x.2.1,x.2.2.1,x.2.2.2.1,x.2.2.2.2,()),()),())=_:=key
  rw[key'];rfl
theorem Zj {t:Int}(h:(Lit.int .i64 t).wf=true):t≤9223372036854775807:=by
 simp only[Lit.wf,ee,decide_eq_true_eq] at h
 exact h.2
theorem ac9 {n:Nat}(h:n≤maxLen):n≤9223372036854775807:=fg h (by decide)
theorem To {xs:List Int}(h:∀ y∈xs,(Lit.int .u8 y).wf=true):ZV xs:=by
 have hr:∀ y∈xs,0≤y∧y≤255:=fun y hy=>by
  have:=h y hy
  simp only[Lit.wf,ee,decide_eq_true_eq] at this
  exact this
 refine⟨xs.map dE,?_,fun c hc=>?_⟩
 ·unfold ints
  rw[List.map_map]
  conv=>lhs;rw[← List.map_id xs]
  exact List.map_congr_left fun x hx=>(toNat_cast (hr x hx).1).symm
 ·obtain⟨x,hx,rfl⟩:=List.mem_map.1 hc
  have:=hr x hx
  omega
theorem Us {F:List FD}(h:∀ f∈F,Wf (.pair (.int .i64) (.pair (.row (.int .u8)) (.int .i64))) f):IC F:=fun f hf=>To (h f hf).2.1.2
end Go.Proofs.Zz
namespace Go.Proofs.YtckgffnmfgjehaaGreat
open Go Go.Sy Go.RowKit Go.Proofs.Zz
set_option linter.unusedVariables false
set_option maxRecDepth 100000
theorem own:ownKnob Tryz.prog.godebug=none:=by kernel_rfl
theorem laidOut:laidOutB Tryz.prog=true:=by kernel_rfl
end Go.Proofs.YtckgffnmfgjehaaGreat
