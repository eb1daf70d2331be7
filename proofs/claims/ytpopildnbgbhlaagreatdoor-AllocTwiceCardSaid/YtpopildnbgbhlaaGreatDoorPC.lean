/- P13y, P13z, P13m, P13s. -/
import Derived.Test.YtpopildnbgbhlaaGreatDoorPB
import Derived.Test.YtpopildnbgbhlaaGreatDoorPU
import Derived.KernelRfl
import Derived.Test.YtpopildnbgbhlaaGreatDoorFI
namespace Go.Proofs.Zz
open Go Go.Sy
set_option linter.unusedSimpArgs false
set_option linter.unusedVariables false
set_option maxRecDepth 20000
set_option maxHeartbeats 2000000
theorem f23_eq (P:List HT)(hP:Sz P)(at':Int):f23 P at'=some (givesB P at',()):=by
 unfold f23 givesB
 rw[f20_eq P hP]
 simp only[Option.bind_some]
 by_cases h:poolOf P at' = -1
 ·rw[h];rfl
 ·rw[decide_eq_false h]
  have hlt:P.findIdx (fun p=>hasB p at')<P.length:=by
   unfold poolOf at h
   split at h
   ·assumption
   ·exact absurd rfl h
  have e:poolOf P at'=((P.findIdx (fun p=>hasB p at'):Nat):Int):=if_pos hlt
  rw[e,ge0,ltn hlt]
  have eg:P.getD (P.findIdx (fun p=>hasB p at')) (0,0,0)=P[P.findIdx (fun p=>hasB p at')]:=by
   rw[List.getD_eq_getElem?_getD,List.getElem?_eq_getElem hlt,Option.getD_some]
  simp only[Bool.not_false,cond_true,Bool.and_self,Int.toNat_natCast,rdH hlt,nthP,eg]
  rw[decide_eq_true (show ((P.findIdx (fun p=>hasB p at'):Nat):Int) ≠ -1 by omega),Bool.true_and]
theorem f46_eq (s:ST):f46 s.1.1.1 s.1.1.2 s.1.2.1.1 s.1.2.1.2 s.1.2.2.1 s.1.2.2.2.1 s.1.2.2.2.2.1 s.1.2.2.2.2.2 s.2.1.1 s.2.1.2.1 s.2.1.2.2.1 s.2.1.2.2.2 s.2.2.1 s.2.2.2.1 s.2.2.2.2.1 s.2.2.2.2.2=some (szY s.1,()):=by
 unfold f46
 rw[f49_eq];rfl
theorem w13_grant (s:ST)(M:MayS s)(v3 v4 v5 v6 v7 v8 v9 v10 v11 v12 v13:Int)(v14:Bool)(v15:Int)(v16:(List (Int×Int×Int)))(v17:(List (Int×Int×Int×Int×Int)))(v18:(List (Int×Int×Int)))(v19 v20 v21 v22 v23 v24 v25 v26:Int)(v27:Bool)(v28 v29 v30 v31 v32 v33 v34 v35 v36 v37 v38:Int)(v39:Bool)(v40 v41 v42 v43 v55 v56 v57:Int)(v58:Bool)(v59 v60 v61 v62 v63 v64 v65 v66 v67:Int)(v68:Bool)(v69 v70 v71:Int)(v72:(List (Int×Int×Int)))(v73:(List (Int×Int×Int×Int×Int)))(v74:(List (Int×Int×Int)))(v75 v76:(List (Int×Int×Int×Int×Int×Int×Int×Int×Bool)))(to:Int)(hto:to≤4):∀ (n:Nat) (ad:Int),0≤ad→to=ad+n →
  iter (n+1) u13_30_8_0 (((),ad,to,()),((v3,v4,v5,v6,v7,v8,v9,v10,v11,v12,v13,v14,v15,v16,v17,v18,()),(v19,v20,v21,v22,v23,v24,v25,v26,v27,()),(v28,v29,v30,v31,v32,v33,v34,v35,v36,v37,v38,v39,v40,(),(),(),()),((),()),(v41,v42,v43,()),((),(),(),(),(),(),(),(),(),()),s.2.2.2.1,s.2.2.2.2.1,s.2.2.2.2.2,(s.1.1.1,s.1.1.2,s.1.2.1.1,s.1.2.1.2,s.1.2.2.1,s.1.2.2.2.1,s.1.2.2.2.2.1,s.1.2.2.2.2.2,v55,v56,v57,v58,v59,(),(),(),v60,v61,v62,v63,v64,v65,v66,v67,v68,(),v69,v70,v71,()),()),v72,v73,v74,v75,v76,())=some (.inl (((),(firstAt (blockI s) n ad),to,()),((v3,v4,v5,v6,v7,v8,v9,v10,v11,v12,v13,v14,v15,v16,v17,v18,()),(v19,v20,v21,v22,v23,v24,v25,v26,v27,()),(v28,v29,v30,v31,v32,v33,v34,v35,v36,v37,v38,v39,v40,(),(),(),()),((),()),(v41,v42,v43,()),((),(),(),(),(),(),(),(),(),()),s.2.2.2.1,s.2.2.2.2.1,s.2.2.2.2.2,(s.1.1.1,s.1.1.2,s.1.2.1.1,s.1.2.1.2,s.1.2.2.1,s.1.2.2.2.1,s.1.2.2.2.2.1,s.1.2.2.2.2.2,v55,v56,v57,v58,v59,(),(),(),v60,v61,v62,v63,v64,v65,v66,v67,v68,(),v69,v70,v71,()),()),v72,v73,v74,v75,v76,())):=by
 have hP:Sz s.2.2.2.1:=by have:=M.pools.len;unfold Sz;omega
 have hL:=M.len
 have hH:=M.lenH
 intro n
 induction n with
 | zero=>
  intro ad h0 h1
  refine it_out ?_
  simp only[u13_30_8_0,t13_30_8_0]
  rw[decide_eq_false (by omega)];rfl
 | succ n ih=>
  intro ad h0 h1
  have hnext:IntKind.wrap .i64 (ad+1)=ad+1:=w64 (by omega) (by omega)
  have hb8:=M.fit.blk
  have hb0:0≤blks s.1:=Int.ediv_nonneg M.fit.g1 (by have:=M.fit.h1;omega)
  have hU:usedU s ad<2 ^ (blks s.1).toNat:=useU_lt ad _ (Nat.two_pow_pos _)
  have f99e:=f99_ok (show (blks s.1).toNat≤8 by omega) hU
  have f100e:=f100_ok M.fit s.2.2.2.2.1 s.2.2.2.2.2 (by omega) (by omega) ad
  by_cases hg:givesB s.2.2.2.1 ad=true
  ·by_cases hb:firstI (blks s.1).toNat (usedU s ad) = -1
   ·have hf:blockI s ad = -1:=by unfold blockI;rw[if_pos hg,hb]
    have e1:firstAt (blockI s) (n+1) ad=firstAt (blockI s) n (ad+1):=by
     conv=>lhs;unfold firstAt
     rw[if_pos hf]
    rw[e1,← ih (ad+1) (by omega) (by omega)]
    refine it_next ?_
    simp only[u13_30_8_0,t13_30_8_0]
    rw[decide_eq_true (show ad<to by omega),f23_eq _ hP,hg]
    simp only[cond_true,Option.bind_some,Bool.not_true,cond_false,f100e]
    rw[show useU (blks s.1).toNat ad 0 (s.2.2.2.2.1.map kL++s.2.2.2.2.2.map kH)=usedU s ad from rfl,f99e,hb,hnext];rfl
   ·have hf:blockI s ad=firstI (blks s.1).toNat (usedU s ad):=by unfold blockI;rw[if_pos hg]
    have e1:firstAt (blockI s) (n+1) ad=ad:=by
     unfold firstAt
     rw[hf,if_neg hb]
    rw[e1]
    refine it_out ?_
    simp only[u13_30_8_0,t13_30_8_0]
    rw[decide_eq_true (show ad<to by omega),f23_eq _ hP,hg]
    simp only[cond_true,Option.bind_some,Bool.not_true,cond_false,f100e]
    rw[show useU (blks s.1).toNat ad 0 (s.2.2.2.2.1.map kL++s.2.2.2.2.2.map kH)=usedU s ad from rfl,f99e]
    simp only[Option.bind_some]
    rw[decide_eq_false hb];rfl
  ·have hg':givesB s.2.2.2.1 ad=false:=by simpa using hg
   have hf:blockI s ad = -1:=by unfold blockI;rw[if_neg hg]
   have e1:firstAt (blockI s) (n+1) ad=firstAt (blockI s) n (ad+1):=by
    conv=>lhs;unfold firstAt
    rw[if_pos hf]
   rw[e1,← ih (ad+1) (by omega) (by omega)]
   refine it_next ?_
   simp only[u13_30_8_0,t13_30_8_0]
   rw[decide_eq_true (show ad<to by omega),f23_eq _ hP,hg',hnext];rfl
def addT (now:Int)(T:List TT)(x:TT):List TT:=if x.2≤now∨1073741824<x.2 then T else sortT (T++[x])
def clkT (s:ST)(j:Nat):List TT:=(s.2.2.2.2.1.take j).foldl (fun T x=>addT s.2.2.1 T (tmr s.2.1.2.1 x)) []
theorem blk_num {s:ST}(M:MayS s){x:LT}(hx:x∈s.2.2.2.2.1):(0≤x.2.1∧x.2.1<4)∧(0≤x.2.2.1∧x.2.2.1<8)∧s.2.2.1<x.2.2.2.2+s.2.1.2.1∧x.2.2.2.2≤1073741824∧0≤x.2.2.2.2:=by
 have h:=M.leases.each x hx
 have h1:=h.blk
 have:=M.fit.y2
 have:=M.fit.blk
 have h2:=h1.2.1
 have h3:=h1.2.2
 have h4:=h.idle
 have h5:=h.last2
 have h6:=M.now1
 have h7:=h.from0
 have h8:=h.last1
 exact⟨by omega,by omega,by omega,by omega,by omega⟩
structure ClkP (s:ST)(j:Nat)(T:List TT):Prop where
 wh:WhP s.2.2.1 T
 mem:∀ t,t∈T↔∃ x∈s.2.2.2.2.1.take j,t=tmr s.2.1.2.1 x∧t.2≤1073741824
 len:T.length≤j
theorem pw_sortT {R:TT→TT→Prop}(hs:∀ x y,R x y→R y x){l:List TT}(h:l.Pairwise R):(sortT l).Pairwise R:=
 (sortT_perm l).symm.pairwise h fun {x y}=>hs x y
theorem clk_step {s:ST}(M:MayS s){j:Nat}(hj:j<s.2.2.2.2.1.length){T:List TT}(C:ClkP s j T) :
  (∀ t∈T,t.1≠(tmr s.2.1.2.1 s.2.2.2.2.1[j]).1)∧ClkP s (j+1) (addT s.2.2.1 T (tmr s.2.1.2.1 s.2.2.2.2.1[j])):=by
 have hx:=blk_num M (List.getElem_mem hj)
 have hlen:=M.len
 have hne:∀ t∈T,t.1≠(tmr s.2.1.2.1 s.2.2.2.2.1[j]).1:=by
  intro t ht e
  obtain⟨y,hy,rfl,_⟩:=(C.mem t).1 ht
  obtain⟨i,hi,rfl⟩:=List.mem_take_iff_getElem.1 hy
  have hy':=blk_num M (List.getElem_mem (show i<s.2.2.2.2.1.length by omega))
  have hlt:ltB _ _ _ _:=List.pairwise_iff_getElem.1 M.leases.srt i j (by omega) hj (by omega)
  unfold ltB at hlt
  unfold tmr at e
  simp only at e
  omega
 refine⟨hne,?_⟩
 have hmem:∀ t,(∃ x∈s.2.2.2.2.1.take (j+1),t=tmr s.2.1.2.1 x∧t.2≤1073741824)↔t∈T∨(t=tmr s.2.1.2.1 s.2.2.2.2.1[j]∧t.2≤1073741824):=by
  intro t
  rw[take_snoc hj,C.mem]
  constructor
  ·rintro ⟨x,hx,h1,h2⟩
   rcases List.mem_append.1 hx with hx|hx
   ·exact .inl ⟨x,hx,h1,h2⟩
   ·rw[List.mem_singleton] at hx;subst hx;exact .inr ⟨h1,h2⟩
  ·rintro (⟨x,hx,h1,h2⟩|⟨h1,h2⟩)
   ·exact⟨x,List.mem_append.2 (.inl hx),h1,h2⟩
   ·exact⟨_,List.mem_append.2 (.inr (List.mem_singleton.2 rfl)),h1,h2⟩
 unfold addT
 by_cases hb:(tmr s.2.1.2.1 s.2.2.2.2.1[j]).2≤s.2.2.1∨1073741824<(tmr s.2.1.2.1 s.2.2.2.2.1[j]).2
 ·rw[if_pos hb]
  have hb2:1073741824<(tmr s.2.1.2.1 s.2.2.2.2.1[j]).2:=by
   rcases hb with h|h
   ·unfold tmr at h;simp only at h;omega
   ·exact h
  refine⟨C.wh,fun t=>?_,by have:=C.len;omega⟩
  rw[hmem]
  exact⟨.inl,fun h=>h.elim id fun⟨h1,h2⟩=>by rw[h1] at h2;omega⟩
 ·rw[if_neg hb]
  have hb1:s.2.2.1<(tmr s.2.1.2.1 s.2.2.2.2.1[j]).2:=by omega
  have hb2:(tmr s.2.1.2.1 s.2.2.2.2.1[j]).2≤1073741824:=by omega
  have hperm:=sortT_perm (T++[tmr s.2.1.2.1 s.2.2.2.2.1[j]])
  have hids:(sortT (T++[tmr s.2.1.2.1 s.2.2.2.2.1[j]])).Pairwise fun x y=>x.1≠y.1:=by
   refine pw_sortT (fun x y h e=>h e.symm) ?_
   rw[List.pairwise_append]
   exact⟨C.wh.ids,by simp,fun a ha b hb=>by rw[List.mem_singleton] at hb;subst hb;exact hne a ha⟩
  refine⟨⟨C.wh.now0,C.wh.now1,fun t ht=>?_,?_,hids,?_⟩,fun t=>?_,?_⟩
  ·rcases List.mem_append.1 (hperm.mem_iff.1 ht) with h|h
   ·exact C.wh.each t h
   ·rw[List.mem_singleton] at h;subst h
    exact⟨hb1,hb2,by unfold tmr;simp only;omega⟩
  ·refine ((sortT_pw _).and hids).imp fun {x y} h=>?_
   have h1:=tm_le.1 h.1
   have h2:=h.2
   unfold tmLt
   refine decide_eq_true ?_
   omega
  ·rw[sortT_len,List.length_append,List.length_singleton];have:=C.len;omega
  ·rw[hmem,hperm.mem_iff,List.mem_append,List.mem_singleton]
   exact⟨fun h=>h.elim .inl fun e=>.inr ⟨e,by rw[e];exact hb2⟩,fun h=>h.elim .inl fun e=>.inr e.1⟩
  ·rw[sortT_len,List.length_append,List.length_singleton];have:=C.len;omega
theorem clk_succ {s:ST}{j:Nat}(hj:j<s.2.2.2.2.1.length):clkT s (j+1)=addT s.2.2.1 (clkT s j) (tmr s.2.1.2.1 s.2.2.2.2.1[j]):=by
 unfold clkT
 rw[take_snoc hj,List.foldl_append];rfl
theorem clk_ok {s:ST}(M:MayS s):∀ j,j≤s.2.2.2.2.1.length→ClkP s j (clkT s j)
 | 0,_=>⟨⟨M.now0,M.now1,by simp[clkT],by simp[clkT],by simp[clkT],by simp[clkT]⟩,by simp[clkT],by simp[clkT]⟩
 | j+1,h=>by
  rw[clk_succ (show j<s.2.2.2.2.1.length by omega)]
  exact (clk_step M (by omega) (clk_ok M j (by omega))).2
theorem w13_add (s:ST)(M:MayS s)(v3 v4 v5 v6 v7 v8 v9 v10 v11 v12 v13:Int)(v14:Bool)(v15:Int)(v16:(List (Int×Int×Int)))(v17:(List (Int×Int×Int×Int×Int)))(v18:(List (Int×Int×Int)))(v19 v20 v21 v22 v23 v24 v25 v26:Int)(v27:Bool)(v28 v29 v30 v31 v32 v33 v34 v35 v36 v37 v38:Int)(v39:Bool)(v40 v41 v42 v43:Int)(v44 v46:(List (Int×Int×Int)))(v47 v48 v49 v50 v51 v52 v53 v54 v55 v57:Int)(v58:Bool)(v59 v60 v61 v62 v63 v64 v65 v66 v67:Int)(v68:Bool)(v69 v70 v71:Int)(v74:(List (Int×Int×Int)))(v75:(List (Int×Int×Int×Int×Int)))(v76:(List (Int×Int×Int)))(v77 v78:(List (Int×Int×Int×Int×Int×Int×Int×Int×Bool))) :
  iter big u13_33_3_0 (((),(),(),((s.2.2.2.2.1.length:Nat):Int),0,()),((v3,v4,v5,v6,v7,v8,v9,v10,v11,v12,v13,v14,v15,v16,v17,v18,()),(v19,v20,v21,v22,v23,v24,v25,v26,v27,()),(v28,v29,v30,v31,v32,v33,v34,v35,v36,v37,v38,v39,v40,(),(),(),()),((),()),(v41,v42,v43,()),((),(),(),(),(),(),(),(),(),()),v44,s.2.2.2.2.1,v46,(v47,v48,v49,v50,v51,v52,v53,v54,v55,s.2.1.2.1,v57,v58,v59,(),(),(),v60,v61,v62,v63,v64,v65,v66,v67,v68,(),v69,v70,v71,()),(s.2.2.1,[],()),()),v74,v75,v76,v77,v78,())=some (.inl (((),(),()),((v3,v4,v5,v6,v7,v8,v9,v10,v11,v12,v13,v14,v15,v16,v17,v18,()),(v19,v20,v21,v22,v23,v24,v25,v26,v27,()),(v28,v29,v30,v31,v32,v33,v34,v35,v36,v37,v38,v39,v40,(),(),(),()),((),()),(v41,v42,v43,()),((),(),(),(),(),(),(),(),(),()),v44,s.2.2.2.2.1,v46,(v47,v48,v49,v50,v51,v52,v53,v54,v55,s.2.1.2.1,v57,v58,v59,(),(),(),v60,v61,v62,v63,v64,v65,v66,v67,v68,(),v69,v70,v71,()),(s.2.2.1,(clkT s s.2.2.2.2.1.length),()),()),v74,v75,v76,v77,v78,())):=by
 have hlen:=M.len
 refine it_all (u:=u13_33_3_0) (fun j=>(((),(),(),((s.2.2.2.2.1.length:Nat):Int),((j:Nat):Int),()),((v3,v4,v5,v6,v7,v8,v9,v10,v11,v12,v13,v14,v15,v16,v17,v18,()),(v19,v20,v21,v22,v23,v24,v25,v26,v27,()),(v28,v29,v30,v31,v32,v33,v34,v35,v36,v37,v38,v39,v40,(),(),(),()),((),()),(v41,v42,v43,()),((),(),(),(),(),(),(),(),(),()),v44,s.2.2.2.2.1,v46,(v47,v48,v49,v50,v51,v52,v53,v54,v55,s.2.1.2.1,v57,v58,v59,(),(),(),v60,v61,v62,v63,v64,v65,v66,v67,v68,(),v69,v70,v71,()),(s.2.2.1,(clkT s j),()),()),v74,v75,v76,v77,v78,())) (n:=s.2.2.2.2.1.length) (y:=(((),(),()),((v3,v4,v5,v6,v7,v8,v9,v10,v11,v12,v13,v14,v15,v16,v17,v18,()),(v19,v20,v21,v22,v23,v24,v25,v26,v27,()),(v28,v29,v30,v31,v32,v33,v34,v35,v36,v37,v38,v39,v40,(),(),(),()),((),()),(v41,v42,v43,()),((),(),(),(),(),(),(),(),(),()),v44,s.2.2.2.2.1,v46,(v47,v48,v49,v50,v51,v52,v53,v54,v55,s.2.1.2.1,v57,v58,v59,(),(),(),v60,v61,v62,v63,v64,v65,v66,v67,v68,(),v69,v70,v71,()),(s.2.2.1,(clkT s s.2.2.2.2.1.length),()),()),v74,v75,v76,v77,v78,())) (fun j hj=>?_) ?_ 0 big (Nat.zero_le _) (by unfold big;omega)
 ·have hx:=blk_num M (List.getElem_mem hj)
  have C:=clk_ok M j (by omega)
  have hs:=clk_step M hj C
  have hi:=M.pol.2.1
  have hb0:=hx.1
  have hb1:=hx.2.1
  simp only[u13_33_3_0,t13_33_3_0,ltn hj,ge0,cond_true,Bool.and_self,Int.toNat_natCast,rdL hj,decide_eq_true hj,nx hj (show s.2.2.2.2.1.length≤9223372036854775807 by omega)]
  rw[w64 (x:=s.2.2.2.2.1[j].2.1 * 8) (by omega) (by omega),w64 (x:=s.2.2.2.2.1[j].2.1 * 8+s.2.2.2.2.1[j].2.2.1) (by omega) (by omega),w64 (x:=s.2.2.2.2.1[j].2.2.2.2+s.2.1.2.1) (by omega) (by omega)]
  rw[f68_eq (id:=s.2.2.2.2.1[j].2.1 * 8+s.2.2.2.2.1[j].2.2.1) (at':=s.2.2.2.2.1[j].2.2.2.2+s.2.1.2.1) C.wh (by omega) (fun t ht=>hs.1 t ht) (by have:=C.len;omega)]
  rw[clk_succ hj]
  unfold addT
  by_cases hb:s.2.2.2.2.1[j].2.2.2.2+s.2.1.2.1≤s.2.2.1∨1073741824<s.2.2.2.2.1[j].2.2.2.2+s.2.1.2.1
  ·rw[if_pos hb,if_pos (show (tmr s.2.1.2.1 s.2.2.2.2.1[j]).2≤s.2.2.1∨1073741824<(tmr s.2.1.2.1 s.2.2.2.2.1[j]).2 from hb)];rfl
  ·rw[if_neg hb,if_neg (show ¬ ((tmr s.2.1.2.1 s.2.2.2.2.1[j]).2≤s.2.2.1∨1073741824<(tmr s.2.1.2.1 s.2.2.2.2.1[j]).2) from hb)];rfl
 ·simp only[u13_33_3_0,t13_33_3_0,nlt,cond_false]
theorem due_tmr {s:ST}(M:MayS s){n:Int}(hn:n≤1073741824):(clkT s s.2.2.2.2.1.length).filter (fun x=>decide (x.2≤n))=(dueL s n).map (tmr s.2.1.2.1):=by
 have C:=clk_ok M _ (Nat.le_refl _)
 have hinj:∀ x∈s.2.2.2.2.1,∀ y∈s.2.2.2.2.1,(tmr s.2.1.2.1 x).1=(tmr s.2.1.2.1 y).1→kL x=kL y:=by
  intro x hx y hy e
  have h1:=blk_num M hx
  have h2:=blk_num M hy
  unfold tmr at e
  simp only at e
  unfold kL
  rw[Prod.mk.injEq]
  omega
 have hnd:((dueL s n).map (tmr s.2.1.2.1)).Pairwise fun x y=>x.1≠y.1:=by
  rw[List.pairwise_map]
  refine List.Pairwise.imp_of_mem (fun {x y} hx hy h e=>h (hinj x (mem_due.1 hx).1 y (mem_due.1 hy).1 e)) (due_keys M n)
 have hle:((dueL s n).map (tmr s.2.1.2.1)).Pairwise fun x y=>(!tmLt y x)=true:=by
  rw[List.pairwise_map]
  unfold dueL
  refine List.pairwise_mergeSort (fun a b c h1 h2=>?_) (fun a b=>?_) _
  ·rw[tm_le] at *;omega
  ·rw[Bool.or_eq_true,tm_le,tm_le];omega
 refine pw_unique ((C.wh.srt.filter _).imp fun {x y} h=>?_) hle ?_
 ·rw[tm_le]
  unfold tmLt at h
  simp only[decide_eq_true_eq] at h
  omega
 ·refine (List.perm_ext_iff_of_nodup ((C.wh.ids.filter _).imp fun {x y} h e=>h (by rw[e])) (hnd.imp fun {x y} h e=>h (by rw[e]))).2 fun t=>?_
  rw[List.mem_filter,C.mem,List.take_length,List.mem_map]
  constructor
  ·rintro ⟨⟨x,hx,rfl,_⟩,h2⟩
   exact⟨x,mem_due.2 ⟨hx,of_decide_eq_true h2⟩,rfl⟩
  ·rintro ⟨x,hx,rfl⟩
   have hx:=mem_due.1 hx
   exact⟨⟨x,hx.1,rfl,by unfold tmr;simp only;omega⟩,decide_eq_true hx.2⟩
noncomputable def frT (s:ST)(n:Int)(j:Nat):ST:=freeAll s ((dueL s n).take j)
def frE (s:ST)(n:Int)(j:Nat):List ET:=((dueL s n).take j).map fun x=>freeE x (x.2.2.2.2+s.2.1.2.1)
theorem frT_succ {s:ST}{n:Int}{j:Nat}(hj:j<(dueL s n).length):frT s n (j+1)=freeT (frT s n j) (dueL s n)[j] ((dueL s n)[j].2.2.2.2+s.2.1.2.1):=by
 unfold frT freeAll
 rw[take_snoc hj,List.foldl_append];rfl
theorem frT_ok {s:ST}(M:MayS s)(n:Int)(j:Nat):Freed s ((dueL s n).take j) (frT s n j):=by
 have:=freed_all M ((dueL s n).take j) [] s (freed_nil M) (fun x hx=>(mem_due.1 (List.mem_of_mem_take hx)).1) (by rw[List.nil_append];exact (due_keys M n).sublist (List.take_sublist _ _))
 rw[List.nil_append] at this
 exact this
theorem holdH_le (H:List HT)(x:HT):(holdH H x).length≤H.length+1:=by
 unfold holdH
 rw[insK_len]
 have:=List.length_filter_le (fun y=>!decide (kH y=kH x)) H
 omega
theorem frH_len {s:ST}(n:Int):∀ j,j≤(dueL s n).length→(frT s n j).2.2.2.2.2.length≤s.2.2.2.2.2.length+j
 | 0,_=>Nat.le_refl _
 | j+1,h=>by
  have ih:=frH_len (s:=s) n j (by omega)
  rw[frT_succ (show j<(dueL s n).length by omega)]
  show (if 0<(frT s n j).2.1.2.2.1 then _ else _:List HT).length≤_
  split
  ·have:=holdH_le (frT s n j).2.2.2.2.2 ((dueL s n)[j].2.1,(dueL s n)[j].2.2.1,(dueL s n)[j].2.2.2.2+s.2.1.2.1+(frT s n j).2.1.2.2.1)
   omega
  ·omega
theorem w13_free (s:ST)(M:MayS s)(n:Int)(v1:(List (Int×Int)))(v5 v6 v7 v8 v9 v10 v11 v12 v13 v14 v15:Int)(v16:Bool)(v17:Int)(v18:(List (Int×Int×Int)))(v19:(List (Int×Int×Int×Int×Int)))(v20:(List (Int×Int×Int)))(v21 v22 v23 v24 v25 v26 v27 v28:Int)(v29:Bool)(v30 v31 v32 v33 v34 v35 v36 v37 v38 v39 v40:Int)(v41:Bool)(v42 v43 v44 v45:Int)(v46:(List (Int×Int×Int)))(v47:(List (Int×Int×Int×Int×Int)))(v48:(List (Int×Int×Int)))(v49 v50 v51 v52 v53 v54 v55 v56 v57 v58:Int)(v60:Bool)(v61 v62 v63 v64 v65 v66 v67 v68 v69:Int)(v70:Bool)(v71 v72 v73:Int)(v74:(List (Int×Int×Int)))(v75:(List (Int×Int×Int×Int×Int)))(v76:(List (Int×Int×Int)))(v77:(List (Int×Int×Int×Int×Int×Int×Int×Int×Bool)))(v78:(List (Int×Int×Int))) :
  iter big u13_33_10_0 (((),v1,((dueL s n).map (tmr s.2.1.2.1)),((((dueL s n).map (tmr s.2.1.2.1)).length:Nat):Int),0,()),((v5,v6,v7,v8,v9,v10,v11,v12,v13,v14,v15,v16,v17,v18,v19,v20,()),(v21,v22,v23,v24,v25,v26,v27,v28,v29,()),(v30,v31,v32,v33,v34,v35,v36,v37,v38,v39,v40,v41,v42,(),(),(),()),((),()),(v43,v44,v45,()),((),(),(),(),(),(),(),(),(),()),v46,v47,v48,(v49,v50,v51,v52,v53,v54,v55,v56,v57,v58,s.2.1.2.2.1,v60,v61,(),(),(),v62,v63,v64,v65,v66,v67,v68,v69,v70,(),v71,v72,v73,()),()),v74,v75,v76,v77,v78,s.2.2.2.2.1,s.2.2.2.2.2,[],())=some (.inl (((),v1,()),((v5,v6,v7,v8,v9,v10,v11,v12,v13,v14,v15,v16,v17,v18,v19,v20,()),(v21,v22,v23,v24,v25,v26,v27,v28,v29,()),(v30,v31,v32,v33,v34,v35,v36,v37,v38,v39,v40,v41,v42,(),(),(),()),((),()),(v43,v44,v45,()),((),(),(),(),(),(),(),(),(),()),v46,v47,v48,(v49,v50,v51,v52,v53,v54,v55,v56,v57,v58,s.2.1.2.2.1,v60,v61,(),(),(),v62,v63,v64,v65,v66,v67,v68,v69,v70,(),v71,v72,v73,()),()),v74,v75,v76,v77,v78,(frT s n (dueL s n).length).2.2.2.2.1,(frT s n (dueL s n).length).2.2.2.2.2,(frE s n (dueL s n).length),())):=by
 have hlen:=M.len
 have hlenH:=M.lenH
 have hdl:(dueL s n).length≤32:=by
  unfold dueL
  rw[List.length_mergeSort]
  have:=List.length_filter_le (fun x=>decide ((tmr s.2.1.2.1 x).2≤n)) s.2.2.2.2.1
  omega
 have hml:((dueL s n).map (tmr s.2.1.2.1)).length=(dueL s n).length:=List.length_map _
 have key:=it_all (u:=u13_33_10_0) (fun j=>(((),v1,((dueL s n).map (tmr s.2.1.2.1)),((((dueL s n).map (tmr s.2.1.2.1)).length:Nat):Int),((j:Nat):Int),()),((v5,v6,v7,v8,v9,v10,v11,v12,v13,v14,v15,v16,v17,v18,v19,v20,()),(v21,v22,v23,v24,v25,v26,v27,v28,v29,()),(v30,v31,v32,v33,v34,v35,v36,v37,v38,v39,v40,v41,v42,(),(),(),()),((),()),(v43,v44,v45,()),((),(),(),(),(),(),(),(),(),()),v46,v47,v48,(v49,v50,v51,v52,v53,v54,v55,v56,v57,v58,s.2.1.2.2.1,v60,v61,(),(),(),v62,v63,v64,v65,v66,v67,v68,v69,v70,(),v71,v72,v73,()),()),v74,v75,v76,v77,v78,(frT s n j).2.2.2.2.1,(frT s n j).2.2.2.2.2,(frE s n j),())) (n:=((dueL s n).map (tmr s.2.1.2.1)).length) (y:=(((),v1,()),((v5,v6,v7,v8,v9,v10,v11,v12,v13,v14,v15,v16,v17,v18,v19,v20,()),(v21,v22,v23,v24,v25,v26,v27,v28,v29,()),(v30,v31,v32,v33,v34,v35,v36,v37,v38,v39,v40,v41,v42,(),(),(),()),((),()),(v43,v44,v45,()),((),(),(),(),(),(),(),(),(),()),v46,v47,v48,(v49,v50,v51,v52,v53,v54,v55,v56,v57,v58,s.2.1.2.2.1,v60,v61,(),(),(),v62,v63,v64,v65,v66,v67,v68,v69,v70,(),v71,v72,v73,()),()),v74,v75,v76,v77,v78,(frT s n (dueL s n).length).2.2.2.2.1,(frT s n (dueL s n).length).2.2.2.2.2,(frE s n (dueL s n).length),())) (fun j hj=>by
  have hj':j<(dueL s n).length:=by omega
  have hd:=mem_due.1 (List.getElem_mem hj')
  have hx:=blk_num M hd.1
  have hi:=M.pol.2
  have F:=frT_ok M n j
  have eP:(frT s n j).2.1.2.2.1=s.2.1.2.2.1:=by rw[F.pol]
  have eN:=frT_succ hj'
  have hHl:=frH_len (s:=s) n j (by omega)
  have hsub:(frT s n j).2.2.2.2.1.length≤32:=by
   rw[F.leases]
   have:=List.length_filter_le (fun y=>!((dueL s n).take j).any fun x=>decide (kL x=kL y)) s.2.2.2.2.1
   omega
  have hhas:hasL (frT s n j).2.2.2.2.1 (dueL s n)[j].2.1 (dueL s n)[j].2.2.1=true:=by
   refine hasL_mem.2 ⟨(dueL s n)[j],?_,rfl⟩
   rw[F.leases,List.mem_filter]
   refine⟨hd.1,?_⟩
   rw[Bool.not_eq_true',List.any_eq_false]
   intro y hy e
   obtain⟨i,hi,rfl⟩:=List.mem_take_iff_getElem.1 hy
   exact List.pairwise_iff_getElem.1 (due_keys M n) i j (by omega) hj' (by omega) (by simpa using e)
  have hmine:=mine_mem hhas
  have hlt:(frT s n j).2.2.2.2.1.findIdx (isL (dueL s n)[j].2.1 (dueL s n)[j].2.2.1)<(frT s n j).2.2.2.2.1.length:=by
   unfold hasL at hhas
   rw[List.any_eq_true] at hhas
   exact List.findIdx_lt_length.2 hhas
  have emine:(frT s n j).2.2.2.2.1[(frT s n j).2.2.2.2.1.findIdx (isL (dueL s n)[j].2.1 (dueL s n)[j].2.2.1)]=(dueL s n)[j]:=by
   have e1:mineL (frT s n j).2.2.2.2.1 (dueL s n)[j].2.1 (dueL s n)[j].2.2.1=(frT s n j).2.2.2.2.1[(frT s n j).2.2.2.2.1.findIdx (isL (dueL s n)[j].2.1 (dueL s n)[j].2.2.1)]:=by
    unfold mineL
    rw[List.getD_eq_getElem?_getD,List.getElem?_eq_getElem hlt,Option.getD_some]
   rw[← e1]
   have hin:mineL (frT s n j).2.2.2.2.1 (dueL s n)[j].2.1 (dueL s n)[j].2.2.1∈s.2.2.2.2.1:=by
    have sub:∀ z∈(frT s n j).2.2.2.2.1,z∈s.2.2.2.2.1:=fun z hz=>by rw[F.leases] at hz;exact (List.mem_filter.1 hz).1
    exact sub _ hmine.1
   exact srtK_inj (k:=kL) M.leases.srt hin hd.1 hmine.2
  have efind:findL (frT s n j).2.2.2.2.1 (dueL s n)[j].2.1 (dueL s n)[j].2.2.1=(((frT s n j).2.2.2.2.1.findIdx (isL (dueL s n)[j].2.1 (dueL s n)[j].2.2.1):Nat):Int):=if_pos hlt
  have g1:((dueL s n).map (tmr s.2.1.2.1))[j]=tmr s.2.1.2.1 (dueL s n)[j]:=List.getElem_map _
  have hev:(frE s n j).length≤1000:=by unfold frE;rw[List.length_map,List.length_take];omega
  have d1:IntKind.wrap .i64 (Int.tdiv ((dueL s n)[j].2.1 * 8+(dueL s n)[j].2.2.1) 8)=(dueL s n)[j].2.1:=by
   rw[Int.tdiv_eq_ediv_of_nonneg (by omega),w64 (by omega) (by omega)];omega
  have d2:Int.tmod ((dueL s n)[j].2.1 * 8+(dueL s n)[j].2.2.1) 8=(dueL s n)[j].2.2.1:=by
   rw[Int.tmod_eq_emod_of_nonneg (by omega)];omega
  have hw:IntKind.wrap .i64 ((dueL s n)[j].2.2.2.2+s.2.1.2.1+s.2.1.2.2.1)=(dueL s n)[j].2.2.2.2+s.2.1.2.1+s.2.1.2.2.1:=w64 (by omega) (by omega)
  have cap72:(decide (((frE s n j).length+1) * 72≤140737488355328)&&decide ((frE s n j).length+1≤9223372036854775807))=true:=by
   rw[decide_eq_true (by omega),decide_eq_true (by omega)];rfl
  have eE:frE s n (j+1)=frE s n j++[freeE (dueL s n)[j] ((dueL s n)[j].2.2.2.2+s.2.1.2.1)]:=by
   unfold frE
   rw[take_snoc hj',List.map_append];rfl
  simp only[u13_33_10_0,t13_33_10_0,ltn hj,ge0,cond_true,Bool.and_self,Int.toNat_natCast,rdB2 hj,nx hj (show ((dueL s n).map (tmr s.2.1.2.1)).length≤9223372036854775807 by omega),g1,tmr,d1,d2,hw]
  rw[f22_eq _ (by unfold Sz;omega),efind]
  simp only[Option.bind_some,ge0,ltn hlt,Bool.and_self,cond_true,Int.toNat_natCast,decide_eq_true hlt,rdL hlt,emine]
  rw[f24_eq _ (by omega),if_pos hhas]
  simp only[Option.bind_some,cap72,cond_true]
  by_cases hp:0<s.2.1.2.2.1
  ·rw[decide_eq_true hp]
   simp only[cond_true]
   have h103:=f103_eq (frT s n j).2.2.2.2.2 (by omega) ((dueL s n)[j].2.1,(dueL s n)[j].2.2.1,(dueL s n)[j].2.2.2.2+s.2.1.2.1+s.2.1.2.2.1)
   simp only at h103
   rw[h103]
   simp only[Option.bind_some]
   rw[eN,eE]
   unfold freeT
   rw[eP,if_pos hp];rfl
  ·rw[decide_eq_false hp]
   simp only[cond_false]
   rw[eN,eE]
   unfold freeT
   rw[eP,if_neg hp];rfl)
  (by rw[hml];simp only[u13_33_10_0,t13_33_10_0,hml,nlt,cond_false])
  0 big (Nat.zero_le _) (by unfold big;omega)
 exact key
set_option maxHeartbeats 4000000
def ofL (L:List LT)(sub:Int)(n:Nat):List Int:=((List.range n).filter fun j=>decide ((L.getD j L0).1=sub)).map fun (j:Nat)=>((j:Nat):Int)
theorem ofL_succ (L:List LT)(sub:Int){j:Nat}(hj:j<L.length):ofL L sub (j+1)=if L[j].1=sub then ofL L sub j++[(j:Int)] else ofL L sub j:=by
 unfold ofL
 have e:L.getD j L0=L[j]:=by rw[List.getD_eq_getElem?_getD,List.getElem?_eq_getElem hj,Option.getD_some]
 rw[List.range_succ,List.filter_append]
 by_cases h:L[j].1=sub
 ·rw[if_pos h,List.filter_cons_of_pos (by rw[e];exact decide_eq_true h),List.filter_nil,List.map_append];rfl
 ·rw[if_neg h,List.filter_cons_of_neg (by rw[e,decide_eq_false h];simp),List.filter_nil,List.append_nil]
theorem ofL_len (L:List LT)(sub:Int):∀ n,n≤L.length→(ofL L sub n).length=cnt (L.take n) sub
 | 0,_=>rfl
 | n+1,h=>by
  have hlt:n<L.length:=by omega
  rw[ofL_succ L sub hlt,take_snoc hlt,cnt_snoc]
  have:=ofL_len L sub n (by omega)
  split
  ·rw[List.length_append,this];rfl
  ·rw[this];rfl
theorem f21_eq (L:List LT)(hL:L.length≤1000)(sub:Int):f21 L sub=some (ofL L sub L.length,()):=by
 unfold f21
 have e:iter big u21_3 ((sub,L,((L.length:Nat):Int),0,()),(),[],())=some (.inl ((),(),ofL L sub L.length,())):=by
  refine it_all (u:=u21_3) (fun j=>((sub,L,((L.length:Nat):Int),((j:Nat):Int),()),(),ofL L sub j,())) (n:=L.length) (y:=((),(),ofL L sub L.length,())) (fun j hj=>?_) ?_ 0 big (Nat.zero_le _) (by unfold big;omega)
  ·have hlen:=ofL_len L sub j (by omega)
   have:cnt (L.take j) sub≤j:=by
    have:=List.countP_le_length (p:=fun x:LT=>decide (x.1=sub)) (l:=L.take j)
    rw[List.length_take] at this
    unfold cnt;omega
   have cap:(decide (((ofL L sub j).length+1) * 8≤140737488355328)&&decide ((ofL L sub j).length+1≤9223372036854775807))=true:=by
    rw[decide_eq_true (by omega),decide_eq_true (by omega)];rfl
   simp only[u21_3,t21_3,ltn hj,ge0,cond_true,Bool.and_self,Int.toNat_natCast,rdL hj,nx hj (show L.length≤9223372036854775807 by omega),cap]
   rw[ofL_succ L sub hj]
   by_cases h:L[j].1=sub
   ·rw[if_pos h,decide_eq_true h];rfl
   ·rw[if_neg h,decide_eq_false h];rfl
  ·simp only[u21_3,t21_3,nlt,cond_false]
 rw[e];rfl
theorem f67_eq {now:Int}(h0:0≤now)(h1:now≤1073741824):f67 now=some ((now,[]),true,()):=by
 unfold f67
 rw[f104_ok ⟨h0,h1,by simp,by simp,by simp,by simp⟩];rfl
theorem c72:(decide ((72:Nat)≤140737488355328)&&decide ((1:Nat)≤9223372036854775807))=true:=by decide
theorem c72':(decide ((([]:List ET).length+1) * 72≤140737488355328)&&decide (([]:List ET).length+1≤9223372036854775807))=true:=by decide
section
variable (s:ST)(r:RT)
abbrev ansT (d:DoT):Option (ST×List ET×AT×Unit):=some (d.1,d.2.1,d.2.2,())
theorem d13_no (h:Sm s)(hn:¬ (MayS s∧0≤r.1∧r.1<9)):f13 s.1.1.1 s.1.1.2 s.1.2.1.1 s.1.2.1.2 s.1.2.2.1 s.1.2.2.2.1 s.1.2.2.2.2.1 s.1.2.2.2.2.2 s.2.1.1 s.2.1.2.1 s.2.1.2.2.1 s.2.1.2.2.2 s.2.2.1 s.2.2.2.1 s.2.2.2.2.1 s.2.2.2.2.2 r.1 r.2.1 r.2.2.1 r.2.2.2.1 r.2.2.2.2.1 r.2.2.2.2.2.1 r.2.2.2.2.2.2.1 r.2.2.2.2.2.2.2.1 r.2.2.2.2.2.2.2.2=ansT (errS s 1):=by
 unfold f13
 rw[f15_eq s h.szP h.szL h.szH]
 simp only[Option.bind_some]
 have own:=f40_eq s h
 by_cases M:MayS s
 ·rw[decide_eq_true M]
  simp only[cond_true]
  by_cases h0:0≤r.1
  ·rw[decide_eq_true h0,decide_eq_false (show ¬ r.1<9 from fun h9=>hn ⟨M,h0,h9⟩)]
   simp only[cond_true,Bool.not_false]
   rw[own];rfl
  ·rw[decide_eq_false h0]
   simp only[cond_false]
   rw[own];rfl
 ·rw[decide_eq_false M]
  simp only[cond_false]
  rw[own];rfl
theorem d13_grant (h:Sm s)(M:MayS s)(hk:r.1=0):f13 s.1.1.1 s.1.1.2 s.1.2.1.1 s.1.2.1.2 s.1.2.2.1 s.1.2.2.2.1 s.1.2.2.2.2.1 s.1.2.2.2.2.2 s.2.1.1 s.2.1.2.1 s.2.1.2.2.1 s.2.1.2.2.2 s.2.2.1 s.2.2.2.1 s.2.2.2.2.1 s.2.2.2.2.2 r.1 r.2.1 r.2.2.1 r.2.2.2.1 r.2.2.2.2.1 r.2.2.2.2.2.1 r.2.2.2.2.2.2.1 r.2.2.2.2.2.2.2.1 r.2.2.2.2.2.2.2.2=ansT (grantS s r.2.1):=by
 unfold f13
 rw[f15_eq s h.szP h.szL h.szH]
 simp only[Option.bind_some]
 have own:=f40_eq s h
 have hl32:=M.len
 rw[decide_eq_true M,decide_eq_true (show (0:Int)≤r.1 by omega),decide_eq_true (show r.1<9 by omega),decide_eq_true hk]
 simp only[cond_true,Bool.not_true,cond_false,own,Option.bind_some]
 rw[f19_eq]
 simp only[Option.bind_some]
 unfold grantS
 by_cases hs:SubP s.1 r.2.1
 case neg=>
  rw[decide_eq_false hs,if_pos hs]
  simp only[Bool.not_false,cond_true,own,Option.bind_some];rfl
 rw[decide_eq_true hs,if_neg (not_not_intro hs),if_pos hs]
 simp only[Bool.not_true,cond_false]
 rw[f21_eq _ h.l]
 simp only[Option.bind_some]
 rw[ofL_len _ _ _ (Nat.le_refl _),List.take_length]
 by_cases hq:((cnt s.2.2.2.2.1 r.2.1:Nat):Int)<s.2.1.1
 case neg=>
  rw[decide_eq_false hq,if_pos hq]
  simp only[Bool.not_false,cond_true,own,Option.bind_some];rfl
 rw[decide_eq_true hq,if_neg (not_not_intro hq)]
 simp only[Bool.not_true,cond_false,f46_eq,Option.bind_some]
 have hb:=M.fit.base hs.2.1 hs.2.2
 have hy:=M.fit.y2
 have hy1:=M.fit.y1
 have hP:Sz s.2.2.2.1:=h.szP
 have n0:=M.now0
 have n1:=M.now1
 have hb8:=M.fit.blk
 have hb0:0≤blks s.1:=Int.ediv_nonneg M.fit.g1 (by have:=M.fit.h1;omega)
 have f100e:=fun a=>f100_ok M.fit s.2.2.2.2.1 s.2.2.2.2.2 (by omega) (by have:=M.lenH;omega) a
 have f99e:=fun a=>f99_ok (show (blks s.1).toNat≤8 by omega) (useU_lt a (s.2.2.2.2.1.map kL++s.2.2.2.2.2.map kH) (Nat.two_pow_pos (blks s.1).toNat))
 have put:∀ a b,f63 s.2.2.2.2.1 r.2.1 a b s.2.2.1 s.2.2.1=some ((putL s.2.2.2.2.1 (r.2.1,a,b,s.2.2.1,s.2.2.1)).1,(putL s.2.2.2.2.1 (r.2.1,a,b,s.2.2.1,s.2.2.1)).2,()):=fun a b=>f63_eq s.2.2.2.2.1 h.l (r.2.1,a,b,s.2.2.1,s.2.2.1)
 have eb:(baseI s.1 r.2.1).1=r.2.1 / rat s.1:=rfl
 by_cases hp:s.2.1.2.2.2=true
 ·have hc:∀ {α:Type} (a b:α),cond s.2.1.2.2.2 a b=a:=fun a b=>by rw[hp];rfl
  rw[hc,if_pos hp]
  simp only[f20_eq _ hP,Option.bind_some,eb]
  by_cases h1:poolOf s.2.2.2.1 (r.2.1 / rat s.1) = -1
  ·rw[decide_eq_true h1,if_pos h1]
   simp only[Bool.not_true,Bool.not_false,cond_true,cond_false,own,Option.bind_some];rfl
  rw[decide_eq_false h1,if_neg h1]
  simp only[Bool.not_true,Bool.not_false,cond_true,cond_false,f23_eq _ hP,Option.bind_some]
  by_cases h2:givesB s.2.2.2.1 (r.2.1 / rat s.1)=false
  ·rw[h2,if_pos rfl]
   simp only[Bool.not_true,Bool.not_false,cond_true,cond_false,own,Option.bind_some];rfl
  have h2':givesB s.2.2.2.1 (r.2.1 / rat s.1)=true:=by simpa using h2
  rw[h2',if_neg (by simp)]
  simp only[Bool.not_true,Bool.not_false,cond_true,cond_false]
  rw[w64 (x:=r.2.1 / rat s.1+1) (by omega) (by omega)]
  rw[it_mono (k:=1+1) (n:=big) (by unfold big;omega) (w13_grant s M _ _ _ _ _ _ _ _ _ _ _ _ _ _ _ _ _ _ _ _ _ _ _ _ _ _ _ _ _ _ _ _ _ _ _ _ _ _ _ _ _ _ _ _ _ _ _ _ _ _ _ _ _ _ _ _ _ _ _ _ _ _ _ (r.2.1 / rat s.1+1) (by omega) 1 (r.2.1 / rat s.1) hb.1 rfl)]
  simp only[Option.bind_some]
  unfold grantAt
  have e1:(r.2.1 / rat s.1+1-r.2.1 / rat s.1).toNat=1:=by omega
  rw[e1]
  have g1:=firstAt_ge (blockI s) 1 (r.2.1 / rat s.1)
  have g2:=firstAt_ne (blockI s) 1 (r.2.1 / rat s.1)
  generalize firstAt (blockI s) 1 (r.2.1 / rat s.1)=x at g1 g2 ⊢
  by_cases h3:r.2.1 / rat s.1+1≤x
  ·rw[decide_eq_false (show ¬ x<r.2.1 / rat s.1+1 by omega),if_pos h3]
   simp only[Bool.not_true,Bool.not_false,cond_true,cond_false]
   simp only[own,Option.bind_some];rfl
  ·obtain⟨b1,b2,b3,b4⟩:=block_ok M (g2 (by omega)) (by omega) (by omega)
   have eB:blockI s x=firstI (blks s.1).toNat (useU (blks s.1).toNat x 0 (s.2.2.2.2.1.map kL++s.2.2.2.2.2.map kH)):=if_pos b1
   rw[decide_eq_true (show x<r.2.1 / rat s.1+1 by omega),if_neg h3]
   simp only[Bool.not_true,Bool.not_false,cond_true,cond_false,f23_eq _ hP,b1,f100e,f99e,Option.bind_some,← eB,put,c72']
   rfl
 ·have hp':s.2.1.2.2.2=false:=by simpa using hp
  have hc:∀ {α:Type} (a b:α),cond s.2.1.2.2.2 a b=b:=fun a b=>by rw[hp'];rfl
  rw[hc,if_neg hp]
  rw[it_mono (k:=(szY s.1).toNat+1) (n:=big) (by unfold big;omega) (w13_grant s M _ _ _ _ _ _ _ _ _ _ _ _ _ _ _ _ _ _ _ _ _ _ _ _ _ _ _ _ _ _ _ _ _ _ _ _ _ _ _ _ _ _ _ _ _ _ _ _ _ _ _ _ _ _ _ _ _ _ _ _ _ _ _ (szY s.1) (by omega) (szY s.1).toNat 0 (Int.le_refl _) (by omega))]
  simp only[Option.bind_some]
  unfold grantAt
  have e1:(szY s.1-0).toNat=(szY s.1).toNat:=by omega
  rw[e1]
  have g1:=firstAt_ge (blockI s) (szY s.1).toNat 0
  have g2:=firstAt_ne (blockI s) (szY s.1).toNat 0
  generalize firstAt (blockI s) (szY s.1).toNat 0=x at g1 g2 ⊢
  by_cases h3:szY s.1≤x
  ·rw[decide_eq_false (show ¬ x<szY s.1 by omega),if_pos h3]
   simp only[Bool.not_true,Bool.not_false,cond_true,cond_false]
   simp only[own,Option.bind_some];rfl
  ·obtain⟨b1,b2,b3,b4⟩:=block_ok M (g2 (by omega)) (by omega) (by omega)
   have eB:blockI s x=firstI (blks s.1).toNat (useU (blks s.1).toNat x 0 (s.2.2.2.2.1.map kL++s.2.2.2.2.2.map kH)):=if_pos b1
   rw[decide_eq_true (show x<szY s.1 by omega),if_neg h3]
   simp only[Bool.not_true,Bool.not_false,cond_true,cond_false,f23_eq _ hP,b1,f100e,f99e,Option.bind_some,← eB,put,c72']
   rfl
theorem mine_at {L:List LT}{a b:Int}(hh:hasL L a b=true):∃ (hlt:L.findIdx (isL a b)<L.length),findL L a b=((L.findIdx (isL a b):Nat):Int)∧L[L.findIdx (isL a b)]=mineL L a b:=by
 have hlt:L.findIdx (isL a b)<L.length:=by
  unfold hasL at hh
  rw[List.any_eq_true] at hh
  exact List.findIdx_lt_length.2 hh
 refine⟨hlt,if_pos hlt,?_⟩
 unfold mineL
 rw[List.getD_eq_getElem?_getD,List.getElem?_eq_getElem hlt,Option.getD_some]
theorem d13_refresh (h:Sm s)(M:MayS s)(hk:r.1=1):f13 s.1.1.1 s.1.1.2 s.1.2.1.1 s.1.2.1.2 s.1.2.2.1 s.1.2.2.2.1 s.1.2.2.2.2.1 s.1.2.2.2.2.2 s.2.1.1 s.2.1.2.1 s.2.1.2.2.1 s.2.1.2.2.2 s.2.2.1 s.2.2.2.1 s.2.2.2.2.1 s.2.2.2.2.2 r.1 r.2.1 r.2.2.1 r.2.2.2.1 r.2.2.2.2.1 r.2.2.2.2.2.1 r.2.2.2.2.2.2.1 r.2.2.2.2.2.2.2.1 r.2.2.2.2.2.2.2.2=ansT (refreshS s r.2.1 r.2.2.1 r.2.2.2.1):=by
 unfold f13
 rw[f15_eq s h.szP h.szL h.szH]
 simp only[Option.bind_some]
 have own:=f40_eq s h
 rw[decide_eq_true M,decide_eq_true (show (0:Int)≤r.1 by omega),decide_eq_true (show r.1<9 by omega),decide_eq_false (show ¬ r.1=0 by omega),decide_eq_true hk]
 simp only[cond_true,Bool.not_true,cond_false,own,Option.bind_some]
 rw[f22_eq _ h.szL]
 simp only[Option.bind_some]
 unfold refreshS
 by_cases hh:hasL s.2.2.2.2.1 r.2.2.1 r.2.2.2.1=true
 ·obtain⟨hlt,e1,e2⟩:=mine_at hh
  rw[e1,decide_eq_false (show ¬ ((s.2.2.2.2.1.findIdx (isL r.2.2.1 r.2.2.2.1):Nat):Int) = -1 by omega)]
  simp only[Bool.not_false,cond_true,ge0,ltn hlt,Bool.and_self,Int.toNat_natCast,decide_eq_true hlt,rdL hlt,e2]
  by_cases hm:(mineL s.2.2.2.2.1 r.2.2.1 r.2.2.2.1).1=r.2.1
  ·rw[decide_eq_true hm,if_neg (not_not_intro (show mineP s.2.2.2.2.1 r.2.1 r.2.2.1 r.2.2.2.1 from ⟨hh,hm⟩))];rfl
  ·rw[decide_eq_false hm,if_pos (show ¬ mineP s.2.2.2.2.1 r.2.1 r.2.2.1 r.2.2.2.1 from fun k=>hm k.2)];rfl
 ·have hh':hasL s.2.2.2.2.1 r.2.2.1 r.2.2.2.1=false:=by simpa using hh
  rw[decide_eq_true ((findL_none _ _ _).2 hh'),if_pos (show ¬ mineP s.2.2.2.2.1 r.2.1 r.2.2.1 r.2.2.2.1 from fun k=>hh k.1)];rfl
theorem d13_release (h:Sm s)(M:MayS s)(hk:r.1=2):f13 s.1.1.1 s.1.1.2 s.1.2.1.1 s.1.2.1.2 s.1.2.2.1 s.1.2.2.2.1 s.1.2.2.2.2.1 s.1.2.2.2.2.2 s.2.1.1 s.2.1.2.1 s.2.1.2.2.1 s.2.1.2.2.2 s.2.2.1 s.2.2.2.1 s.2.2.2.2.1 s.2.2.2.2.2 r.1 r.2.1 r.2.2.1 r.2.2.2.1 r.2.2.2.2.1 r.2.2.2.2.2.1 r.2.2.2.2.2.2.1 r.2.2.2.2.2.2.2.1 r.2.2.2.2.2.2.2.2=ansT (releaseS s r.2.1 r.2.2.1 r.2.2.2.1):=by
 unfold f13
 rw[f15_eq s h.szP h.szL h.szH]
 simp only[Option.bind_some]
 have own:=f40_eq s h
 have n0:=M.now0
 have n1:=M.now1
 have hp2:=M.pol.2.2
 rw[decide_eq_true M,decide_eq_true (show (0:Int)≤r.1 by omega),decide_eq_true (show r.1<9 by omega),decide_eq_false (show ¬ r.1=0 by omega),decide_eq_false (show ¬ r.1=1 by omega),decide_eq_true hk]
 simp only[cond_true,Bool.not_true,cond_false,own,Option.bind_some]
 rw[f22_eq _ h.szL]
 simp only[Option.bind_some]
 unfold releaseS
 by_cases hh:hasL s.2.2.2.2.1 r.2.2.1 r.2.2.2.1=true
 ·obtain⟨hlt,e1,e2⟩:=mine_at hh
  obtain⟨m1,m2⟩:=mine_mem hh
  have k1:(mineL s.2.2.2.2.1 r.2.2.1 r.2.2.2.1).2.1=r.2.2.1:=congrArg Prod.fst m2
  have k2:(mineL s.2.2.2.2.1 r.2.2.1 r.2.2.2.1).2.2.1=r.2.2.2.1:=congrArg Prod.snd m2
  rw[e1,decide_eq_false (show ¬ ((s.2.2.2.2.1.findIdx (isL r.2.2.1 r.2.2.2.1):Nat):Int) = -1 by omega)]
  simp only[Bool.not_false,cond_true,ge0,ltn hlt,Bool.and_self,Int.toNat_natCast,decide_eq_true hlt,rdL hlt,e2,decide_true]
  by_cases hm:(mineL s.2.2.2.2.1 r.2.2.1 r.2.2.2.1).1=r.2.1
  ·rw[decide_eq_true hm,if_neg (not_not_intro (show mineP s.2.2.2.2.1 r.2.1 r.2.2.1 r.2.2.2.1 from ⟨hh,hm⟩))]
   simp only[Bool.not_true,cond_false]
   rw[f24_eq _ h.l,if_pos (by rw[k1,k2];exact hh)]
   simp only[Option.bind_some,c72,cond_true]
   unfold freeT freeE
   by_cases hp:0<s.2.1.2.2.1
   ·rw[decide_eq_true hp,if_pos hp,w64 (x:=s.2.2.1+s.2.1.2.2.1) (by omega) (by omega)]
    simp only[cond_true]
    have h103:=f103_eq s.2.2.2.2.2 (by have:=M.lenH;omega) ((mineL s.2.2.2.2.1 r.2.2.1 r.2.2.2.1).2.1,(mineL s.2.2.2.2.1 r.2.2.1 r.2.2.2.1).2.2.1,s.2.2.1+s.2.1.2.2.1)
    simp only at h103
    rw[h103];rfl
   ·rw[decide_eq_false hp,if_neg hp];rfl
  ·rw[decide_eq_false hm,if_pos (show ¬ mineP s.2.2.2.2.1 r.2.1 r.2.2.1 r.2.2.2.1 from fun k=>hm k.2)];rfl
 ·have hh':hasL s.2.2.2.2.1 r.2.2.1 r.2.2.2.1=false:=by simpa using hh
  rw[decide_eq_true ((findL_none _ _ _).2 hh'),if_pos (show ¬ mineP s.2.2.2.2.1 r.2.1 r.2.2.1 r.2.2.2.1 from fun k=>hh k.1)];rfl
theorem d13_tick (h:Sm s)(M:MayS s)(hk:r.1=3):f13 s.1.1.1 s.1.1.2 s.1.2.1.1 s.1.2.1.2 s.1.2.2.1 s.1.2.2.2.1 s.1.2.2.2.2.1 s.1.2.2.2.2.2 s.2.1.1 s.2.1.2.1 s.2.1.2.2.1 s.2.1.2.2.2 s.2.2.1 s.2.2.2.1 s.2.2.2.2.1 s.2.2.2.2.2 r.1 r.2.1 r.2.2.1 r.2.2.2.1 r.2.2.2.2.1 r.2.2.2.2.2.1 r.2.2.2.2.2.2.1 r.2.2.2.2.2.2.2.1 r.2.2.2.2.2.2.2.2=ansT (tickS s r.2.2.2.2.1):=by
 unfold f13
 rw[f15_eq s h.szP h.szL h.szH]
 simp only[Option.bind_some]
 have own:=f40_eq s h
 have hl32:=M.len
 have hlH:=M.lenH
 rw[decide_eq_true M,decide_eq_true (show (0:Int)≤r.1 by omega),decide_eq_true (show r.1<9 by omega),decide_eq_false (show ¬ r.1=0 by omega),decide_eq_false (show ¬ r.1=1 by omega),decide_eq_false (show ¬ r.1=2 by omega),decide_eq_true hk]
 simp only[cond_true,Bool.not_true,cond_false,own,Option.bind_some,f67_eq M.now0 M.now1]
 rw[w13_add s M _ _ _ _ _ _ _ _ _ _ _ _ _ _ _ _ _ _ _ _ _ _ _ _ _ _ _ _ _ _ _ _ _ _ _ _ _ _ _ _ _ _ _ _ _ _ _ _ _ _ _ _ _ _ _ _ _ _ _ _ _ _ _ _ _ _ _ _ _ _ _ _]
 simp only[Option.bind_some]
 have C:=clk_ok M _ (Nat.le_refl _)
 rw[f69_eq C.wh]
 unfold tickS
 by_cases hn:r.2.2.2.2.1<s.2.2.1∨1073741824<r.2.2.2.2.1
 ·rw[if_pos hn,if_pos hn]
  simp only[Option.bind_some]
  rw[decide_eq_false (show ¬ (10:Int)=0 by omega)]
  simp only[Bool.not_false,cond_true,own,Option.bind_some];rfl
 ·rw[if_neg hn,if_neg hn]
  simp only[Option.bind_some,decide_true,Bool.not_true,cond_false]
  rw[due_tmr M (show r.2.2.2.2.1≤1073741824 by omega)]
  rw[w13_free s M r.2.2.2.2.1 _ _ _ _ _ _ _ _ _ _ _ _ _ _ _ _ _ _ _ _ _ _ _ _ _ _ _ _ _ _ _ _ _ _ _ _ _ _ _ _ _ _ _ _ _ _ _ _ _ _ _ _ _ _ _ _ _ _ _ _ _ _ _ _ _ _ _ _ _ _ _ _ _ _]
  have F:=frT_ok M r.2.2.2.2.1 (dueL s r.2.2.2.2.1).length
  have hH:=frH_len (s:=s) r.2.2.2.2.1 _ (Nat.le_refl _)
  have hdl:(dueL s r.2.2.2.2.1).length≤32:=by
   unfold dueL
   rw[List.length_mergeSort]
   have:=List.length_filter_le (fun x=>decide ((tmr s.2.1.2.1 x).2≤r.2.2.2.2.1)) s.2.2.2.2.1
   omega
  simp only[Option.bind_some]
  rw[f70_eq _ (by omega)]
  simp only[Option.bind_some]
  have eT:freeAll s (dueL s r.2.2.2.2.1)=frT s r.2.2.2.2.1 (dueL s r.2.2.2.2.1).length:=by unfold frT;rw[List.take_length]
  have eE:(dueL s r.2.2.2.2.1).map (fun x=>freeE x (x.2.2.2.2+s.2.1.2.1))=frE s r.2.2.2.2.1 (dueL s r.2.2.2.2.1).length:=by unfold frE;rw[List.take_length]
  rw[eT,eE,List.length_map]
  obtain⟨d,pol,now,pools,_,_,_⟩:=F
  generalize frT s r.2.2.2.2.1 (dueL s r.2.2.2.2.1).length=t at d pol now pools ⊢
  obtain⟨tD,tP,tN,tPl,tL,tH⟩:=t
  simp only at d pol now pools
  subst d pol now pools
  rfl
theorem busy_szP (s:ST)(h:Sm s):Sz (busyL s.2.2.2.2.1):=by
 have h1:(busyL s.2.2.2.2.1).length≤((s.2.2.2.2.1.map (·.2.1)).mergeSort fun x y=>decide (x≤y)).length:=compact_len _
 rw[List.length_mergeSort,List.length_map] at h1
 have:=h.l
 unfold Sz;omega
theorem d13_add (h:Sm s)(M:MayS s)(hk:r.1=4):f13 s.1.1.1 s.1.1.2 s.1.2.1.1 s.1.2.1.2 s.1.2.2.1 s.1.2.2.2.1 s.1.2.2.2.2.1 s.1.2.2.2.2.2 s.2.1.1 s.2.1.2.1 s.2.1.2.2.1 s.2.1.2.2.2 s.2.2.1 s.2.2.2.1 s.2.2.2.2.1 s.2.2.2.2.2 r.1 r.2.1 r.2.2.1 r.2.2.2.1 r.2.2.2.2.1 r.2.2.2.2.2.1 r.2.2.2.2.2.2.1 r.2.2.2.2.2.2.2.1 r.2.2.2.2.2.2.2.2=ansT (poolsS s (addP s.2.2.2.1 (szY s.1) r.2.2.1 r.2.2.2.2.1) (2,s.2.2.1,r.2.2.1,r.2.2.2.2.1,0,P0)):=by
 unfold f13
 rw[f15_eq s h.szP h.szL h.szH]
 simp only[Option.bind_some]
 have own:=f40_eq s h
 rw[decide_eq_true M,decide_eq_true (show (0:Int)≤r.1 by omega),decide_eq_true (show r.1<9 by omega),decide_eq_false (show ¬ r.1=0 by omega),decide_eq_false (show ¬ r.1=1 by omega),decide_eq_false (show ¬ r.1=2 by omega),decide_eq_false (show ¬ r.1=3 by omega),decide_eq_true hk]
 simp only[cond_true,Bool.not_true,cond_false,own,Option.bind_some]
 rw[f46_eq]
 simp only[Option.bind_some]
 rw[f72_eq h.p]
 simp only[Option.bind_some]
 unfold poolsS
 by_cases h0:(addP s.2.2.2.1 (szY s.1) r.2.2.1 r.2.2.2.2.1).2=0
 ·rw[decide_eq_true h0,if_neg (not_not_intro h0)]
  simp only[Bool.not_true,cond_false,c72,cond_true]<;>rfl
 ·rw[decide_eq_false h0,if_pos h0]
  simp only[Bool.not_false,cond_true,own,Option.bind_some];rfl
theorem d13_drain (h:Sm s)(M:MayS s)(hk:r.1=5):f13 s.1.1.1 s.1.1.2 s.1.2.1.1 s.1.2.1.2 s.1.2.2.1 s.1.2.2.2.1 s.1.2.2.2.2.1 s.1.2.2.2.2.2 s.2.1.1 s.2.1.2.1 s.2.1.2.2.1 s.2.1.2.2.2 s.2.2.1 s.2.2.2.1 s.2.2.2.2.1 s.2.2.2.2.2 r.1 r.2.1 r.2.2.1 r.2.2.2.1 r.2.2.2.2.1 r.2.2.2.2.2.1 r.2.2.2.2.2.2.1 r.2.2.2.2.2.2.2.1 r.2.2.2.2.2.2.2.2=ansT (poolsS s (drainP s.2.2.2.1 (szY s.1) r.2.2.2.2.1) (3,s.2.2.1,r.2.2.2.2.1,0,0,P0)):=by
 unfold f13
 rw[f15_eq s h.szP h.szL h.szH]
 simp only[Option.bind_some]
 have own:=f40_eq s h
 rw[decide_eq_true M,decide_eq_true (show (0:Int)≤r.1 by omega),decide_eq_true (show r.1<9 by omega),decide_eq_false (show ¬ r.1=0 by omega),decide_eq_false (show ¬ r.1=1 by omega),decide_eq_false (show ¬ r.1=2 by omega),decide_eq_false (show ¬ r.1=3 by omega),decide_eq_false (show ¬ r.1=4 by omega),decide_eq_true hk]
 simp only[cond_true,Bool.not_true,cond_false,own,Option.bind_some]
 rw[f46_eq]
 simp only[Option.bind_some]
 rw[f73_eq h.p]
 simp only[Option.bind_some]
 unfold poolsS
 by_cases h0:(drainP s.2.2.2.1 (szY s.1) r.2.2.2.2.1).2=0
 ·rw[decide_eq_true h0,if_neg (not_not_intro h0)]
  simp only[Bool.not_true,cond_false,c72,cond_true]<;>rfl
 ·rw[decide_eq_false h0,if_pos h0]
  simp only[Bool.not_false,cond_true,own,Option.bind_some];rfl
theorem d13_size (h:Sm s)(M:MayS s)(hk:r.1=6):f13 s.1.1.1 s.1.1.2 s.1.2.1.1 s.1.2.1.2 s.1.2.2.1 s.1.2.2.2.1 s.1.2.2.2.2.1 s.1.2.2.2.2.2 s.2.1.1 s.2.1.2.1 s.2.1.2.2.1 s.2.1.2.2.2 s.2.2.1 s.2.2.2.1 s.2.2.2.2.1 s.2.2.2.2.2 r.1 r.2.1 r.2.2.1 r.2.2.2.1 r.2.2.2.2.1 r.2.2.2.2.2.1 r.2.2.2.2.2.2.1 r.2.2.2.2.2.2.2.1 r.2.2.2.2.2.2.2.2=ansT (poolsS s (sizeP s.2.2.2.1 (szY s.1) r.2.2.1 r.2.2.2.2.1 (busyL s.2.2.2.2.1)) (4,s.2.2.1,r.2.2.1,r.2.2.2.2.1,0,P0)):=by
 unfold f13
 rw[f15_eq s h.szP h.szL h.szH]
 simp only[Option.bind_some]
 have own:=f40_eq s h
 rw[decide_eq_true M,decide_eq_true (show (0:Int)≤r.1 by omega),decide_eq_true (show r.1<9 by omega),decide_eq_false (show ¬ r.1=0 by omega),decide_eq_false (show ¬ r.1=1 by omega),decide_eq_false (show ¬ r.1=2 by omega),decide_eq_false (show ¬ r.1=3 by omega),decide_eq_false (show ¬ r.1=4 by omega),decide_eq_false (show ¬ r.1=5 by omega),decide_eq_true hk]
 simp only[cond_true,Bool.not_true,cond_false,own,Option.bind_some]
 rw[f46_eq]
 simp only[Option.bind_some]
 rw[f75_eq _ h.l]
 simp only[Option.bind_some]
 rw[f74_eq h.p _ _ _ (by have:=busy_szP s h;exact this)]
 simp only[Option.bind_some]
 unfold poolsS
 by_cases h0:(sizeP s.2.2.2.1 (szY s.1) r.2.2.1 r.2.2.2.2.1 (busyL s.2.2.2.2.1)).2=0
 ·rw[decide_eq_true h0,if_neg (not_not_intro h0)]
  simp only[Bool.not_true,cond_false,c72,cond_true]<;>rfl
 ·rw[decide_eq_false h0,if_pos h0]
  simp only[Bool.not_false,cond_true,own,Option.bind_some];rfl
theorem d13_gone (h:Sm s)(M:MayS s)(hk:r.1=7):f13 s.1.1.1 s.1.1.2 s.1.2.1.1 s.1.2.1.2 s.1.2.2.1 s.1.2.2.2.1 s.1.2.2.2.2.1 s.1.2.2.2.2.2 s.2.1.1 s.2.1.2.1 s.2.1.2.2.1 s.2.1.2.2.2 s.2.2.1 s.2.2.2.1 s.2.2.2.2.1 s.2.2.2.2.2 r.1 r.2.1 r.2.2.1 r.2.2.2.1 r.2.2.2.2.1 r.2.2.2.2.2.1 r.2.2.2.2.2.2.1 r.2.2.2.2.2.2.2.1 r.2.2.2.2.2.2.2.2=ansT (poolsS s (goneP s.2.2.2.1 (szY s.1) r.2.2.2.2.1 (busyL s.2.2.2.2.1)) (5,s.2.2.1,r.2.2.2.2.1,0,0,P0)):=by
 unfold f13
 rw[f15_eq s h.szP h.szL h.szH]
 simp only[Option.bind_some]
 have own:=f40_eq s h
 rw[decide_eq_true M,decide_eq_true (show (0:Int)≤r.1 by omega),decide_eq_true (show r.1<9 by omega),decide_eq_false (show ¬ r.1=0 by omega),decide_eq_false (show ¬ r.1=1 by omega),decide_eq_false (show ¬ r.1=2 by omega),decide_eq_false (show ¬ r.1=3 by omega),decide_eq_false (show ¬ r.1=4 by omega),decide_eq_false (show ¬ r.1=5 by omega),decide_eq_false (show ¬ r.1=6 by omega),decide_eq_true hk]
 simp only[cond_true,Bool.not_true,cond_false,own,Option.bind_some]
 rw[f46_eq]
 simp only[Option.bind_some]
 rw[f75_eq _ h.l]
 simp only[Option.bind_some]
 rw[f76_eq h.p _ _ (by have:=busy_szP s h;exact this)]
 simp only[Option.bind_some]
 unfold poolsS
 by_cases h0:(goneP s.2.2.2.1 (szY s.1) r.2.2.2.2.1 (busyL s.2.2.2.2.1)).2=0
 ·rw[decide_eq_true h0,if_neg (not_not_intro h0)]
  simp only[Bool.not_true,cond_false,c72,cond_true]<;>rfl
 ·rw[decide_eq_false h0,if_pos h0]
  simp only[Bool.not_false,cond_true,own,Option.bind_some];rfl
theorem d13_policy (h:Sm s)(M:MayS s)(hk:r.1=8):f13 s.1.1.1 s.1.1.2 s.1.2.1.1 s.1.2.1.2 s.1.2.2.1 s.1.2.2.2.1 s.1.2.2.2.2.1 s.1.2.2.2.2.2 s.2.1.1 s.2.1.2.1 s.2.1.2.2.1 s.2.1.2.2.2 s.2.2.1 s.2.2.2.1 s.2.2.2.2.1 s.2.2.2.2.2 r.1 r.2.1 r.2.2.1 r.2.2.2.1 r.2.2.2.2.1 r.2.2.2.2.2.1 r.2.2.2.2.2.2.1 r.2.2.2.2.2.2.2.1 r.2.2.2.2.2.2.2.2=ansT (policyS s r.2.2.2.2.2):=by
 unfold f13
 rw[f15_eq s h.szP h.szL h.szH]
 simp only[Option.bind_some]
 have own:=f40_eq s h
 rw[decide_eq_true M,decide_eq_true (show (0:Int)≤r.1 by omega),decide_eq_true (show r.1<9 by omega),decide_eq_false (show ¬ r.1=0 by omega),decide_eq_false (show ¬ r.1=1 by omega),decide_eq_false (show ¬ r.1=2 by omega),decide_eq_false (show ¬ r.1=3 by omega),decide_eq_false (show ¬ r.1=4 by omega),decide_eq_false (show ¬ r.1=5 by omega),decide_eq_false (show ¬ r.1=6 by omega),decide_eq_false (show ¬ r.1=7 by omega),decide_eq_true hk]
 simp only[cond_true,Bool.not_true,cond_false,own,Option.bind_some]
 rw[f28_eq]
 simp only[Option.bind_some]
 unfold policyS
 by_cases h0:PolP r.2.2.2.2.2
 case neg=>
  rw[decide_eq_false h0,if_pos h0]
  simp only[Bool.not_false,cond_true,own,Option.bind_some];rfl
 rw[decide_eq_true h0,if_neg (not_not_intro h0)]
 simp only[Bool.not_true,cond_false]
 have e:=f15_eq (setPol s r.2.2.2.2.2) h.szP h.szL h.szH
 simp only[setPol] at e
 rw[e]
 simp only[Option.bind_some]
 by_cases h1:MayS (setPol s r.2.2.2.2.2)
 ·have h1':MayS (s.1,r.2.2.2.2.2,s.2.2.1,s.2.2.2.1,s.2.2.2.2.1,s.2.2.2.2.2):=h1
  rw[decide_eq_true h1',if_neg (not_not_intro h1)]
  simp only[Bool.not_true,cond_false,c72,cond_true]<;>rfl
 ·have h1':¬ MayS (s.1,r.2.2.2.2.2,s.2.2.1,s.2.2.2.1,s.2.2.2.2.1,s.2.2.2.2.2):=h1
  rw[decide_eq_false h1',if_pos h1]
  simp only[Bool.not_false,cond_true,own,Option.bind_some];rfl
theorem f13_eq (h:Sm s):f13 s.1.1.1 s.1.1.2 s.1.2.1.1 s.1.2.1.2 s.1.2.2.1 s.1.2.2.2.1 s.1.2.2.2.2.1 s.1.2.2.2.2.2 s.2.1.1 s.2.1.2.1 s.2.1.2.2.1 s.2.1.2.2.2 s.2.2.1 s.2.2.2.1 s.2.2.2.2.1 s.2.2.2.2.2 r.1 r.2.1 r.2.2.1 r.2.2.2.1 r.2.2.2.2.1 r.2.2.2.2.2.1 r.2.2.2.2.2.2.1 r.2.2.2.2.2.2.2.1 r.2.2.2.2.2.2.2.2=ansT (doS s r):=by
 unfold doS
 by_cases h0:MayS s∧0≤r.1∧r.1<9
 case neg=>rw[if_pos h0];exact d13_no s r h h0
 rw[if_neg (not_not_intro h0)]
 have M:=h0.1
 by_cases k0:r.1=0
 ·rw[if_pos k0];exact d13_grant s r h M k0
 rw[if_neg k0]
 by_cases k1:r.1=1
 ·rw[if_pos k1];exact d13_refresh s r h M k1
 rw[if_neg k1]
 by_cases k2:r.1=2
 ·rw[if_pos k2];exact d13_release s r h M k2
 rw[if_neg k2]
 by_cases k3:r.1=3
 ·rw[if_pos k3];exact d13_tick s r h M k3
 rw[if_neg k3]
 by_cases k4:r.1=4
 ·rw[if_pos k4];exact d13_add s r h M k4
 rw[if_neg k4]
 by_cases k5:r.1=5
 ·rw[if_pos k5];exact d13_drain s r h M k5
 rw[if_neg k5]
 by_cases k6:r.1=6
 ·rw[if_pos k6];exact d13_size s r h M k6
 rw[if_neg k6]
 by_cases k7:r.1=7
 ·rw[if_pos k7];exact d13_gone s r h M k7
 rw[if_neg k7]
 exact d13_policy s r h M (by omega)
end
set_option maxRecDepth 100000
theorem rdE {l:List ET}{j:Nat}(h:j<l.length):rd (.pair (.int .i64) (.pair (.int .i64) (.pair (.int .i64) (.pair (.int .i64) (.pair (.int .i64) (.pair (.int .i64) (.pair (.int .i64) (.pair (.int .i64) .bool)))))))) l j=l[j]:=rd_lt h
theorem rdE0 (e:ET):rd (.pair (.int .i64) (.pair (.int .i64) (.pair (.int .i64) (.pair (.int .i64) (.pair (.int .i64) (.pair (.int .i64) (.pair (.int .i64) (.pair (.int .i64) .bool)))))))) [e] 0=e:=rdE (l:=[e]) (j:=0) (Nat.zero_lt_one)
theorem f11_eq:f11=some (true,()):=by kernel_rfl
theorem MayS.sm {s:ST}(M:MayS s):Sm s:=⟨by have:=M.pools.len;omega,by have:=M.len;omega,by have:=M.lenH;omega⟩
theorem do_sm {s:ST}(h:Sm s)(r:RT):Sm (doS s r).1:=by
 rcases do_ok s r with⟨e,_,h1⟩|h1
 ·rw[h1];exact h
 ·exact h1.2.1.sm
abbrev newS (D:DT)(p:PT):ST:=(D,p,0,[],[],[])
abbrev noS:ST:=(((0,0),(0,0),0,0,0,0),(0,0,0,false),0,[],[],[])
theorem new_sm (D:DT)(p:PT):Sm (newS D p):=⟨Nat.zero_le _,Nat.zero_le _,Nat.zero_le _⟩
theorem f16_eq (D:DT)(p:PT):f16 D.1.1 D.1.2 D.2.1.1 D.2.1.2 D.2.2.1 D.2.2.2.1 D.2.2.2.2.1 D.2.2.2.2.2 p.1 p.2.1 p.2.2.1 p.2.2.2 =
  some (if MayS (newS D p) then newS D p else noS,decide (MayS (newS D p)),()):=by
 have h:=f15_eq (newS D p) (new_sm D p).szP (new_sm D p).szL (new_sm D p).szH
 unfold f16
 by_cases M:MayS (newS D p)
 ·rw[decide_eq_true M] at h ⊢
  rw[if_pos M,h];rfl
 ·rw[decide_eq_false M] at h ⊢
  rw[if_neg M,h];rfl
theorem rdR {l:List RT}{j:Nat}(h:j<l.length):rd (.pair (.int .i64) (.pair (.int .i64) (.pair (.int .i64) (.pair (.int .i64) (.pair (.int .i64) (.pair (.int .i64) (.pair (.int .i64) (.pair (.int .i64) .bool)))))))) l j=l[j]:=rd_lt h
abbrev st17 (l:List RT)(j:Int)(s:ST)(E:List ET):X17_3:=
 ((l,(),(),j,()),((s.1.1.1,s.1.1.2,s.1.2.1.1,s.1.2.1.2,s.1.2.2.1,s.1.2.2.2.1,s.1.2.2.2.2.1,s.1.2.2.2.2.2,s.2.1.1,s.2.1.2.1,s.2.1.2.2.1,s.2.1.2.2.2,s.2.2.1,s.2.2.2.1,s.2.2.2.2.1,s.2.2.2.2.2,()),(0,0,0,0,0,0,0,0,0,0,0,false,0,(),(),(),()),()),E,[],[],[],())
theorem f17_eq (s:ST)(M:MayS s)(l:List RT)(hl:l.length≤60) :
  f17 s.1.1.1 s.1.1.2 s.1.2.1.1 s.1.2.1.2 s.1.2.2.1 s.1.2.2.2.1 s.1.2.2.2.2.1 s.1.2.2.2.2.2 s.2.1.1 s.2.1.2.1 s.2.1.2.2.1 s.2.1.2.2.2 s.2.2.1 s.2.2.2.1 s.2.2.2.2.1 s.2.2.2.2.2 l=some ((runS s l).1,(runS s l).2,()):=by
 unfold f17
 have e:iter big u17_3 (st17 l 0 s [])=_:=it_all (u:=u17_3) (fun j=>st17 l ((j:Nat):Int) (runS s (l.take j)).1 (runS s (l.take j)).2) (n:=l.length)
  (y:=(((),(),()),(st17 l 0 (runS s l).1 (runS s l).2).2)) (fun j hj=>by
   have e1:=f13_eq (runS s (l.take j)).1 l[j] (run_may M (l.take j)).1.sm
   have h1:=run_len M l j (by omega)
   have h2:=do_evs (runS s (l.take j)).1 l[j]
   have h3:=(run_may M (l.take j)).1.len
   simp only[u17_3,t17_3,ltn hj,ge0,cond_true,Bool.and_self,Int.toNat_natCast,rdR hj,e1,Option.bind_some]
   rw[decide_eq_true (show ((runS s (l.take j)).2.length+(doS (runS s (l.take j)).1 l[j]).2.1.length) * 72≤140737488355328 by omega),decide_eq_true (show (runS s (l.take j)).2.length+(doS (runS s (l.take j)).1 l[j]).2.1.length≤9223372036854775807 by omega),
    nx hj (by omega),run_snoc s l hj]
   rfl)
  (by simp only[u17_3,t17_3,nlt,cond_false,List.take_length]) 0 big (Nat.zero_le _) (by unfold big;omega)
 rw[e];rfl
end Go.Proofs.Zz
