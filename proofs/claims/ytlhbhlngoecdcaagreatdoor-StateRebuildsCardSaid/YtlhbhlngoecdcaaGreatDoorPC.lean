/- P13y, P13z, P13m, P13s, P6a. -/
import Derived.Test.YtlhbhlngoecdcaaGreatDoorPB
import Derived.Test.YtlhbhlngoecdcaaGreatDoorPU
import Derived.KernelRfl
import Derived.Test.YtlhbhlngoecdcaaGreatDoorFI
import Derived.Test.YtlhbhlngoecdcaaGreatDoorPUn
namespace Go.Proofs.Zz
open Go Go.Sy
set_option linter.unusedSimpArgs false
set_option linter.unusedVariables false
set_option maxRecDepth 20000
set_option maxHeartbeats 2000000
theorem uW (P:List HT)(hP:Sz P)(at':Int):f23 P at'=some (fN P at',()):=by
 unfold f23 fN
 rw[LR P hP]
 simp only[Option.bind_some]
 by_cases h:iv P at' = -1
 ·rw[h];rfl
 ·rw[decide_eq_false h]
  have hlt:P.findIdx (fun p=>hasB p at')<P.length:=by
   unfold iv at h
   split at h
   ·assumption
   ·exact absurd rfl h
  have e:iv P at'=((P.findIdx (fun p=>hasB p at'):Nat):Int):=if_pos hlt
  rw[e,dx,dB hlt]
  have eg:P.getD (P.findIdx (fun p=>hasB p at')) (0,0,0)=P[P.findIdx (fun p=>hasB p at')]:=by
   rw[List.getD_eq_getElem?_getD,List.getElem?_eq_getElem hlt,Option.getD_some]
  simp only[Bool.not_false,cond_true,Bool.and_self,Int.toNat_natCast,Ko hlt,ck,eg]
  rw[decide_eq_true (show ((P.findIdx (fun p=>hasB p at'):Nat):Int) ≠ -1 by omega),Bool.true_and]
theorem zn (s:ST):f46 s.1.1.1 s.1.1.2 s.1.2.1.1 s.1.2.1.2 s.1.2.2.1 s.1.2.2.2.1 s.1.2.2.2.2.1 s.1.2.2.2.2.2 s.2.1.1 s.2.1.2.1 s.2.1.2.2.1 s.2.1.2.2.2 s.2.2.1 s.2.2.2.1 s.2.2.2.2.1 s.2.2.2.2.2=some (fD s.1,()):=by
 unfold f46
 rw[jr];rfl
theorem Ck (s:ST)(M:aM s)(v3 v4 v5 v6 v7 v8 v9 v10 v11 v12 v13:Int)(v14:Bool)(v15:Int)(v16:(List (Int×Int×Int)))(v17:(List (Int×Int×Int×Int×Int)))(v18:(List (Int×Int×Int)))(v19 v20 v21 v22 v23 v24 v25 v26:Int)(v27:Bool)(v28 v29 v30 v31 v32 v33 v34 v35 v36 v37 v38:Int)(v39:Bool)(v40 v41 v42 v43 v55 v56 v57:Int)(v58:Bool)(v59 v60 v61 v62 v63 v64 v65 v66 v67:Int)(v68:Bool)(v69 v70 v71:Int)(v72:(List (Int×Int×Int)))(v73:(List (Int×Int×Int×Int×Int)))(v74:(List (Int×Int×Int)))(v75 v76:(List (Int×Int×Int×Int×Int×Int×Int×Int×Bool)))(to:Int)(hto:to≤4):∀ (n:Nat) (ad:Int),0≤ad→to=ad+n →
  iter (n+1) dH (((),ad,to,()),((v3,v4,v5,v6,v7,v8,v9,v10,v11,v12,v13,v14,v15,v16,v17,v18,()),(v19,v20,v21,v22,v23,v24,v25,v26,v27,()),(v28,v29,v30,v31,v32,v33,v34,v35,v36,v37,v38,v39,v40,(),(),(),()),((),()),(v41,v42,v43,()),((),(),(),(),(),(),(),(),(),()),s.2.2.2.1,s.2.2.2.2.1,s.2.2.2.2.2,(s.1.1.1,s.1.1.2,s.1.2.1.1,s.1.2.1.2,s.1.2.2.1,s.1.2.2.2.1,s.1.2.2.2.2.1,s.1.2.2.2.2.2,v55,v56,v57,v58,v59,(),(),(),v60,v61,v62,v63,v64,v65,v66,v67,v68,(),v69,v70,v71,()),()),v72,v73,v74,v75,v76,())=some (.inl (((),(bl (aZ s) n ad),to,()),((v3,v4,v5,v6,v7,v8,v9,v10,v11,v12,v13,v14,v15,v16,v17,v18,()),(v19,v20,v21,v22,v23,v24,v25,v26,v27,()),(v28,v29,v30,v31,v32,v33,v34,v35,v36,v37,v38,v39,v40,(),(),(),()),((),()),(v41,v42,v43,()),((),(),(),(),(),(),(),(),(),()),s.2.2.2.1,s.2.2.2.2.1,s.2.2.2.2.2,(s.1.1.1,s.1.1.2,s.1.2.1.1,s.1.2.1.2,s.1.2.2.1,s.1.2.2.2.1,s.1.2.2.2.2.1,s.1.2.2.2.2.2,v55,v56,v57,v58,v59,(),(),(),v60,v61,v62,v63,v64,v65,v66,v67,v68,(),v69,v70,v71,()),()),v72,v73,v74,v75,v76,())):=by
 have hP:Sz s.2.2.2.1:=by have:=M.dD.len;unfold Sz;omega
 have hL:=M.len
 have hH:=M.L9
 intro n
 induction n with
 | zero=>
  intro ad h0 h1
  refine jQ ?_
  simp only[dH,iX]
  rw[decide_eq_false (by omega)];rfl
 | succ n ih=>
  intro ad h0 h1
  have hnext:IntKind.wrap .i64 (ad+1)=ad+1:=iq (by omega) (by omega)
  have hb8:=M.fit.blk
  have hb0:0≤dm s.1:=Int.ediv_nonneg M.fit.g1 (by have:=M.fit.h1;omega)
  have hU:vT s ad<2 ^ (dm s.1).toNat:=rZ ad _ (Nat.two_pow_pos _)
  have f99e:=Q4 (show (dm s.1).toNat≤8 by omega) hU
  have f100e:=MR M.fit s.2.2.2.2.1 s.2.2.2.2.2 (by omega) (by omega) ad
  by_cases hg:fN s.2.2.2.1 ad=true
  ·by_cases hb:je (dm s.1).toNat (vT s ad) = -1
   ·have hf:aZ s ad = -1:=by unfold aZ;rw[if_pos hg,hb]
    have e1:bl (aZ s) (n+1) ad=bl (aZ s) n (ad+1):=by
     conv=>lhs;unfold bl
     rw[if_pos hf]
    rw[e1,← ih (ad+1) (by omega) (by omega)]
    refine fJ ?_
    simp only[dH,iX]
    rw[decide_eq_true (show ad<to by omega),uW _ hP,hg]
    simp only[cond_true,Option.bind_some,Bool.not_true,cond_false,f100e]
    rw[show mH (dm s.1).toNat ad 0 (s.2.2.2.2.1.map kL++s.2.2.2.2.2.map kH)=vT s ad from rfl,f99e,hb,hnext];rfl
   ·have hf:aZ s ad=je (dm s.1).toNat (vT s ad):=by unfold aZ;rw[if_pos hg]
    have e1:bl (aZ s) (n+1) ad=ad:=by
     unfold bl
     rw[hf,if_neg hb]
    rw[e1]
    refine jQ ?_
    simp only[dH,iX]
    rw[decide_eq_true (show ad<to by omega),uW _ hP,hg]
    simp only[cond_true,Option.bind_some,Bool.not_true,cond_false,f100e]
    rw[show mH (dm s.1).toNat ad 0 (s.2.2.2.2.1.map kL++s.2.2.2.2.2.map kH)=vT s ad from rfl,f99e]
    simp only[Option.bind_some]
    rw[decide_eq_false hb];rfl
  ·have hg':fN s.2.2.2.1 ad=false:=by simpa using hg
   have hf:aZ s ad = -1:=by unfold aZ;rw[if_neg hg]
   have e1:bl (aZ s) (n+1) ad=bl (aZ s) n (ad+1):=by
    conv=>lhs;unfold bl
    rw[if_pos hf]
   rw[e1,← ih (ad+1) (by omega) (by omega)]
   refine fJ ?_
   simp only[dH,iX]
   rw[decide_eq_true (show ad<to by omega),uW _ hP,hg',hnext];rfl
def Ua (now:Int)(T:List TT)(x:TT):List TT:=if x.2≤now∨1073741824<x.2 then T else iz (T++[x])
def tK (s:ST)(j:Nat):List TT:=(s.2.2.2.2.1.take j).foldl (fun T x=>Ua s.2.2.1 T (ig s.2.1.2.1 x)) []
theorem pO {s:ST}(M:aM s){x:LT}(hx:x∈s.2.2.2.2.1):(0≤x.2.1∧x.2.1<4)∧(0≤x.2.2.1∧x.2.2.1<8)∧s.2.2.1<x.2.2.2.2+s.2.1.2.1∧x.2.2.2.2≤1073741824∧0≤x.2.2.2.2:=by
 have h:=M.aX.each x hx
 have h1:=h.blk
 have:=M.fit.y2
 have:=M.fit.blk
 have h2:=h1.2.1
 have h3:=h1.2.2
 have h4:=h.idle
 have h5:=h.BZ
 have h6:=M.nV
 have h7:=h.B4
 have h8:=h.Ca
 exact⟨by omega,by omega,by omega,by omega,by omega⟩
structure aaE (s:ST)(j:Nat)(T:List TT):Prop where
 wh:WhP s.2.2.1 T
 mem:∀ t,t∈T↔∃ x∈s.2.2.2.2.1.take j,t=ig s.2.1.2.1 x∧t.2≤1073741824
 len:T.length≤j
theorem Sr {R:TT→TT→Prop}(hs:∀ x y,R x y→R y x){l:List TT}(h:l.Pairwise R):(iz l).Pairwise R:=
 (i7 l).symm.pairwise h fun {x y}=>hs x y
theorem GC {s:ST}(M:aM s){j:Nat}(hj:j<s.2.2.2.2.1.length){T:List TT}(C:aaE s j T) :
  (∀ t∈T,t.1≠(ig s.2.1.2.1 s.2.2.2.2.1[j]).1)∧aaE s (j+1) (Ua s.2.2.1 T (ig s.2.1.2.1 s.2.2.2.2.1[j])):=by
 have hx:=pO M (List.getElem_mem hj)
 have hlen:=M.len
 have hne:∀ t∈T,t.1≠(ig s.2.1.2.1 s.2.2.2.2.1[j]).1:=by
  intro t ht e
  obtain⟨y,hy,rfl,_⟩:=(C.mem t).1 ht
  obtain⟨i,hi,rfl⟩:=List.mem_take_iff_getElem.1 hy
  have hy':=pO M (List.getElem_mem (show i<s.2.2.2.2.1.length by omega))
  have hlt:wg _ _ _ _:=List.pairwise_iff_getElem.1 M.aX.ji i j (by omega) hj (by omega)
  unfold wg at hlt
  unfold ig at e
  simp only at e
  omega
 refine⟨hne,?_⟩
 have hmem:∀ t,(∃ x∈s.2.2.2.2.1.take (j+1),t=ig s.2.1.2.1 x∧t.2≤1073741824)↔t∈T∨(t=ig s.2.1.2.1 s.2.2.2.2.1[j]∧t.2≤1073741824):=by
  intro t
  rw[aW hj,C.mem]
  constructor
  ·rintro ⟨x,hx,h1,h2⟩
   rcases List.mem_append.1 hx with hx|hx
   ·exact .inl ⟨x,hx,h1,h2⟩
   ·rw[List.mem_singleton] at hx;subst hx;exact .inr ⟨h1,h2⟩
  ·rintro (⟨x,hx,h1,h2⟩|⟨h1,h2⟩)
   ·exact⟨x,List.mem_append.2 (.inl hx),h1,h2⟩
   ·exact⟨_,List.mem_append.2 (.inr (List.mem_singleton.2 rfl)),h1,h2⟩
 unfold Ua
 by_cases hb:(ig s.2.1.2.1 s.2.2.2.2.1[j]).2≤s.2.2.1∨1073741824<(ig s.2.1.2.1 s.2.2.2.2.1[j]).2
 ·rw[if_pos hb]
  have hb2:1073741824<(ig s.2.1.2.1 s.2.2.2.2.1[j]).2:=by
   rcases hb with h|h
   ·unfold ig at h;simp only at h;omega
   ·exact h
  refine⟨C.wh,fun t=>?_,by have:=C.len;omega⟩
  rw[hmem]
  exact⟨.inl,fun h=>h.elim id fun⟨h1,h2⟩=>by rw[h1] at h2;omega⟩
 ·rw[if_neg hb]
  have hb1:s.2.2.1<(ig s.2.1.2.1 s.2.2.2.2.1[j]).2:=by omega
  have hb2:(ig s.2.1.2.1 s.2.2.2.2.1[j]).2≤1073741824:=by omega
  have hperm:=i7 (T++[ig s.2.1.2.1 s.2.2.2.2.1[j]])
  have hids:(iz (T++[ig s.2.1.2.1 s.2.2.2.2.1[j]])).Pairwise fun x y=>x.1≠y.1:=by
   refine Sr (fun x y h e=>h e.symm) ?_
   rw[List.pairwise_append]
   exact⟨C.wh.ids,by simp,fun a ha b hb=>by rw[List.mem_singleton] at hb;subst hb;exact hne a ha⟩
  refine⟨⟨C.wh.jX,C.wh.nV,fun t ht=>?_,?_,hids,?_⟩,fun t=>?_,?_⟩
  ·rcases List.mem_append.1 (hperm.mem_iff.1 ht) with h|h
   ·exact C.wh.each t h
   ·rw[List.mem_singleton] at h;subst h
    exact⟨hb1,hb2,by unfold ig;simp only;omega⟩
  ·refine ((tF _).and hids).imp fun {x y} h=>?_
   have h1:=qE.1 h.1
   have h2:=h.2
   unfold ow
   refine decide_eq_true ?_
   omega
  ·rw[pL,List.length_append,List.length_singleton];have:=C.len;omega
  ·rw[hmem,hperm.mem_iff,List.mem_append,List.mem_singleton]
   exact⟨fun h=>h.elim .inl fun e=>.inr ⟨e,by rw[e];exact hb2⟩,fun h=>h.elim .inl fun e=>.inr e.1⟩
  ·rw[pL,List.length_append,List.length_singleton];have:=C.len;omega
theorem Hs {s:ST}{j:Nat}(hj:j<s.2.2.2.2.1.length):tK s (j+1)=Ua s.2.2.1 (tK s j) (ig s.2.1.2.1 s.2.2.2.2.1[j]):=by
 unfold tK
 rw[aW hj,List.foldl_append];rfl
theorem Df {s:ST}(M:aM s):∀ j,j≤s.2.2.2.2.1.length→aaE s j (tK s j)
 | 0,_=>⟨⟨M.jX,M.nV,by simp[tK],by simp[tK],by simp[tK],by simp[tK]⟩,by simp[tK],by simp[tK]⟩
 | j+1,h=>by
  rw[Hs (show j<s.2.2.2.2.1.length by omega)]
  exact (GC M (by omega) (Df M j (by omega))).2
theorem VW (s:ST)(M:aM s)(v3 v4 v5 v6 v7 v8 v9 v10 v11 v12 v13:Int)(v14:Bool)(v15:Int)(v16:(List (Int×Int×Int)))(v17:(List (Int×Int×Int×Int×Int)))(v18:(List (Int×Int×Int)))(v19 v20 v21 v22 v23 v24 v25 v26:Int)(v27:Bool)(v28 v29 v30 v31 v32 v33 v34 v35 v36 v37 v38:Int)(v39:Bool)(v40 v41 v42 v43:Int)(v44 v46:(List (Int×Int×Int)))(v47 v48 v49 v50 v51 v52 v53 v54 v55 v57:Int)(v58:Bool)(v59 v60 v61 v62 v63 v64 v65 v66 v67:Int)(v68:Bool)(v69 v70 v71:Int)(v74:(List (Int×Int×Int)))(v75:(List (Int×Int×Int×Int×Int)))(v76:(List (Int×Int×Int)))(v77 v78:(List (Int×Int×Int×Int×Int×Int×Int×Int×Bool))) :
  iter aC gD (((),(),(),((s.2.2.2.2.1.length:Nat):Int),0,()),((v3,v4,v5,v6,v7,v8,v9,v10,v11,v12,v13,v14,v15,v16,v17,v18,()),(v19,v20,v21,v22,v23,v24,v25,v26,v27,()),(v28,v29,v30,v31,v32,v33,v34,v35,v36,v37,v38,v39,v40,(),(),(),()),((),()),(v41,v42,v43,()),((),(),(),(),(),(),(),(),(),()),v44,s.2.2.2.2.1,v46,(v47,v48,v49,v50,v51,v52,v53,v54,v55,s.2.1.2.1,v57,v58,v59,(),(),(),v60,v61,v62,v63,v64,v65,v66,v67,v68,(),v69,v70,v71,()),(s.2.2.1,[],()),()),v74,v75,v76,v77,v78,())=some (.inl (((),(),()),((v3,v4,v5,v6,v7,v8,v9,v10,v11,v12,v13,v14,v15,v16,v17,v18,()),(v19,v20,v21,v22,v23,v24,v25,v26,v27,()),(v28,v29,v30,v31,v32,v33,v34,v35,v36,v37,v38,v39,v40,(),(),(),()),((),()),(v41,v42,v43,()),((),(),(),(),(),(),(),(),(),()),v44,s.2.2.2.2.1,v46,(v47,v48,v49,v50,v51,v52,v53,v54,v55,s.2.1.2.1,v57,v58,v59,(),(),(),v60,v61,v62,v63,v64,v65,v66,v67,v68,(),v69,v70,v71,()),(s.2.2.1,(tK s s.2.2.2.2.1.length),()),()),v74,v75,v76,v77,v78,())):=by
 have hlen:=M.len
 refine eA (u:=gD) (fun j=>(((),(),(),((s.2.2.2.2.1.length:Nat):Int),((j:Nat):Int),()),((v3,v4,v5,v6,v7,v8,v9,v10,v11,v12,v13,v14,v15,v16,v17,v18,()),(v19,v20,v21,v22,v23,v24,v25,v26,v27,()),(v28,v29,v30,v31,v32,v33,v34,v35,v36,v37,v38,v39,v40,(),(),(),()),((),()),(v41,v42,v43,()),((),(),(),(),(),(),(),(),(),()),v44,s.2.2.2.2.1,v46,(v47,v48,v49,v50,v51,v52,v53,v54,v55,s.2.1.2.1,v57,v58,v59,(),(),(),v60,v61,v62,v63,v64,v65,v66,v67,v68,(),v69,v70,v71,()),(s.2.2.1,(tK s j),()),()),v74,v75,v76,v77,v78,())) (n:=s.2.2.2.2.1.length) (y:=(((),(),()),((v3,v4,v5,v6,v7,v8,v9,v10,v11,v12,v13,v14,v15,v16,v17,v18,()),(v19,v20,v21,v22,v23,v24,v25,v26,v27,()),(v28,v29,v30,v31,v32,v33,v34,v35,v36,v37,v38,v39,v40,(),(),(),()),((),()),(v41,v42,v43,()),((),(),(),(),(),(),(),(),(),()),v44,s.2.2.2.2.1,v46,(v47,v48,v49,v50,v51,v52,v53,v54,v55,s.2.1.2.1,v57,v58,v59,(),(),(),v60,v61,v62,v63,v64,v65,v66,v67,v68,(),v69,v70,v71,()),(s.2.2.1,(tK s s.2.2.2.2.1.length),()),()),v74,v75,v76,v77,v78,())) (fun j hj=>?_) ?_ 0 aC (Nat.zero_le _) (by unfold aC;omega)
 ·have hx:=pO M (List.getElem_mem hj)
  have C:=Df M j (by omega)
  have hs:=GC M hj C
  have hi:=M.ud.2.1
  have hb0:=hx.1
  have hb1:=hx.2.1
  simp only[gD,ry,dB hj,dx,cond_true,Bool.and_self,Int.toNat_natCast,Qj hj,decide_eq_true hj,nx hj (show s.2.2.2.2.1.length≤9223372036854775807 by omega)]
  rw[iq (x:=s.2.2.2.2.1[j].2.1 * 8) (by omega) (by omega),iq (x:=s.2.2.2.2.1[j].2.1 * 8+s.2.2.2.2.1[j].2.2.1) (by omega) (by omega),iq (x:=s.2.2.2.2.1[j].2.2.2.2+s.2.1.2.1) (by omega) (by omega)]
  rw[ZZ (id:=s.2.2.2.2.1[j].2.1 * 8+s.2.2.2.2.1[j].2.2.1) (at':=s.2.2.2.2.1[j].2.2.2.2+s.2.1.2.1) C.wh (by omega) (fun t ht=>hs.1 t ht) (by have:=C.len;omega)]
  rw[Hs hj]
  unfold Ua
  by_cases hb:s.2.2.2.2.1[j].2.2.2.2+s.2.1.2.1≤s.2.2.1∨1073741824<s.2.2.2.2.1[j].2.2.2.2+s.2.1.2.1
  ·rw[if_pos hb,if_pos (show (ig s.2.1.2.1 s.2.2.2.2.1[j]).2≤s.2.2.1∨1073741824<(ig s.2.1.2.1 s.2.2.2.2.1[j]).2 from hb)];rfl
  ·rw[if_neg hb,if_neg (show ¬ ((ig s.2.1.2.1 s.2.2.2.2.1[j]).2≤s.2.2.1∨1073741824<(ig s.2.1.2.1 s.2.2.2.2.1[j]).2) from hb)];rfl
 ·simp only[gD,ry,gr,cond_false]
theorem V8 {s:ST}(M:aM s){n:Int}(hn:n≤1073741824):(tK s s.2.2.2.2.1.length).filter (fun x=>decide (x.2≤n))=(aQ s n).map (ig s.2.1.2.1):=by
 have C:=Df M _ (Nat.le_refl _)
 have hinj:∀ x∈s.2.2.2.2.1,∀ y∈s.2.2.2.2.1,(ig s.2.1.2.1 x).1=(ig s.2.1.2.1 y).1→kL x=kL y:=by
  intro x hx y hy e
  have h1:=pO M hx
  have h2:=pO M hy
  unfold ig at e
  simp only at e
  unfold kL
  rw[Prod.mk.injEq]
  omega
 have hnd:((aQ s n).map (ig s.2.1.2.1)).Pairwise fun x y=>x.1≠y.1:=by
  rw[List.pairwise_map]
  refine List.Pairwise.imp_of_mem (fun {x y} hx hy h e=>h (hinj x (de.1 hx).1 y (de.1 hy).1 e)) (kI M n)
 have hle:((aQ s n).map (ig s.2.1.2.1)).Pairwise fun x y=>(!ow y x)=true:=by
  rw[List.pairwise_map]
  unfold aQ
  refine List.pairwise_mergeSort (fun a b c h1 h2=>?_) (fun a b=>?_) _
  ·rw[qE] at *;omega
  ·rw[Bool.or_eq_true,qE,qE];omega
 refine uZ ((C.wh.ji.filter _).imp fun {x y} h=>?_) hle ?_
 ·rw[qE]
  unfold ow at h
  simp only[decide_eq_true_eq] at h
  omega
 ·refine (List.perm_ext_iff_of_nodup ((C.wh.ids.filter _).imp fun {x y} h e=>h (by rw[e])) (hnd.imp fun {x y} h e=>h (by rw[e]))).2 fun t=>?_
  rw[List.mem_filter,C.mem,List.take_length,List.mem_map]
  constructor
  ·rintro ⟨⟨x,hx,rfl,_⟩,h2⟩
   exact⟨x,de.2 ⟨hx,of_decide_eq_true h2⟩,rfl⟩
  ·rintro ⟨x,hx,rfl⟩
   have hx:=de.1 hx
   exact⟨⟨x,hx.1,rfl,by unfold ig;simp only;omega⟩,decide_eq_true hx.2⟩
noncomputable def qx (s:ST)(n:Int)(j:Nat):ST:=cK s ((aQ s n).take j)
def QS (s:ST)(n:Int)(j:Nat):List ET:=((aQ s n).take j).map fun x=>jl x (x.2.2.2.2+s.2.1.2.1)
theorem H6 {s:ST}{n:Int}{j:Nat}(hj:j<(aQ s n).length):qx s n (j+1)=iR (qx s n j) (aQ s n)[j] ((aQ s n)[j].2.2.2.2+s.2.1.2.1):=by
 unfold qx cK
 rw[aW hj,List.foldl_append];rfl
theorem QZ {s:ST}(M:aM s)(n:Int)(j:Nat):wu s ((aQ s n).take j) (qx s n j):=by
 have:=pJ M ((aQ s n).take j) [] s (uF M) (fun x hx=>(de.1 (List.mem_of_mem_take hx)).1) (by rw[List.nil_append];exact (kI M n).sublist (List.take_sublist _ _))
 rw[List.nil_append] at this
 exact this
theorem Rr (H:List HT)(x:HT):(fc H x).length≤H.length+1:=by
 unfold fc
 rw[mR]
 have:=List.length_filter_le (fun y=>!decide (kH y=kH x)) H
 omega
theorem D4 {s:ST}(n:Int):∀ j,j≤(aQ s n).length→(qx s n j).2.2.2.2.2.length≤s.2.2.2.2.2.length+j
 | 0,_=>Nat.le_refl _
 | j+1,h=>by
  have ih:=D4 (s:=s) n j (by omega)
  rw[H6 (show j<(aQ s n).length by omega)]
  show (if 0<(qx s n j).2.1.2.2.1 then _ else _:List HT).length≤_
  split
  ·have:=Rr (qx s n j).2.2.2.2.2 ((aQ s n)[j].2.1,(aQ s n)[j].2.2.1,(aQ s n)[j].2.2.2.2+s.2.1.2.1+(qx s n j).2.1.2.2.1)
   omega
  ·omega
theorem Tq (s:ST)(M:aM s)(n:Int)(v1:(List (Int×Int)))(v5 v6 v7 v8 v9 v10 v11 v12 v13 v14 v15:Int)(v16:Bool)(v17:Int)(v18:(List (Int×Int×Int)))(v19:(List (Int×Int×Int×Int×Int)))(v20:(List (Int×Int×Int)))(v21 v22 v23 v24 v25 v26 v27 v28:Int)(v29:Bool)(v30 v31 v32 v33 v34 v35 v36 v37 v38 v39 v40:Int)(v41:Bool)(v42 v43 v44 v45:Int)(v46:(List (Int×Int×Int)))(v47:(List (Int×Int×Int×Int×Int)))(v48:(List (Int×Int×Int)))(v49 v50 v51 v52 v53 v54 v55 v56 v57 v58:Int)(v60:Bool)(v61 v62 v63 v64 v65 v66 v67 v68 v69:Int)(v70:Bool)(v71 v72 v73:Int)(v74:(List (Int×Int×Int)))(v75:(List (Int×Int×Int×Int×Int)))(v76:(List (Int×Int×Int)))(v77:(List (Int×Int×Int×Int×Int×Int×Int×Int×Bool)))(v78:(List (Int×Int×Int))) :
  iter aC e6 (((),v1,((aQ s n).map (ig s.2.1.2.1)),((((aQ s n).map (ig s.2.1.2.1)).length:Nat):Int),0,()),((v5,v6,v7,v8,v9,v10,v11,v12,v13,v14,v15,v16,v17,v18,v19,v20,()),(v21,v22,v23,v24,v25,v26,v27,v28,v29,()),(v30,v31,v32,v33,v34,v35,v36,v37,v38,v39,v40,v41,v42,(),(),(),()),((),()),(v43,v44,v45,()),((),(),(),(),(),(),(),(),(),()),v46,v47,v48,(v49,v50,v51,v52,v53,v54,v55,v56,v57,v58,s.2.1.2.2.1,v60,v61,(),(),(),v62,v63,v64,v65,v66,v67,v68,v69,v70,(),v71,v72,v73,()),()),v74,v75,v76,v77,v78,s.2.2.2.2.1,s.2.2.2.2.2,[],())=some (.inl (((),v1,()),((v5,v6,v7,v8,v9,v10,v11,v12,v13,v14,v15,v16,v17,v18,v19,v20,()),(v21,v22,v23,v24,v25,v26,v27,v28,v29,()),(v30,v31,v32,v33,v34,v35,v36,v37,v38,v39,v40,v41,v42,(),(),(),()),((),()),(v43,v44,v45,()),((),(),(),(),(),(),(),(),(),()),v46,v47,v48,(v49,v50,v51,v52,v53,v54,v55,v56,v57,v58,s.2.1.2.2.1,v60,v61,(),(),(),v62,v63,v64,v65,v66,v67,v68,v69,v70,(),v71,v72,v73,()),()),v74,v75,v76,v77,v78,(qx s n (aQ s n).length).2.2.2.2.1,(qx s n (aQ s n).length).2.2.2.2.2,(QS s n (aQ s n).length),())):=by
 have hlen:=M.len
 have hlenH:=M.L9
 have hdl:(aQ s n).length≤32:=by
  unfold aQ
  rw[List.length_mergeSort]
  have:=List.length_filter_le (fun x=>decide ((ig s.2.1.2.1 x).2≤n)) s.2.2.2.2.1
  omega
 have hml:((aQ s n).map (ig s.2.1.2.1)).length=(aQ s n).length:=List.length_map _
 have key:=eA (u:=e6) (fun j=>(((),v1,((aQ s n).map (ig s.2.1.2.1)),((((aQ s n).map (ig s.2.1.2.1)).length:Nat):Int),((j:Nat):Int),()),((v5,v6,v7,v8,v9,v10,v11,v12,v13,v14,v15,v16,v17,v18,v19,v20,()),(v21,v22,v23,v24,v25,v26,v27,v28,v29,()),(v30,v31,v32,v33,v34,v35,v36,v37,v38,v39,v40,v41,v42,(),(),(),()),((),()),(v43,v44,v45,()),((),(),(),(),(),(),(),(),(),()),v46,v47,v48,(v49,v50,v51,v52,v53,v54,v55,v56,v57,v58,s.2.1.2.2.1,v60,v61,(),(),(),v62,v63,v64,v65,v66,v67,v68,v69,v70,(),v71,v72,v73,()),()),v74,v75,v76,v77,v78,(qx s n j).2.2.2.2.1,(qx s n j).2.2.2.2.2,(QS s n j),())) (n:=((aQ s n).map (ig s.2.1.2.1)).length) (y:=(((),v1,()),((v5,v6,v7,v8,v9,v10,v11,v12,v13,v14,v15,v16,v17,v18,v19,v20,()),(v21,v22,v23,v24,v25,v26,v27,v28,v29,()),(v30,v31,v32,v33,v34,v35,v36,v37,v38,v39,v40,v41,v42,(),(),(),()),((),()),(v43,v44,v45,()),((),(),(),(),(),(),(),(),(),()),v46,v47,v48,(v49,v50,v51,v52,v53,v54,v55,v56,v57,v58,s.2.1.2.2.1,v60,v61,(),(),(),v62,v63,v64,v65,v66,v67,v68,v69,v70,(),v71,v72,v73,()),()),v74,v75,v76,v77,v78,(qx s n (aQ s n).length).2.2.2.2.1,(qx s n (aQ s n).length).2.2.2.2.2,(QS s n (aQ s n).length),())) (fun j hj=>by
  have hj':j<(aQ s n).length:=by omega
  have hd:=de.1 (List.getElem_mem hj')
  have hx:=pO M hd.1
  have hi:=M.ud.2
  have F:=QZ M n j
  have eP:(qx s n j).2.1.2.2.1=s.2.1.2.2.1:=by rw[F.ud]
  have eN:=H6 hj'
  have hHl:=D4 (s:=s) n j (by omega)
  have hsub:(qx s n j).2.2.2.2.1.length≤32:=by
   rw[F.aX]
   have:=List.length_filter_le (fun y=>!((aQ s n).take j).any fun x=>decide (kL x=kL y)) s.2.2.2.2.1
   omega
  have hhas:cr (qx s n j).2.2.2.2.1 (aQ s n)[j].2.1 (aQ s n)[j].2.2.1=true:=by
   refine kN.2 ⟨(aQ s n)[j],?_,rfl⟩
   rw[F.aX,List.mem_filter]
   refine⟨hd.1,?_⟩
   rw[Bool.not_eq_true',List.any_eq_false]
   intro y hy e
   obtain⟨i,hi,rfl⟩:=List.mem_take_iff_getElem.1 hy
   exact List.pairwise_iff_getElem.1 (kI M n) i j (by omega) hj' (by omega) (by simpa using e)
  have hmine:=j5 hhas
  have hlt:(qx s n j).2.2.2.2.1.findIdx (iw (aQ s n)[j].2.1 (aQ s n)[j].2.2.1)<(qx s n j).2.2.2.2.1.length:=by
   unfold cr at hhas
   rw[List.any_eq_true] at hhas
   exact List.findIdx_lt_length.2 hhas
  have emine:(qx s n j).2.2.2.2.1[(qx s n j).2.2.2.2.1.findIdx (iw (aQ s n)[j].2.1 (aQ s n)[j].2.2.1)]=(aQ s n)[j]:=by
   have e1:b8 (qx s n j).2.2.2.2.1 (aQ s n)[j].2.1 (aQ s n)[j].2.2.1=(qx s n j).2.2.2.2.1[(qx s n j).2.2.2.2.1.findIdx (iw (aQ s n)[j].2.1 (aQ s n)[j].2.2.1)]:=by
    unfold b8
    rw[List.getD_eq_getElem?_getD,List.getElem?_eq_getElem hlt,Option.getD_some]
   rw[← e1]
   have hin:b8 (qx s n j).2.2.2.2.1 (aQ s n)[j].2.1 (aQ s n)[j].2.2.1∈s.2.2.2.2.1:=by
    have sub:∀ z∈(qx s n j).2.2.2.2.1,z∈s.2.2.2.2.1:=fun z hz=>by rw[F.aX] at hz;exact (List.mem_filter.1 hz).1
    exact sub _ hmine.1
   exact tg (k:=kL) M.aX.ji hin hd.1 hmine.2
  have efind:fO (qx s n j).2.2.2.2.1 (aQ s n)[j].2.1 (aQ s n)[j].2.2.1=(((qx s n j).2.2.2.2.1.findIdx (iw (aQ s n)[j].2.1 (aQ s n)[j].2.2.1):Nat):Int):=if_pos hlt
  have g1:((aQ s n).map (ig s.2.1.2.1))[j]=ig s.2.1.2.1 (aQ s n)[j]:=List.getElem_map _
  have hev:(QS s n j).length≤1000:=by unfold QS;rw[List.length_map,List.length_take];omega
  have d1:IntKind.wrap .i64 (Int.tdiv ((aQ s n)[j].2.1 * 8+(aQ s n)[j].2.2.1) 8)=(aQ s n)[j].2.1:=by
   rw[Int.tdiv_eq_ediv_of_nonneg (by omega),iq (by omega) (by omega)];omega
  have d2:Int.tmod ((aQ s n)[j].2.1 * 8+(aQ s n)[j].2.2.1) 8=(aQ s n)[j].2.2.1:=by
   rw[Int.tmod_eq_emod_of_nonneg (by omega)];omega
  have hw:IntKind.wrap .i64 ((aQ s n)[j].2.2.2.2+s.2.1.2.1+s.2.1.2.2.1)=(aQ s n)[j].2.2.2.2+s.2.1.2.1+s.2.1.2.2.1:=iq (by omega) (by omega)
  have cap72:(decide (((QS s n j).length+1) * 72≤140737488355328)&&decide ((QS s n j).length+1≤9223372036854775807))=true:=by
   rw[decide_eq_true (by omega),decide_eq_true (by omega)];rfl
  have eE:QS s n (j+1)=QS s n j++[jl (aQ s n)[j] ((aQ s n)[j].2.2.2.2+s.2.1.2.1)]:=by
   unfold QS
   rw[aW hj',List.map_append];rfl
  simp only[e6,oJ,dB hj,dx,cond_true,Bool.and_self,Int.toNat_natCast,fE hj,nx hj (show ((aQ s n).map (ig s.2.1.2.1)).length≤9223372036854775807 by omega),g1,ig,d1,d2,hw]
  rw[rJ _ (by unfold Sz;omega),efind]
  simp only[Option.bind_some,dx,dB hlt,Bool.and_self,cond_true,Int.toNat_natCast,decide_eq_true hlt,Qj hlt,emine]
  rw[Mq _ (by omega),if_pos hhas]
  simp only[Option.bind_some,cap72,cond_true]
  by_cases hp:0<s.2.1.2.2.1
  ·rw[decide_eq_true hp]
   simp only[cond_true]
   have h103:=CQ (qx s n j).2.2.2.2.2 (by omega) ((aQ s n)[j].2.1,(aQ s n)[j].2.2.1,(aQ s n)[j].2.2.2.2+s.2.1.2.1+s.2.1.2.2.1)
   simp only at h103
   rw[h103]
   simp only[Option.bind_some]
   rw[eN,eE]
   unfold iR
   rw[eP,if_pos hp];rfl
  ·rw[decide_eq_false hp]
   simp only[cond_false]
   rw[eN,eE]
   unfold iR
   rw[eP,if_neg hp];rfl)
  (by rw[hml];simp only[e6,oJ,hml,gr,cond_false])
  0 aC (Nat.zero_le _) (by unfold aC;omega)
 exact key
set_option maxHeartbeats 4000000
def SA (L:List LT)(sub:Int)(n:Nat):List Int:=((List.range n).filter fun j=>decide ((L.getD j L0).1=sub)).map fun (j:Nat)=>((j:Nat):Int)
theorem GN (L:List LT)(sub:Int){j:Nat}(hj:j<L.length):SA L sub (j+1)=if L[j].1=sub then SA L sub j++[(j:Int)] else SA L sub j:=by
 unfold SA
 have e:L.getD j L0=L[j]:=by rw[List.getD_eq_getElem?_getD,List.getElem?_eq_getElem hj,Option.getD_some]
 rw[List.range_succ,List.filter_append]
 by_cases h:L[j].1=sub
 ·rw[if_pos h,List.filter_cons_of_pos (by rw[e];exact decide_eq_true h),List.filter_nil,List.map_append];rfl
 ·rw[if_neg h,List.filter_cons_of_neg (by rw[e,decide_eq_false h];simp),List.filter_nil,List.append_nil]
theorem C9 (L:List LT)(sub:Int):∀ n,n≤L.length→(SA L sub n).length=cnt (L.take n) sub
 | 0,_=>rfl
 | n+1,h=>by
  have hlt:n<L.length:=by omega
  rw[GN L sub hlt,aW hlt,tJ]
  have:=C9 L sub n (by omega)
  split
  ·rw[List.length_append,this];rfl
  ·rw[this];rfl
theorem aaf (L:List LT)(hL:L.length≤1000)(sub:Int):f21 L sub=some (SA L sub L.length,()):=by
 unfold f21
 have e:iter aC Bl ((sub,L,((L.length:Nat):Int),0,()),(),[],())=some (.inl ((),(),SA L sub L.length,())):=by
  refine eA (u:=Bl) (fun j=>((sub,L,((L.length:Nat):Int),((j:Nat):Int),()),(),SA L sub j,())) (n:=L.length) (y:=((),(),SA L sub L.length,())) (fun j hj=>?_) ?_ 0 aC (Nat.zero_le _) (by unfold aC;omega)
  ·have hlen:=C9 L sub j (by omega)
   have:cnt (L.take j) sub≤j:=by
    have:=List.countP_le_length (p:=fun x:LT=>decide (x.1=sub)) (l:=L.take j)
    rw[List.length_take] at this
    unfold cnt;omega
   have cap:(decide (((SA L sub j).length+1) * 8≤140737488355328)&&decide ((SA L sub j).length+1≤9223372036854775807))=true:=by
    rw[decide_eq_true (by omega),decide_eq_true (by omega)];rfl
   simp only[Bl,UB,dB hj,dx,cond_true,Bool.and_self,Int.toNat_natCast,Qj hj,nx hj (show L.length≤9223372036854775807 by omega),cap]
   rw[GN L sub hj]
   by_cases h:L[j].1=sub
   ·rw[if_pos h,decide_eq_true h];rfl
   ·rw[if_neg h,decide_eq_false h];rfl
  ·simp only[Bl,UB,gr,cond_false]
 rw[e];rfl
theorem abv {now:Int}(h0:0≤now)(h1:now≤1073741824):f67 now=some ((now,[]),true,()):=by
 unfold f67
 rw[Cz ⟨h0,h1,by simp,by simp,by simp,by simp⟩];rfl
theorem c72:(decide ((72:Nat)≤140737488355328)&&decide ((1:Nat)≤9223372036854775807))=true:=by decide
theorem adG:(decide ((([]:List ET).length+1) * 72≤140737488355328)&&decide (([]:List ET).length+1≤9223372036854775807))=true:=by decide
section
variable (s:ST)(r:RT)
abbrev zv (d:QU):Option (ST×List ET×AT×Unit):=some (d.1,d.2.1,d.2.2,())
theorem Z1 (h:Sm s)(hn:¬ (aM s∧0≤r.1∧r.1<9)):f13 s.1.1.1 s.1.1.2 s.1.2.1.1 s.1.2.1.2 s.1.2.2.1 s.1.2.2.2.1 s.1.2.2.2.2.1 s.1.2.2.2.2.2 s.2.1.1 s.2.1.2.1 s.2.1.2.2.1 s.2.1.2.2.2 s.2.2.1 s.2.2.2.1 s.2.2.2.2.1 s.2.2.2.2.2 r.1 r.2.1 r.2.2.1 r.2.2.2.1 r.2.2.2.2.1 r.2.2.2.2.2.1 r.2.2.2.2.2.2.1 r.2.2.2.2.2.2.2.1 r.2.2.2.2.2.2.2.2=zv (lN s 1):=by
 unfold f13
 rw[ez s h.I9 h.En h.Kj]
 simp only[Option.bind_some]
 have own:=jO s h
 by_cases M:aM s
 ·rw[decide_eq_true M]
  simp only[cond_true]
  by_cases h0:0≤r.1
  ·rw[decide_eq_true h0,decide_eq_false (show ¬ r.1<9 from fun h9=>hn ⟨M,h0,h9⟩)]
   simp only[cond_true,Bool.not_false]
   rw[own];rfl
  ·rw[decide_eq_false h0]
   simp only[cond_false]
   rw[own];rfl
 ·rw[decide_eq_false M]
  simp only[cond_false]
  rw[own];rfl
theorem QD (h:Sm s)(M:aM s)(hk:r.1=0):f13 s.1.1.1 s.1.1.2 s.1.2.1.1 s.1.2.1.2 s.1.2.2.1 s.1.2.2.2.1 s.1.2.2.2.2.1 s.1.2.2.2.2.2 s.2.1.1 s.2.1.2.1 s.2.1.2.2.1 s.2.1.2.2.2 s.2.2.1 s.2.2.2.1 s.2.2.2.2.1 s.2.2.2.2.2 r.1 r.2.1 r.2.2.1 r.2.2.2.1 r.2.2.2.2.1 r.2.2.2.2.2.1 r.2.2.2.2.2.2.1 r.2.2.2.2.2.2.2.1 r.2.2.2.2.2.2.2.2=zv (ri s r.2.1):=by
 unfold f13
 rw[ez s h.I9 h.En h.Kj]
 simp only[Option.bind_some]
 have own:=jO s h
 have hl32:=M.len
 rw[decide_eq_true M,decide_eq_true (show (0:Int)≤r.1 by omega),decide_eq_true (show r.1<9 by omega),decide_eq_true hk]
 simp only[cond_true,Bool.not_true,cond_false,own,Option.bind_some]
 rw[Ux]
 simp only[Option.bind_some]
 unfold ri
 by_cases hs:td s.1 r.2.1
 case neg=>
  rw[decide_eq_false hs,if_pos hs]
  simp only[Bool.not_false,cond_true,own,Option.bind_some];rfl
 rw[decide_eq_true hs,if_neg (not_not_intro hs),if_pos hs]
 simp only[Bool.not_true,cond_false]
 rw[aaf _ h.l]
 simp only[Option.bind_some]
 rw[C9 _ _ _ (Nat.le_refl _),List.take_length]
 by_cases hq:((cnt s.2.2.2.2.1 r.2.1:Nat):Int)<s.2.1.1
 case neg=>
  rw[decide_eq_false hq,if_pos hq]
  simp only[Bool.not_false,cond_true,own,Option.bind_some];rfl
 rw[decide_eq_true hq,if_neg (not_not_intro hq)]
 simp only[Bool.not_true,cond_false,zn,Option.bind_some]
 have hb:=M.fit.base hs.2.1 hs.2.2
 have hy:=M.fit.y2
 have hy1:=M.fit.y1
 have hP:Sz s.2.2.2.1:=h.I9
 have n0:=M.jX
 have n1:=M.nV
 have hb8:=M.fit.blk
 have hb0:0≤dm s.1:=Int.ediv_nonneg M.fit.g1 (by have:=M.fit.h1;omega)
 have f100e:=fun a=>MR M.fit s.2.2.2.2.1 s.2.2.2.2.2 (by omega) (by have:=M.L9;omega) a
 have f99e:=fun a=>Q4 (show (dm s.1).toNat≤8 by omega) (rZ a (s.2.2.2.2.1.map kL++s.2.2.2.2.2.map kH) (Nat.two_pow_pos (dm s.1).toNat))
 have put:∀ a b,f63 s.2.2.2.2.1 r.2.1 a b s.2.2.1 s.2.2.1=some ((kr s.2.2.2.2.1 (r.2.1,a,b,s.2.2.1,s.2.2.1)).1,(kr s.2.2.2.2.1 (r.2.1,a,b,s.2.2.1,s.2.2.1)).2,()):=fun a b=>Ri s.2.2.2.2.1 h.l (r.2.1,a,b,s.2.2.1,s.2.2.1)
 have eb:(OH s.1 r.2.1).1=r.2.1 / gi s.1:=rfl
 by_cases hp:s.2.1.2.2.2=true
 ·have hc:∀ {α:Type} (a b:α),cond s.2.1.2.2.2 a b=a:=fun a b=>by rw[hp];rfl
  rw[hc,if_pos hp]
  simp only[LR _ hP,Option.bind_some,eb]
  by_cases h1:iv s.2.2.2.1 (r.2.1 / gi s.1) = -1
  ·rw[decide_eq_true h1,if_pos h1]
   simp only[Bool.not_true,Bool.not_false,cond_true,cond_false,own,Option.bind_some];rfl
  rw[decide_eq_false h1,if_neg h1]
  simp only[Bool.not_true,Bool.not_false,cond_true,cond_false,uW _ hP,Option.bind_some]
  by_cases h2:fN s.2.2.2.1 (r.2.1 / gi s.1)=false
  ·rw[h2,if_pos rfl]
   simp only[Bool.not_true,Bool.not_false,cond_true,cond_false,own,Option.bind_some];rfl
  have h2':fN s.2.2.2.1 (r.2.1 / gi s.1)=true:=by simpa using h2
  rw[h2',if_neg (by simp)]
  simp only[Bool.not_true,Bool.not_false,cond_true,cond_false]
  rw[iq (x:=r.2.1 / gi s.1+1) (by omega) (by omega)]
  rw[lg (k:=1+1) (n:=aC) (by unfold aC;omega) (Ck s M _ _ _ _ _ _ _ _ _ _ _ _ _ _ _ _ _ _ _ _ _ _ _ _ _ _ _ _ _ _ _ _ _ _ _ _ _ _ _ _ _ _ _ _ _ _ _ _ _ _ _ _ _ _ _ _ _ _ _ _ _ _ _ (r.2.1 / gi s.1+1) (by omega) 1 (r.2.1 / gi s.1) hb.1 rfl)]
  simp only[Option.bind_some]
  unfold iH
  have e1:(r.2.1 / gi s.1+1-r.2.1 / gi s.1).toNat=1:=by omega
  rw[e1]
  have g1:=lM (aZ s) 1 (r.2.1 / gi s.1)
  have g2:=mw (aZ s) 1 (r.2.1 / gi s.1)
  generalize bl (aZ s) 1 (r.2.1 / gi s.1)=x at g1 g2 ⊢
  by_cases h3:r.2.1 / gi s.1+1≤x
  ·rw[decide_eq_false (show ¬ x<r.2.1 / gi s.1+1 by omega),if_pos h3]
   simp only[Bool.not_true,Bool.not_false,cond_true,cond_false]
   simp only[own,Option.bind_some];rfl
  ·obtain⟨b1,b2,b3,b4⟩:=zV M (g2 (by omega)) (by omega) (by omega)
   have eB:aZ s x=je (dm s.1).toNat (mH (dm s.1).toNat x 0 (s.2.2.2.2.1.map kL++s.2.2.2.2.2.map kH)):=if_pos b1
   rw[decide_eq_true (show x<r.2.1 / gi s.1+1 by omega),if_neg h3]
   simp only[Bool.not_true,Bool.not_false,cond_true,cond_false,uW _ hP,b1,f100e,f99e,Option.bind_some,← eB,put,adG]
   rfl
 ·have hp':s.2.1.2.2.2=false:=by simpa using hp
  have hc:∀ {α:Type} (a b:α),cond s.2.1.2.2.2 a b=b:=fun a b=>by rw[hp'];rfl
  rw[hc,if_neg hp]
  rw[lg (k:=(fD s.1).toNat+1) (n:=aC) (by unfold aC;omega) (Ck s M _ _ _ _ _ _ _ _ _ _ _ _ _ _ _ _ _ _ _ _ _ _ _ _ _ _ _ _ _ _ _ _ _ _ _ _ _ _ _ _ _ _ _ _ _ _ _ _ _ _ _ _ _ _ _ _ _ _ _ _ _ _ _ (fD s.1) (by omega) (fD s.1).toNat 0 (Int.le_refl _) (by omega))]
  simp only[Option.bind_some]
  unfold iH
  have e1:(fD s.1-0).toNat=(fD s.1).toNat:=by omega
  rw[e1]
  have g1:=lM (aZ s) (fD s.1).toNat 0
  have g2:=mw (aZ s) (fD s.1).toNat 0
  generalize bl (aZ s) (fD s.1).toNat 0=x at g1 g2 ⊢
  by_cases h3:fD s.1≤x
  ·rw[decide_eq_false (show ¬ x<fD s.1 by omega),if_pos h3]
   simp only[Bool.not_true,Bool.not_false,cond_true,cond_false]
   simp only[own,Option.bind_some];rfl
  ·obtain⟨b1,b2,b3,b4⟩:=zV M (g2 (by omega)) (by omega) (by omega)
   have eB:aZ s x=je (dm s.1).toNat (mH (dm s.1).toNat x 0 (s.2.2.2.2.1.map kL++s.2.2.2.2.2.map kH)):=if_pos b1
   rw[decide_eq_true (show x<fD s.1 by omega),if_neg h3]
   simp only[Bool.not_true,Bool.not_false,cond_true,cond_false,uW _ hP,b1,f100e,f99e,Option.bind_some,← eB,put,adG]
   rfl
theorem Ob {L:List LT}{a b:Int}(hh:cr L a b=true):∃ (hlt:L.findIdx (iw a b)<L.length),fO L a b=((L.findIdx (iw a b):Nat):Int)∧L[L.findIdx (iw a b)]=b8 L a b:=by
 have hlt:L.findIdx (iw a b)<L.length:=by
  unfold cr at hh
  rw[List.any_eq_true] at hh
  exact List.findIdx_lt_length.2 hh
 refine⟨hlt,if_pos hlt,?_⟩
 unfold b8
 rw[List.getD_eq_getElem?_getD,List.getElem?_eq_getElem hlt,Option.getD_some]
theorem IV (h:Sm s)(M:aM s)(hk:r.1=1):f13 s.1.1.1 s.1.1.2 s.1.2.1.1 s.1.2.1.2 s.1.2.2.1 s.1.2.2.2.1 s.1.2.2.2.2.1 s.1.2.2.2.2.2 s.2.1.1 s.2.1.2.1 s.2.1.2.2.1 s.2.1.2.2.2 s.2.2.1 s.2.2.2.1 s.2.2.2.2.1 s.2.2.2.2.2 r.1 r.2.1 r.2.2.1 r.2.2.2.1 r.2.2.2.2.1 r.2.2.2.2.2.1 r.2.2.2.2.2.2.1 r.2.2.2.2.2.2.2.1 r.2.2.2.2.2.2.2.2=zv (j6 s r.2.1 r.2.2.1 r.2.2.2.1):=by
 unfold f13
 rw[ez s h.I9 h.En h.Kj]
 simp only[Option.bind_some]
 have own:=jO s h
 rw[decide_eq_true M,decide_eq_true (show (0:Int)≤r.1 by omega),decide_eq_true (show r.1<9 by omega),decide_eq_false (show ¬ r.1=0 by omega),decide_eq_true hk]
 simp only[cond_true,Bool.not_true,cond_false,own,Option.bind_some]
 rw[rJ _ h.En]
 simp only[Option.bind_some]
 unfold j6
 by_cases hh:cr s.2.2.2.2.1 r.2.2.1 r.2.2.2.1=true
 ·obtain⟨hlt,e1,e2⟩:=Ob hh
  rw[e1,decide_eq_false (show ¬ ((s.2.2.2.2.1.findIdx (iw r.2.2.1 r.2.2.2.1):Nat):Int) = -1 by omega)]
  simp only[Bool.not_false,cond_true,dx,dB hlt,Bool.and_self,Int.toNat_natCast,decide_eq_true hlt,Qj hlt,e2]
  by_cases hm:(b8 s.2.2.2.2.1 r.2.2.1 r.2.2.2.1).1=r.2.1
  ·rw[decide_eq_true hm,if_neg (not_not_intro (show jD s.2.2.2.2.1 r.2.1 r.2.2.1 r.2.2.2.1 from ⟨hh,hm⟩))];rfl
  ·rw[decide_eq_false hm,if_pos (show ¬ jD s.2.2.2.2.1 r.2.1 r.2.2.1 r.2.2.2.1 from fun k=>hm k.2)];rfl
 ·have hh':cr s.2.2.2.2.1 r.2.2.1 r.2.2.2.1=false:=by simpa using hh
  rw[decide_eq_true ((di _ _ _).2 hh'),if_pos (show ¬ jD s.2.2.2.2.1 r.2.1 r.2.2.1 r.2.2.2.1 from fun k=>hh k.1)];rfl
theorem Jy (h:Sm s)(M:aM s)(hk:r.1=2):f13 s.1.1.1 s.1.1.2 s.1.2.1.1 s.1.2.1.2 s.1.2.2.1 s.1.2.2.2.1 s.1.2.2.2.2.1 s.1.2.2.2.2.2 s.2.1.1 s.2.1.2.1 s.2.1.2.2.1 s.2.1.2.2.2 s.2.2.1 s.2.2.2.1 s.2.2.2.2.1 s.2.2.2.2.2 r.1 r.2.1 r.2.2.1 r.2.2.2.1 r.2.2.2.2.1 r.2.2.2.2.2.1 r.2.2.2.2.2.2.1 r.2.2.2.2.2.2.2.1 r.2.2.2.2.2.2.2.2=zv (ko s r.2.1 r.2.2.1 r.2.2.2.1):=by
 unfold f13
 rw[ez s h.I9 h.En h.Kj]
 simp only[Option.bind_some]
 have own:=jO s h
 have n0:=M.jX
 have n1:=M.nV
 have hp2:=M.ud.2.2
 rw[decide_eq_true M,decide_eq_true (show (0:Int)≤r.1 by omega),decide_eq_true (show r.1<9 by omega),decide_eq_false (show ¬ r.1=0 by omega),decide_eq_false (show ¬ r.1=1 by omega),decide_eq_true hk]
 simp only[cond_true,Bool.not_true,cond_false,own,Option.bind_some]
 rw[rJ _ h.En]
 simp only[Option.bind_some]
 unfold ko
 by_cases hh:cr s.2.2.2.2.1 r.2.2.1 r.2.2.2.1=true
 ·obtain⟨hlt,e1,e2⟩:=Ob hh
  obtain⟨m1,m2⟩:=j5 hh
  have k1:(b8 s.2.2.2.2.1 r.2.2.1 r.2.2.2.1).2.1=r.2.2.1:=congrArg Prod.fst m2
  have k2:(b8 s.2.2.2.2.1 r.2.2.1 r.2.2.2.1).2.2.1=r.2.2.2.1:=congrArg Prod.snd m2
  rw[e1,decide_eq_false (show ¬ ((s.2.2.2.2.1.findIdx (iw r.2.2.1 r.2.2.2.1):Nat):Int) = -1 by omega)]
  simp only[Bool.not_false,cond_true,dx,dB hlt,Bool.and_self,Int.toNat_natCast,decide_eq_true hlt,Qj hlt,e2,decide_true]
  by_cases hm:(b8 s.2.2.2.2.1 r.2.2.1 r.2.2.2.1).1=r.2.1
  ·rw[decide_eq_true hm,if_neg (not_not_intro (show jD s.2.2.2.2.1 r.2.1 r.2.2.1 r.2.2.2.1 from ⟨hh,hm⟩))]
   simp only[Bool.not_true,cond_false]
   rw[Mq _ h.l,if_pos (by rw[k1,k2];exact hh)]
   simp only[Option.bind_some,c72,cond_true]
   unfold iR jl
   by_cases hp:0<s.2.1.2.2.1
   ·rw[decide_eq_true hp,if_pos hp,iq (x:=s.2.2.1+s.2.1.2.2.1) (by omega) (by omega)]
    simp only[cond_true]
    have h103:=CQ s.2.2.2.2.2 (by have:=M.L9;omega) ((b8 s.2.2.2.2.1 r.2.2.1 r.2.2.2.1).2.1,(b8 s.2.2.2.2.1 r.2.2.1 r.2.2.2.1).2.2.1,s.2.2.1+s.2.1.2.2.1)
    simp only at h103
    rw[h103];rfl
   ·rw[decide_eq_false hp,if_neg hp];rfl
  ·rw[decide_eq_false hm,if_pos (show ¬ jD s.2.2.2.2.1 r.2.1 r.2.2.1 r.2.2.2.1 from fun k=>hm k.2)];rfl
 ·have hh':cr s.2.2.2.2.1 r.2.2.1 r.2.2.2.1=false:=by simpa using hh
  rw[decide_eq_true ((di _ _ _).2 hh'),if_pos (show ¬ jD s.2.2.2.2.1 r.2.1 r.2.2.1 r.2.2.2.1 from fun k=>hh k.1)];rfl
theorem Rj (h:Sm s)(M:aM s)(hk:r.1=3):f13 s.1.1.1 s.1.1.2 s.1.2.1.1 s.1.2.1.2 s.1.2.2.1 s.1.2.2.2.1 s.1.2.2.2.2.1 s.1.2.2.2.2.2 s.2.1.1 s.2.1.2.1 s.2.1.2.2.1 s.2.1.2.2.2 s.2.2.1 s.2.2.2.1 s.2.2.2.2.1 s.2.2.2.2.2 r.1 r.2.1 r.2.2.1 r.2.2.2.1 r.2.2.2.2.1 r.2.2.2.2.2.1 r.2.2.2.2.2.2.1 r.2.2.2.2.2.2.2.1 r.2.2.2.2.2.2.2.2=zv (zM s r.2.2.2.2.1):=by
 unfold f13
 rw[ez s h.I9 h.En h.Kj]
 simp only[Option.bind_some]
 have own:=jO s h
 have hl32:=M.len
 have hlH:=M.L9
 rw[decide_eq_true M,decide_eq_true (show (0:Int)≤r.1 by omega),decide_eq_true (show r.1<9 by omega),decide_eq_false (show ¬ r.1=0 by omega),decide_eq_false (show ¬ r.1=1 by omega),decide_eq_false (show ¬ r.1=2 by omega),decide_eq_true hk]
 simp only[cond_true,Bool.not_true,cond_false,own,Option.bind_some,abv M.jX M.nV]
 rw[VW s M _ _ _ _ _ _ _ _ _ _ _ _ _ _ _ _ _ _ _ _ _ _ _ _ _ _ _ _ _ _ _ _ _ _ _ _ _ _ _ _ _ _ _ _ _ _ _ _ _ _ _ _ _ _ _ _ _ _ _ _ _ _ _ _ _ _ _ _ _ _ _ _]
 simp only[Option.bind_some]
 have C:=Df M _ (Nat.le_refl _)
 rw[aar C.wh]
 unfold zM
 by_cases hn:r.2.2.2.2.1<s.2.2.1∨1073741824<r.2.2.2.2.1
 ·rw[if_pos hn,if_pos hn]
  simp only[Option.bind_some]
  rw[decide_eq_false (show ¬ (10:Int)=0 by omega)]
  simp only[Bool.not_false,cond_true,own,Option.bind_some];rfl
 ·rw[if_neg hn,if_neg hn]
  simp only[Option.bind_some,decide_true,Bool.not_true,cond_false]
  rw[V8 M (show r.2.2.2.2.1≤1073741824 by omega)]
  rw[Tq s M r.2.2.2.2.1 _ _ _ _ _ _ _ _ _ _ _ _ _ _ _ _ _ _ _ _ _ _ _ _ _ _ _ _ _ _ _ _ _ _ _ _ _ _ _ _ _ _ _ _ _ _ _ _ _ _ _ _ _ _ _ _ _ _ _ _ _ _ _ _ _ _ _ _ _ _ _ _ _ _]
  have F:=QZ M r.2.2.2.2.1 (aQ s r.2.2.2.2.1).length
  have hH:=D4 (s:=s) r.2.2.2.2.1 _ (Nat.le_refl _)
  have hdl:(aQ s r.2.2.2.2.1).length≤32:=by
   unfold aQ
   rw[List.length_mergeSort]
   have:=List.length_filter_le (fun x=>decide ((ig s.2.1.2.1 x).2≤r.2.2.2.2.1)) s.2.2.2.2.1
   omega
  simp only[Option.bind_some]
  rw[R7 _ (by omega)]
  simp only[Option.bind_some]
  have eT:cK s (aQ s r.2.2.2.2.1)=qx s r.2.2.2.2.1 (aQ s r.2.2.2.2.1).length:=by unfold qx;rw[List.take_length]
  have eE:(aQ s r.2.2.2.2.1).map (fun x=>jl x (x.2.2.2.2+s.2.1.2.1))=QS s r.2.2.2.2.1 (aQ s r.2.2.2.2.1).length:=by unfold QS;rw[List.take_length]
  rw[eT,eE,List.length_map]
  obtain⟨d,ud,now,dD,_,_,_⟩:=F
  generalize qx s r.2.2.2.2.1 (aQ s r.2.2.2.2.1).length=t at d ud now dD ⊢
  obtain⟨tD,tP,tN,tPl,tL,tH⟩:=t
  simp only at d ud now dD
  subst d ud now dD
  rfl
theorem JC (s:ST)(h:Sm s):Sz (ct s.2.2.2.2.1):=by
 have h1:(ct s.2.2.2.2.1).length≤((s.2.2.2.2.1.map (·.2.1)).mergeSort fun x y=>decide (x≤y)).length:=wZ _
 rw[List.length_mergeSort,List.length_map] at h1
 have:=h.l
 unfold Sz;omega
theorem XE (h:Sm s)(M:aM s)(hk:r.1=4):f13 s.1.1.1 s.1.1.2 s.1.2.1.1 s.1.2.1.2 s.1.2.2.1 s.1.2.2.2.1 s.1.2.2.2.2.1 s.1.2.2.2.2.2 s.2.1.1 s.2.1.2.1 s.2.1.2.2.1 s.2.1.2.2.2 s.2.2.1 s.2.2.2.1 s.2.2.2.2.1 s.2.2.2.2.2 r.1 r.2.1 r.2.2.1 r.2.2.2.1 r.2.2.2.2.1 r.2.2.2.2.2.1 r.2.2.2.2.2.2.1 r.2.2.2.2.2.2.2.1 r.2.2.2.2.2.2.2.2=zv (bX s (qm s.2.2.2.1 (fD s.1) r.2.2.1 r.2.2.2.2.1) (2,s.2.2.1,r.2.2.1,r.2.2.2.2.1,0,P0)):=by
 unfold f13
 rw[ez s h.I9 h.En h.Kj]
 simp only[Option.bind_some]
 have own:=jO s h
 rw[decide_eq_true M,decide_eq_true (show (0:Int)≤r.1 by omega),decide_eq_true (show r.1<9 by omega),decide_eq_false (show ¬ r.1=0 by omega),decide_eq_false (show ¬ r.1=1 by omega),decide_eq_false (show ¬ r.1=2 by omega),decide_eq_false (show ¬ r.1=3 by omega),decide_eq_true hk]
 simp only[cond_true,Bool.not_true,cond_false,own,Option.bind_some]
 rw[zn]
 simp only[Option.bind_some]
 rw[UY h.p]
 simp only[Option.bind_some]
 unfold bX
 by_cases h0:(qm s.2.2.2.1 (fD s.1) r.2.2.1 r.2.2.2.2.1).2=0
 ·rw[decide_eq_true h0,if_neg (not_not_intro h0)]
  simp only[Bool.not_true,cond_false,c72,cond_true]<;>rfl
 ·rw[decide_eq_false h0,if_pos h0]
  simp only[Bool.not_false,cond_true,own,Option.bind_some];rfl
theorem Pg (h:Sm s)(M:aM s)(hk:r.1=5):f13 s.1.1.1 s.1.1.2 s.1.2.1.1 s.1.2.1.2 s.1.2.2.1 s.1.2.2.2.1 s.1.2.2.2.2.1 s.1.2.2.2.2.2 s.2.1.1 s.2.1.2.1 s.2.1.2.2.1 s.2.1.2.2.2 s.2.2.1 s.2.2.2.1 s.2.2.2.2.1 s.2.2.2.2.2 r.1 r.2.1 r.2.2.1 r.2.2.2.1 r.2.2.2.2.1 r.2.2.2.2.2.1 r.2.2.2.2.2.2.1 r.2.2.2.2.2.2.2.1 r.2.2.2.2.2.2.2.2=zv (bX s (dZ s.2.2.2.1 (fD s.1) r.2.2.2.2.1) (3,s.2.2.1,r.2.2.2.2.1,0,0,P0)):=by
 unfold f13
 rw[ez s h.I9 h.En h.Kj]
 simp only[Option.bind_some]
 have own:=jO s h
 rw[decide_eq_true M,decide_eq_true (show (0:Int)≤r.1 by omega),decide_eq_true (show r.1<9 by omega),decide_eq_false (show ¬ r.1=0 by omega),decide_eq_false (show ¬ r.1=1 by omega),decide_eq_false (show ¬ r.1=2 by omega),decide_eq_false (show ¬ r.1=3 by omega),decide_eq_false (show ¬ r.1=4 by omega),decide_eq_true hk]
 simp only[cond_true,Bool.not_true,cond_false,own,Option.bind_some]
 rw[zn]
 simp only[Option.bind_some]
 rw[TV h.p]
 simp only[Option.bind_some]
 unfold bX
 by_cases h0:(dZ s.2.2.2.1 (fD s.1) r.2.2.2.2.1).2=0
 ·rw[decide_eq_true h0,if_neg (not_not_intro h0)]
  simp only[Bool.not_true,cond_false,c72,cond_true]<;>rfl
 ·rw[decide_eq_false h0,if_pos h0]
  simp only[Bool.not_false,cond_true,own,Option.bind_some];rfl
theorem Q0 (h:Sm s)(M:aM s)(hk:r.1=6):f13 s.1.1.1 s.1.1.2 s.1.2.1.1 s.1.2.1.2 s.1.2.2.1 s.1.2.2.2.1 s.1.2.2.2.2.1 s.1.2.2.2.2.2 s.2.1.1 s.2.1.2.1 s.2.1.2.2.1 s.2.1.2.2.2 s.2.2.1 s.2.2.2.1 s.2.2.2.2.1 s.2.2.2.2.2 r.1 r.2.1 r.2.2.1 r.2.2.2.1 r.2.2.2.2.1 r.2.2.2.2.2.1 r.2.2.2.2.2.2.1 r.2.2.2.2.2.2.2.1 r.2.2.2.2.2.2.2.2=zv (bX s (gM s.2.2.2.1 (fD s.1) r.2.2.1 r.2.2.2.2.1 (ct s.2.2.2.2.1)) (4,s.2.2.1,r.2.2.1,r.2.2.2.2.1,0,P0)):=by
 unfold f13
 rw[ez s h.I9 h.En h.Kj]
 simp only[Option.bind_some]
 have own:=jO s h
 rw[decide_eq_true M,decide_eq_true (show (0:Int)≤r.1 by omega),decide_eq_true (show r.1<9 by omega),decide_eq_false (show ¬ r.1=0 by omega),decide_eq_false (show ¬ r.1=1 by omega),decide_eq_false (show ¬ r.1=2 by omega),decide_eq_false (show ¬ r.1=3 by omega),decide_eq_false (show ¬ r.1=4 by omega),decide_eq_false (show ¬ r.1=5 by omega),decide_eq_true hk]
 simp only[cond_true,Bool.not_true,cond_false,own,Option.bind_some]
 rw[zn]
 simp only[Option.bind_some]
 rw[Fe _ h.l]
 simp only[Option.bind_some]
 rw[RE h.p _ _ _ (by have:=JC s h;exact this)]
 simp only[Option.bind_some]
 unfold bX
 by_cases h0:(gM s.2.2.2.1 (fD s.1) r.2.2.1 r.2.2.2.2.1 (ct s.2.2.2.2.1)).2=0
 ·rw[decide_eq_true h0,if_neg (not_not_intro h0)]
  simp only[Bool.not_true,cond_false,c72,cond_true]<;>rfl
 ·rw[decide_eq_false h0,if_pos h0]
  simp only[Bool.not_false,cond_true,own,Option.bind_some];rfl
theorem Sp (h:Sm s)(M:aM s)(hk:r.1=7):f13 s.1.1.1 s.1.1.2 s.1.2.1.1 s.1.2.1.2 s.1.2.2.1 s.1.2.2.2.1 s.1.2.2.2.2.1 s.1.2.2.2.2.2 s.2.1.1 s.2.1.2.1 s.2.1.2.2.1 s.2.1.2.2.2 s.2.2.1 s.2.2.2.1 s.2.2.2.2.1 s.2.2.2.2.2 r.1 r.2.1 r.2.2.1 r.2.2.2.1 r.2.2.2.2.1 r.2.2.2.2.2.1 r.2.2.2.2.2.2.1 r.2.2.2.2.2.2.2.1 r.2.2.2.2.2.2.2.2=zv (bX s (ic s.2.2.2.1 (fD s.1) r.2.2.2.2.1 (ct s.2.2.2.2.1)) (5,s.2.2.1,r.2.2.2.2.1,0,0,P0)):=by
 unfold f13
 rw[ez s h.I9 h.En h.Kj]
 simp only[Option.bind_some]
 have own:=jO s h
 rw[decide_eq_true M,decide_eq_true (show (0:Int)≤r.1 by omega),decide_eq_true (show r.1<9 by omega),decide_eq_false (show ¬ r.1=0 by omega),decide_eq_false (show ¬ r.1=1 by omega),decide_eq_false (show ¬ r.1=2 by omega),decide_eq_false (show ¬ r.1=3 by omega),decide_eq_false (show ¬ r.1=4 by omega),decide_eq_false (show ¬ r.1=5 by omega),decide_eq_false (show ¬ r.1=6 by omega),decide_eq_true hk]
 simp only[cond_true,Bool.not_true,cond_false,own,Option.bind_some]
 rw[zn]
 simp only[Option.bind_some]
 rw[Fe _ h.l]
 simp only[Option.bind_some]
 rw[SY h.p _ _ (by have:=JC s h;exact this)]
 simp only[Option.bind_some]
 unfold bX
 by_cases h0:(ic s.2.2.2.1 (fD s.1) r.2.2.2.2.1 (ct s.2.2.2.2.1)).2=0
 ·rw[decide_eq_true h0,if_neg (not_not_intro h0)]
  simp only[Bool.not_true,cond_false,c72,cond_true]<;>rfl
 ·rw[decide_eq_false h0,if_pos h0]
  simp only[Bool.not_false,cond_true,own,Option.bind_some];rfl
theorem KE (h:Sm s)(M:aM s)(hk:r.1=8):f13 s.1.1.1 s.1.1.2 s.1.2.1.1 s.1.2.1.2 s.1.2.2.1 s.1.2.2.2.1 s.1.2.2.2.2.1 s.1.2.2.2.2.2 s.2.1.1 s.2.1.2.1 s.2.1.2.2.1 s.2.1.2.2.2 s.2.2.1 s.2.2.2.1 s.2.2.2.2.1 s.2.2.2.2.2 r.1 r.2.1 r.2.2.1 r.2.2.2.1 r.2.2.2.2.1 r.2.2.2.2.2.1 r.2.2.2.2.2.2.1 r.2.2.2.2.2.2.2.1 r.2.2.2.2.2.2.2.2=zv (pW s r.2.2.2.2.2):=by
 unfold f13
 rw[ez s h.I9 h.En h.Kj]
 simp only[Option.bind_some]
 have own:=jO s h
 rw[decide_eq_true M,decide_eq_true (show (0:Int)≤r.1 by omega),decide_eq_true (show r.1<9 by omega),decide_eq_false (show ¬ r.1=0 by omega),decide_eq_false (show ¬ r.1=1 by omega),decide_eq_false (show ¬ r.1=2 by omega),decide_eq_false (show ¬ r.1=3 by omega),decide_eq_false (show ¬ r.1=4 by omega),decide_eq_false (show ¬ r.1=5 by omega),decide_eq_false (show ¬ r.1=6 by omega),decide_eq_false (show ¬ r.1=7 by omega),decide_eq_true hk]
 simp only[cond_true,Bool.not_true,cond_false,own,Option.bind_some]
 rw[Lt]
 simp only[Option.bind_some]
 unfold pW
 by_cases h0:tT r.2.2.2.2.2
 case neg=>
  rw[decide_eq_false h0,if_pos h0]
  simp only[Bool.not_false,cond_true,own,Option.bind_some];rfl
 rw[decide_eq_true h0,if_neg (not_not_intro h0)]
 simp only[Bool.not_true,cond_false]
 have e:=ez (lK s r.2.2.2.2.2) h.I9 h.En h.Kj
 simp only[lK] at e
 rw[e]
 simp only[Option.bind_some]
 by_cases h1:aM (lK s r.2.2.2.2.2)
 ·have h1':aM (s.1,r.2.2.2.2.2,s.2.2.1,s.2.2.2.1,s.2.2.2.2.1,s.2.2.2.2.2):=h1
  rw[decide_eq_true h1',if_neg (not_not_intro h1)]
  simp only[Bool.not_true,cond_false,c72,cond_true]<;>rfl
 ·have h1':¬ aM (s.1,r.2.2.2.2.2,s.2.2.1,s.2.2.2.1,s.2.2.2.2.1,s.2.2.2.2.2):=h1
  rw[decide_eq_false h1',if_pos h1]
  simp only[Bool.not_false,cond_true,own,Option.bind_some];rfl
theorem aa8 (h:Sm s):f13 s.1.1.1 s.1.1.2 s.1.2.1.1 s.1.2.1.2 s.1.2.2.1 s.1.2.2.2.1 s.1.2.2.2.2.1 s.1.2.2.2.2.2 s.2.1.1 s.2.1.2.1 s.2.1.2.2.1 s.2.1.2.2.2 s.2.2.1 s.2.2.2.1 s.2.2.2.2.1 s.2.2.2.2.2 r.1 r.2.1 r.2.2.1 r.2.2.2.1 r.2.2.2.2.1 r.2.2.2.2.2.1 r.2.2.2.2.2.2.1 r.2.2.2.2.2.2.2.1 r.2.2.2.2.2.2.2.2=zv (AU s r):=by
 unfold AU
 by_cases h0:aM s∧0≤r.1∧r.1<9
 case neg=>rw[if_pos h0];exact Z1 s r h h0
 rw[if_neg (not_not_intro h0)]
 have M:=h0.1
 by_cases k0:r.1=0
 ·rw[if_pos k0];exact QD s r h M k0
 rw[if_neg k0]
 by_cases k1:r.1=1
 ·rw[if_pos k1];exact IV s r h M k1
 rw[if_neg k1]
 by_cases k2:r.1=2
 ·rw[if_pos k2];exact Jy s r h M k2
 rw[if_neg k2]
 by_cases k3:r.1=3
 ·rw[if_pos k3];exact Rj s r h M k3
 rw[if_neg k3]
 by_cases k4:r.1=4
 ·rw[if_pos k4];exact XE s r h M k4
 rw[if_neg k4]
 by_cases k5:r.1=5
 ·rw[if_pos k5];exact Pg s r h M k5
 rw[if_neg k5]
 by_cases k6:r.1=6
 ·rw[if_pos k6];exact Q0 s r h M k6
 rw[if_neg k6]
 by_cases k7:r.1=7
 ·rw[if_pos k7];exact Sp s r h M k7
 rw[if_neg k7]
 exact KE s r h M (by omega)
end
set_option maxRecDepth 100000
theorem rdE {l:List ET}{j:Nat}(h:j<l.length):rd (.pair (.int .i64) (.pair (.int .i64) (.pair (.int .i64) (.pair (.int .i64) (.pair (.int .i64) (.pair (.int .i64) (.pair (.int .i64) (.pair (.int .i64) .bool)))))))) l j=l[j]:=mC h
theorem aM.sm {s:ST}(M:aM s):Sm s:=⟨by have:=M.dD.len;omega,by have:=M.len;omega,by have:=M.L9;omega⟩
theorem rdR {l:List RT}{j:Nat}(h:j<l.length):rd (.pair (.int .i64) (.pair (.int .i64) (.pair (.int .i64) (.pair (.int .i64) (.pair (.int .i64) (.pair (.int .i64) (.pair (.int .i64) (.pair (.int .i64) .bool)))))))) l j=l[j]:=mC h
abbrev aay (l:List RT)(j:Int)(s:ST)(E:List ET):ON:=
 ((l,(),(),j,()),((s.1.1.1,s.1.1.2,s.1.2.1.1,s.1.2.1.2,s.1.2.2.1,s.1.2.2.2.1,s.1.2.2.2.2.1,s.1.2.2.2.2.2,s.2.1.1,s.2.1.2.1,s.2.1.2.2.1,s.2.1.2.2.2,s.2.2.1,s.2.2.2.1,s.2.2.2.2.1,s.2.2.2.2.2,()),(0,0,0,0,0,0,0,0,0,0,0,false,0,(),(),(),()),()),E,[],[],[],())
theorem aab (s:ST)(M:aM s)(l:List RT)(hl:l.length≤60) :
  f17 s.1.1.1 s.1.1.2 s.1.2.1.1 s.1.2.1.2 s.1.2.2.1 s.1.2.2.2.1 s.1.2.2.2.2.1 s.1.2.2.2.2.2 s.2.1.1 s.2.1.2.1 s.2.1.2.2.1 s.2.1.2.2.2 s.2.2.1 s.2.2.2.1 s.2.2.2.2.1 s.2.2.2.2.2 l=some ((dz s l).1,(dz s l).2,()):=by
 unfold f17
 have e:iter aC BG (aay l 0 s [])=_:=eA (u:=BG) (fun j=>aay l ((j:Nat):Int) (dz s (l.take j)).1 (dz s (l.take j)).2) (n:=l.length)
  (y:=(((),(),()),(aay l 0 (dz s l).1 (dz s l).2).2)) (fun j hj=>by
   have e1:=aa8 (dz s (l.take j)).1 l[j] (xM M (l.take j)).1.sm
   have h1:=Ed M l j (by omega)
   have h2:=Sw (dz s (l.take j)).1 l[j]
   have h3:=(xM M (l.take j)).1.len
   simp only[BG,R8,dB hj,dx,cond_true,Bool.and_self,Int.toNat_natCast,rdR hj,e1,Option.bind_some]
   rw[decide_eq_true (show ((dz s (l.take j)).2.length+(AU (dz s (l.take j)).1 l[j]).2.1.length) * 72≤140737488355328 by omega),decide_eq_true (show (dz s (l.take j)).2.length+(AU (dz s (l.take j)).1 l[j]).2.1.length≤9223372036854775807 by omega),
    nx hj (by omega),IP s l hj]
   rfl)
  (by simp only[BG,R8,gr,cond_false,List.take_length]) 0 aC (Nat.zero_le _) (by unfold aC;omega)
 rw[e];rfl
theorem r6 (s:ST)(h:Sm s) :
  dw s.1.1.1 s.1.1.2 s.1.2.1.1 s.1.2.1.2 s.1.2.2.1 s.1.2.2.2.1 s.1.2.2.2.2.1 s.1.2.2.2.2.2 s.2.1.1 s.2.1.2.1 s.2.1.2.2.1 s.2.1.2.2.2 s.2.2.1 s.2.2.2.1 s.2.2.2.2.1 s.2.2.2.2.2=some (s,()):=by
 unfold dw
 rw[fCP _ h.p,fCL _ h.l,fCH _ h.h];rfl
theorem ZR (s:ST)(now:Int)(h:Sm s) :
  iter aC pR ((now,(),(),((s.2.2.2.2.1.length:Nat):Int),0,()),((0,0,0,0,0,0,0,0,0,0,0,false,0,(),(),(),()),(s.1.1.1,s.1.1.2,s.1.2.1.1,s.1.2.1.2,s.1.2.2.1,s.1.2.2.2.1,s.1.2.2.2.2.1,s.1.2.2.2.2.2,s.2.1.1,s.2.1.2.1,s.2.1.2.2.1,s.2.1.2.2.2,now,(),(),(),()),()),[],[],[],s.2.2.2.1,s.2.2.2.2.1,s.2.2.2.2.2,())
  = some (.inl ((now,(),(),()),((0,0,0,0,0,0,0,0,0,0,0,false,0,(),(),(),()),(s.1.1.1,s.1.1.2,s.1.2.1.1,s.1.2.1.2,s.1.2.2.1,s.1.2.2.2.1,s.1.2.2.2.2.1,s.1.2.2.2.2.2,s.2.1.1,s.2.1.2.1,s.2.1.2.2.1,s.2.1.2.2.2,now,(),(),(),()),()),[],[],[],s.2.2.2.1,bR s.2.2.2.2.1 now,s.2.2.2.2.2,())):=by
 have hl:=h.l
 generalize s.2.2.2.2.1=L at hl ⊢
 have hS:L.length≤9223372036854775807:=by omega
 have hm:∀ j,(bR (L.take j) now++L.drop j).length=L.length:=fun j=>by rw[List.length_append,j9,List.length_take,List.length_drop];omega
 have:=eA (u:=pR) (fun j=>((now,(),(),((L.length:Nat):Int),((j:Nat):Int),()),((0,0,0,0,0,0,0,0,0,0,0,false,0,(),(),(),()),(s.1.1.1,s.1.1.2,s.1.2.1.1,s.1.2.1.2,s.1.2.2.1,s.1.2.2.2.1,s.1.2.2.2.2.1,s.1.2.2.2.2.2,s.2.1.1,s.2.1.2.1,s.2.1.2.2.1,s.2.1.2.2.2,now,(),(),(),()),()),[],[],[],s.2.2.2.1,bR (L.take j) now++L.drop j,s.2.2.2.2.2,()))
  (n:=L.length) (y:=((now,(),(),()),((0,0,0,0,0,0,0,0,0,0,0,false,0,(),(),(),()),(s.1.1.1,s.1.1.2,s.1.2.1.1,s.1.2.1.2,s.1.2.2.1,s.1.2.2.2.1,s.1.2.2.2.2.1,s.1.2.2.2.2.2,s.2.1.1,s.2.1.2.1,s.2.1.2.2.1,s.2.1.2.2.2,now,(),(),(),()),()),[],[],[],s.2.2.2.1,bR L now,s.2.2.2.2.2,())) (fun j hj=>by
   have hj2:j<(bR (L.take j) now++L.drop j).length:=by rw[hm];exact hj
   have hlen:(bR (L.take j) now).length=j:=by rw[j9,List.length_take];omega
   have hat:(bR (L.take j) now++L.drop j)[j]=L[j]:=by
    rw[List.getElem_append_right (by omega)]
    simp only[hlen,Nat.sub_self,List.getElem_drop,Nat.add_zero]
   simp only[pR,Dd,dB hj,dx,hm j,decide_eq_true hj,cond_true,Bool.and_self,Int.toNat_natCast,Qj hj2,hat,nx hj hS]
   have e2:bR (L.take (j+1)) now++L.drop (j+1)=(bR (L.take j) now++L.drop j).set j (L[j].1,L[j].2.1,L[j].2.2.1,L[j].2.2.2.1,now):=by
    rw[List.set_append_right _ _ (by omega),hlen,Nat.sub_self,List.drop_eq_getElem_cons hj,List.set_cons_zero,aW hj]
    unfold bR
    rw[List.map_append,List.append_assoc];rfl
   rw[e2])
  (by
   have e:bR (L.take L.length) now++L.drop L.length=bR L now:=by rw[List.take_length,List.drop_length,List.append_nil]
   simp only[pR,Dd,gr,cond_false,e])
  0 aC (Nat.zero_le _) (by unfold aC;omega)
 have e0:bR (L.take 0) now++L.drop 0=L:=by rw[List.take_zero,List.drop_zero];rfl
 rw[e0] at this
 exact this
theorem sU (s:ST)(now:Int)(h:Sm s) :
  wJ s.1.1.1 s.1.1.2 s.1.2.1.1 s.1.2.1.2 s.1.2.2.1 s.1.2.2.2.1 s.1.2.2.2.2.1 s.1.2.2.2.2.2 s.2.1.1 s.2.1.2.1 s.2.1.2.2.1 s.2.1.2.2.2 s.2.2.1 s.2.2.2.1 s.2.2.2.2.1 s.2.2.2.2.2 now=some ((settle s now).1,(settle s now).2,()):=by
 unfold wJ
 rw[fCP _ h.p,fCL _ h.l,fCH _ h.h]
 simp only[Option.bind_some]
 rw[ez s h.I9 h.En h.Kj]
 simp only[Option.bind_some]
 unfold settle
 by_cases hM:aM s
 case neg=>rw[decide_eq_false hM,if_neg (fun k=>hM k.1)];rfl
 rw[decide_eq_true hM]
 by_cases h1:now<s.2.2.1
 ·rw[decide_eq_true h1,if_neg (fun k=>by have:=k.2.1;omega)];rfl
 rw[decide_eq_false h1]
 by_cases h2:1073741824<now
 ·rw[decide_eq_true h2,if_neg (fun k=>by have:=k.2.2;omega)];rfl
 rw[decide_eq_false h2,if_pos ⟨hM,by omega,by omega⟩]
 simp only[Bool.not_true,cond_false]
 rw[ZR s now h]
 simp only[Option.bind_some]
 rw[R7 _ h.h]
 rfl
theorem Re (a b c:Int):br a b c=some (decide (jm a b c),()):=by
 unfold br jm
 by_cases h:b≤a
 ·simp[h]
 ·simp[h]
theorem abt (p q r:Prop)[Decidable p][Decidable q][Decidable r]:(cond (decide p) (cond (decide q) (some (decide r,())) (some (false,()))) (some (false,())):Option (Bool×Unit))=some (decide (p∧q∧r),()):=by
 by_cases hp:p<;>by_cases hq:q<;>simp[hp,hq]
theorem Vm (e:ET):Nf e.1 e.2.1 e.2.2.1 e.2.2.2.1 e.2.2.2.2.1 e.2.2.2.2.2.1 e.2.2.2.2.2.2.1 e.2.2.2.2.2.2.2.1 e.2.2.2.2.2.2.2.2=some (decide (jw e),()):=by
 obtain⟨k,at',a,b,c,q,i,o,p⟩:=e
 have h39:=Lt (q,i,o,p)
 simp only at h39 ⊢
 unfold Nf
 simp only[Re,h39,Option.bind_some,abt]
 by_cases hat:jm at' 0 1073741824
 case neg=>
  rw[decide_eq_false hat,decide_eq_false (fun h:jw _=>hat h.1)];rfl
 rw[decide_eq_true hat]
 simp only[Bool.not_true,cond_false]
 by_cases h6:k=6
 ·subst h6
  have d0:decide ((6:Int)=0)=false:=rfl
  have d1:decide ((6:Int)=1)=false:=rfl
  have d2:decide ((6:Int)=2)=false:=rfl
  have d3:decide ((6:Int)=3)=false:=rfl
  have d4:decide ((6:Int)=4)=false:=rfl
  have d5:decide ((6:Int)=5)=false:=rfl
  simp only[d0,d1,d2,d3,d4,d5,decide_true,Bool.not_true,cond_true,cond_false]
  by_cases hp:tT (q,i,o,p)
  ·rw[decide_eq_true hp]
   simp only[Bool.not_true,cond_false]
   have:(jm a 0 0∧jm b 0 0∧jm c 0 0)↔jw (6,at',a,b,c,q,i,o,p):=by
    unfold jw fS
    simp[hat,hp]
   rw[decide_eq_decide.2 this]
  ·rw[decide_eq_false hp]
   have:¬ jw (6,at',a,b,c,q,i,o,p):=by
    unfold jw fS
    simp[hp]
   rw[decide_eq_false this];rfl
 ·rw[decide_eq_false h6]
  simp only[Bool.not_false,cond_true]
  by_cases hz:(q,i,o,p)=((0,0,0,false):PT)
  case neg=>
   have:(decide (q=0)&&(decide (i=0)&&(decide (o=0)&&((p == false)&&true))))=false:=by
    rw[Bool.eq_false_iff]
    intro h
    simp only[Bool.and_eq_true,decide_eq_true_eq,beq_iff_eq] at h
    exact hz (by rw[h.1,h.2.1,h.2.2.1,h.2.2.2.1])
   rw[this,decide_eq_false (fun h:jw _=>hz (h.2.1 h6))];rfl
  have hz':=hz
  simp only[Prod.mk.injEq] at hz'
  obtain⟨rfl,rfl,rfl,rfl⟩:=hz'
  have e1:(decide ((0:Int)=0)&&(decide ((0:Int)=0)&&(decide ((0:Int)=0)&&((false == false)&&true))))=true:=rfl
  rw[e1]
  simp only[Bool.not_true,cond_false]
  have fin:∀ (X:Prop) [Decidable X],(X↔fS k a b c (0,0,0,false))→decide X=decide (jw (k,at',a,b,c,0,0,0,false)):=fun X _ h=>by
   rw[decide_eq_decide,h]
   unfold jw
   simp[hat]
  by_cases k0:k=0
  ·subst k0;rw[← fin (jm a 0 31∧jm b 0 3∧jm c 0 7) (by unfold fS;simp)];rfl
  rw[decide_eq_false k0]
  simp only[cond_false]
  by_cases k1:k=1
  ·subst k1;rw[← fin (jm a 0 31∧jm b 0 3∧jm c 0 7) (by unfold fS;simp)];rfl
  rw[decide_eq_false k1]
  simp only[cond_false]
  by_cases k2:k=2
  ·subst k2;rw[← fin (jm a 0 3∧jm b 1 4∧jm c 0 0) (by unfold fS;simp)];rfl
  rw[decide_eq_false k2]
  simp only[cond_false]
  by_cases k4:k=4
  ·subst k4;rw[← fin (jm a 0 2∧jm b 1 4∧jm c 0 0) (by unfold fS;simp)];rfl
  rw[decide_eq_false k4]
  simp only[cond_false]
  by_cases k3:k=3
  ·subst k3;rw[← fin (jm a 0 2∧jm b 0 0∧jm c 0 0) (by unfold fS;simp)];rfl
  rw[decide_eq_false k3]
  simp only[cond_false]
  by_cases k5:k=5
  ·subst k5;rw[← fin (jm a 0 2∧jm b 0 0∧jm c 0 0) (by unfold fS;simp)];rfl
  rw[decide_eq_false k5]
  simp only[cond_false]
  have:¬ jw (k,at',a,b,c,0,0,0,false):=by
   unfold jw fS
   simp[k0,k1,k2,k3,k4,k5,h6]
  rw[decide_eq_false this]
theorem PL {s:ST}{now:Int}(h:Sm s):Sm (aG s now):=by
 refine⟨h.p,?_,?_⟩
 ·show (bR s.2.2.2.2.1 now).length≤1000
  rw[j9];exact h.l
 ·show (bM s.2.2.2.2.2 now).length≤1000
  exact Nat.le_trans (List.length_filter_le _ _) h.h
theorem RV (L:List LT)(x:LT):(kr L x).1.length≤L.length+1:=by
 unfold kr
 split
 ·exact Nat.le_succ _
 ·exact Nat.le_of_eq (mR L x)
theorem S0 (L:List LT)(a b:Int):(iL L a b).length≤L.length:=by
 unfold iL
 exact (List.eraseIdx_sublist _ _).length_le
theorem Pb (H:List HT)(x:HT):(fc H x).length≤H.length+1:=by
 unfold fc
 rw[mR]
 have:=List.length_filter_le (fun y=>!decide (kH y=kH x)) H
 omega
theorem TN (P:List HT)(out a n:Int):(qm P out a n).1.length≤P.length+1:=by
 unfold qm;repeat' split
 all_goals simp
theorem K1 (P:List HT)(out k:Int):(dZ P out k).1.length≤P.length:=by
 unfold dZ;repeat' split
 all_goals simp
theorem PY (P:List HT)(out k n:Int)(b:List Int):(gM P out k n b).1.length≤P.length:=by
 unfold gM;repeat' split
 all_goals simp
theorem OP (P:List HT)(out k:Int)(b:List Int):(ic P out k b).1.length≤P.length:=by
 unfold ic;repeat' split
 all_goals first|(exact (List.eraseIdx_sublist _ _).length_le)|simp
theorem abi (s:ST)(t:ST)(h:Sm s)(ht:Sm t) :
  ((f15 t.1.1.1 t.1.1.2 t.1.2.1.1 t.1.2.1.2 t.1.2.2.1 t.1.2.2.2.1 t.1.2.2.2.2.1 t.1.2.2.2.2.2 t.2.1.1 t.2.1.2.1 t.2.1.2.2.1 t.2.1.2.2.2 t.2.2.1 t.2.2.2.1 t.2.2.2.2.1 t.2.2.2.2.2).bind fun y=>
   cond (!y.1) ((dw s.1.1.1 s.1.1.2 s.1.2.1.1 s.1.2.1.2 s.1.2.2.1 s.1.2.2.2.1 s.1.2.2.2.2.1 s.1.2.2.2.2.2 s.2.1.1 s.2.1.2.1 s.2.1.2.2.1 s.2.1.2.2.2 s.2.2.1 s.2.2.2.1 s.2.2.2.2.1 s.2.2.2.2.2).bind fun y35=>
    some ((((y35.1.1.1.1,y35.1.1.1.2),(y35.1.1.2.1.1,y35.1.1.2.1.2),y35.1.1.2.2.1,y35.1.1.2.2.2.1,y35.1.1.2.2.2.2.1,y35.1.1.2.2.2.2.2),(y35.1.2.1.1,y35.1.2.1.2.1,y35.1.2.1.2.2.1,y35.1.2.1.2.2.2),y35.1.2.2.1,y35.1.2.2.2.1,y35.1.2.2.2.2.1,y35.1.2.2.2.2.2),(2:Int),()))
    (some (t,(0:Int),())))=some ((if aM t then (t,(0:Int)) else (s,2)).1,(if aM t then (t,(0:Int)) else (s,2)).2,()):=by
 rw[ez t ht.I9 ht.En ht.Kj,r6 s h]
 simp only[Option.bind_some]
 by_cases hm:aM t
 ·rw[decide_eq_true hm,if_pos hm];rfl
 ·rw[decide_eq_false hm,if_neg hm];rfl
theorem T4 (s:ST)(e:ET)(hp:s.2.2.2.1.length≤900)(hl:s.2.2.2.2.1.length≤900)(hh:s.2.2.2.2.2.length≤900) :
  Bk s.1.1.1 s.1.1.2 s.1.2.1.1 s.1.2.1.2 s.1.2.2.1 s.1.2.2.2.1 s.1.2.2.2.2.1 s.1.2.2.2.2.2 s.2.1.1 s.2.1.2.1 s.2.1.2.2.1 s.2.1.2.2.2 s.2.2.1 s.2.2.2.1 s.2.2.2.2.1 s.2.2.2.2.2
   e.1 e.2.1 e.2.2.1 e.2.2.2.1 e.2.2.2.2.1 e.2.2.2.2.2.1 e.2.2.2.2.2.2.1 e.2.2.2.2.2.2.2.1 e.2.2.2.2.2.2.2.2=some ((bH s e).1,(bH s e).2,()):=by
 have h:Sm s:=⟨by omega,by omega,by omega⟩
 have h20:=r6 s h
 unfold Bk bH
 rw[ez s h.I9 h.En h.Kj]
 simp only[Option.bind_some]
 by_cases hM:aM s
 case neg=>rw[decide_eq_false hM,if_pos (.inl hM),h20];rfl
 rw[decide_eq_true hM,Vm]
 simp only[Option.bind_some,Bool.not_true,cond_false]
 by_cases hE:jw e
 case neg=>rw[decide_eq_false hE,if_pos (.inr hE),h20];rfl
 rw[decide_eq_true hE,if_neg (by rintro (k|k);exact k hM;exact k hE),sU s _ h]
 simp only[Option.bind_some,Bool.not_true,cond_false]
 by_cases hC:cA s e.2.1
 case neg=>
  have:settle s e.2.1=(s,false):=by unfold settle;rw[if_neg hC]
  rw[this,if_pos hC]
  simp only[Bool.not_false,cond_true,h20];rfl
 have hs:settle s e.2.1=(aG s e.2.1,true):=by unfold settle;rw[if_pos hC]
 rw[hs,if_neg (fun k=>k hC)]
 simp only[Bool.not_true,cond_false]
 have hK:=abi s
 have hSm:Sm (aG s e.2.1):=PL h
 have hL9:(aG s e.2.1).2.2.2.2.1.length≤900:=by
  show (bR s.2.2.2.2.1 e.2.1).length≤900
  rw[j9];exact hl
 have hP9:(aG s e.2.1).2.2.2.1.length≤900:=hp
 have hH9:(aG s e.2.1).2.2.2.2.2.length≤900:=Nat.le_trans (List.length_filter_le _ _) hh
 have hpol:(aG s e.2.1).2.1=s.2.1:=rfl
 have hnow:(aG s e.2.1).2.2.1=e.2.1:=rfl
 generalize aG s e.2.1=t at hSm hL9 hP9 hH9 hpol hnow ⊢
 unfold Cp
 by_cases k0:e.1=0
 ·rw[decide_eq_true k0,if_pos k0]
  simp only[cond_true]
  have h109:=Ri t.2.2.2.2.1 hSm.l (e.2.2.1,e.2.2.2.1,e.2.2.2.2.1,e.2.1,e.2.1)
  simp only at h109
  rw[h109]
  simp only[Option.bind_some]
  cases hb:(kr t.2.2.2.2.1 (e.2.2.1,e.2.2.2.1,e.2.2.2.2.1,e.2.1,e.2.1)).2 with
  | false=>simp only[Bool.not_false,cond_true,h20,Bool.false_eq_true,if_false];rfl
  | true=>
   simp only[Bool.not_true,cond_false,if_true]
   have hlen:=RV t.2.2.2.2.1 (e.2.2.1,e.2.2.2.1,e.2.2.2.2.1,e.2.1,e.2.1)
   exact hK (Fa t (kr t.2.2.2.2.1 (e.2.2.1,e.2.2.2.1,e.2.2.2.2.1,e.2.1,e.2.1)).1) h ⟨hSm.p,Nat.le_trans hlen (by omega),hSm.h⟩
 rw[decide_eq_false k0,if_neg k0]
 simp only[cond_false]
 by_cases k1:e.1=1
 ·rw[decide_eq_true k1,if_pos k1]
  simp only[cond_true]
  unfold NI
  rw[rJ _ hSm.En]
  simp only[Option.bind_some]
  by_cases hf:fO t.2.2.2.2.1 e.2.2.2.1 e.2.2.2.2.1 = -1
  ·rw[decide_eq_true hf,if_pos hf];simp only[cond_true,h20];rfl
  rw[decide_eq_false hf,if_neg hf]
  have hlt:t.2.2.2.2.1.findIdx (iw e.2.2.2.1 e.2.2.2.2.1)<t.2.2.2.2.1.length:=by
   rcases Nat.lt_or_ge (t.2.2.2.2.1.findIdx (iw e.2.2.2.1 e.2.2.2.2.1)) t.2.2.2.2.1.length with k|k
   ·exact k
   ·exact absurd (by unfold fO;rw[if_neg (by omega)]) hf
  have hfi:fO t.2.2.2.2.1 e.2.2.2.1 e.2.2.2.2.1=((t.2.2.2.2.1.findIdx (iw e.2.2.2.1 e.2.2.2.2.1):Nat):Int):=by unfold fO;rw[if_pos hlt]
  rw[hfi,dx,dB hlt]
  simp only[Int.toNat_natCast,cond_false,Bool.and_self,cond_true]
  simp only[Qj hlt]
  have hgd:t.2.2.2.2.1.getD (t.2.2.2.2.1.findIdx (iw e.2.2.2.1 e.2.2.2.2.1)) (0,0,0,0,0)=t.2.2.2.2.1[t.2.2.2.2.1.findIdx (iw e.2.2.2.1 e.2.2.2.2.1)]:=by
   rw[List.getD_eq_getElem?_getD,List.getElem?_eq_getElem hlt];rfl
  simp only[hgd]
  by_cases hsub:(t.2.2.2.2.1[t.2.2.2.2.1.findIdx (iw e.2.2.2.1 e.2.2.2.2.1)]).1=e.2.2.1
  case neg=>rw[decide_eq_false hsub,if_pos hsub];simp only[Bool.not_false,cond_true,h20];rfl
  rw[decide_eq_true hsub,if_neg (fun k=>k hsub),Mq _ hSm.l]
  have hhas:cr t.2.2.2.2.1 e.2.2.2.1 e.2.2.2.2.1=true:=by
   cases hb:cr t.2.2.2.2.1 e.2.2.2.1 e.2.2.2.2.1 with
   | true=>rfl
   | false=>exact absurd ((di _ _ _).2 hb) hf
  rw[if_pos hhas]
  simp only[Bool.not_true,cond_false,Option.bind_some]
  have hdl:=S0 t.2.2.2.2.1 e.2.2.2.1 e.2.2.2.2.1
  have hP:=hM.ud
  have hA:=hC.2.2
  have hA0:=hE.1.1
  by_cases hh0:0<t.2.1.2.2.1
  ·rw[decide_eq_true hh0,if_pos hh0]
   have hw:IntKind.wrap .i64 (e.2.1+t.2.1.2.2.1)=e.2.1+t.2.1.2.2.1:=by
    rw[hpol]
    have:=hP.2.2
    exact iq (by omega) (by omega)
   have h111:=CQ t.2.2.2.2.2 hH9 (e.2.2.2.1,e.2.2.2.2.1,e.2.1+t.2.1.2.2.1)
   simp only at h111
   rw[hw]
   simp only[cond_true,h111,Option.bind_some]
   have hhl:=Pb t.2.2.2.2.2 (e.2.2.2.1,e.2.2.2.2.1,e.2.1+t.2.1.2.2.1)
   exact hK (Nq t (iL t.2.2.2.2.1 e.2.2.2.1 e.2.2.2.2.1) (fc t.2.2.2.2.2 (e.2.2.2.1,e.2.2.2.2.1,e.2.1+t.2.1.2.2.1))) h ⟨hSm.p,Nat.le_trans hdl (by omega),Nat.le_trans hhl (by omega)⟩
  ·rw[decide_eq_false hh0,if_neg hh0]
   simp only[cond_false]
   exact hK (Nq t (iL t.2.2.2.2.1 e.2.2.2.1 e.2.2.2.2.1) t.2.2.2.2.2) h ⟨hSm.p,Nat.le_trans hdl (by omega),hSm.h⟩
 rw[decide_eq_false k1,if_neg k1]
 simp only[cond_false]
 by_cases k6:e.1=6
 ·rw[decide_eq_true k6,if_pos k6]
  simp only[cond_true]
  exact hK (lK t e.2.2.2.2.2) h ⟨hSm.p,hSm.l,hSm.h⟩
 rw[decide_eq_false k6,if_neg k6]
 simp only[cond_false]
 have hY:f49 t.1.2.1.1 t.1.2.1.2=some (fD t.1,()):=jr _ _
 rw[hY,Fe _ hSm.l]
 simp only[Option.bind_some]
 have hbz:Sz (ct t.2.2.2.2.1):=by
  have h1:=Fe t.2.2.2.2.1 hSm.l
  unfold Sz ct
  have h2:=Lib.compact_length_le ((t.2.2.2.2.1.map (·.2.1)).mergeSort fun x y=>decide (x≤y))
  rw[List.length_mergeSort,List.length_map] at h2
  have:=hSm.l
  omega
 unfold JX
 by_cases k2:e.1=2
 ·rw[decide_eq_true k2,if_pos k2]
  simp only[cond_true]
  rw[UY hSm.p]
  simp only[Option.bind_some]
  by_cases he:(qm t.2.2.2.1 (fD t.1) e.2.2.1 e.2.2.2.1).2=0
  ·rw[decide_eq_true he,if_pos he]
   simp only[Bool.not_true,cond_false]
   have:=TN t.2.2.2.1 (fD t.1) e.2.2.1 e.2.2.2.1
   exact hK (ia t (qm t.2.2.2.1 (fD t.1) e.2.2.1 e.2.2.2.1).1) h ⟨Nat.le_trans this (by omega),hSm.l,hSm.h⟩
  ·rw[decide_eq_false he,if_neg he];simp only[Bool.not_false,cond_true,h20];rfl
 rw[decide_eq_false k2,if_neg k2]
 simp only[cond_false]
 by_cases k3:e.1=3
 ·rw[decide_eq_true k3,if_pos k3]
  simp only[cond_true]
  rw[TV hSm.p]
  simp only[Option.bind_some]
  by_cases he:(dZ t.2.2.2.1 (fD t.1) e.2.2.1).2=0
  ·rw[decide_eq_true he,if_pos he]
   simp only[Bool.not_true,cond_false]
   have:=K1 t.2.2.2.1 (fD t.1) e.2.2.1
   exact hK (ia t (dZ t.2.2.2.1 (fD t.1) e.2.2.1).1) h ⟨Nat.le_trans this (by omega),hSm.l,hSm.h⟩
  ·rw[decide_eq_false he,if_neg he];simp only[Bool.not_false,cond_true,h20];rfl
 rw[decide_eq_false k3,if_neg k3]
 simp only[cond_false]
 by_cases k4:e.1=4
 ·rw[decide_eq_true k4,if_pos k4]
  simp only[cond_true]
  rw[RE hSm.p _ _ _ hbz]
  simp only[Option.bind_some]
  by_cases he:(gM t.2.2.2.1 (fD t.1) e.2.2.1 e.2.2.2.1 (ct t.2.2.2.2.1)).2=0
  ·rw[decide_eq_true he,if_pos he]
   simp only[Bool.not_true,cond_false]
   have:=PY t.2.2.2.1 (fD t.1) e.2.2.1 e.2.2.2.1 (ct t.2.2.2.2.1)
   exact hK (ia t (gM t.2.2.2.1 (fD t.1) e.2.2.1 e.2.2.2.1 (ct t.2.2.2.2.1)).1) h ⟨Nat.le_trans this (by omega),hSm.l,hSm.h⟩
  ·rw[decide_eq_false he,if_neg he];simp only[Bool.not_false,cond_true,h20];rfl
 rw[decide_eq_false k4,if_neg k4]
 simp only[cond_false]
 rw[SY hSm.p _ _ hbz]
 simp only[Option.bind_some]
 by_cases he:(ic t.2.2.2.1 (fD t.1) e.2.2.1 (ct t.2.2.2.2.1)).2=0
 ·rw[decide_eq_true he,if_pos he]
  simp only[Bool.not_true,cond_false]
  have:=OP t.2.2.2.1 (fD t.1) e.2.2.1 (ct t.2.2.2.2.1)
  exact hK (ia t (ic t.2.2.2.1 (fD t.1) e.2.2.1 (ct t.2.2.2.2.1)).1) h ⟨Nat.le_trans this (by omega),hSm.l,hSm.h⟩
 ·rw[decide_eq_false he,if_neg he];simp only[Bool.not_false,cond_true,h20];rfl
abbrev fl (s:ST):Int×Int×Int×Int×Int×Int×Int×Int×Int×Int×Int×Bool×Int×List HT×List LT×List HT×Unit:=
 (s.1.1.1,s.1.1.2,s.1.2.1.1,s.1.2.1.2,s.1.2.2.1,s.1.2.2.2.1,s.1.2.2.2.2.1,s.1.2.2.2.2.2,s.2.1.1,s.2.1.2.1,s.2.1.2.2.1,s.2.1.2.2.2,s.2.2.1,s.2.2.2.1,s.2.2.2.2.1,s.2.2.2.2.2,())
abbrev IF:Int×Int×Int×Int×Int×Int×Int×Int×Int×Int×Int×Bool×Int×Unit×Unit×Unit×Unit:=
 (0,0,0,0,0,0,0,0,0,0,0,false,0,(),(),(),())
def Zq (s:ST):Prop:=s.2.2.2.1.length≤900∧s.2.2.2.2.1.length≤900∧s.2.2.2.2.2.length≤900
theorem aM.sm9 {s:ST}(M:aM s):Zq s:=⟨by have:=M.dD.len;omega,by have:=M.len;omega,by have:=M.L9;omega⟩
theorem Xy.sm9 {s:ST}(h:Xy s):Zq s:=⟨by have:=h.2.2;omega,by have:=h.1;omega,by have:=h.2.1;omega⟩
theorem Zq.sm {s:ST}(h:Zq s):Sm s:=⟨by have:=h.1;omega,by have:=h.2.1;omega,by have:=h.2.2;omega⟩
theorem Qi {s:ST}{e:ET}(h:Zq s):Zq (bH s e).1:=by
 by_cases he:(bH s e).2=0
 ·exact (OU he).2.2.2.1.sm9
 ·rw[Cj he];exact h
theorem Ro (s:ST)(l:List ET)(hl:l.length≤9223372036854775807):∀ (d j:Nat) (t:ST) (fuel:Nat),j+d=l.length→d<fuel→Zq t →
  iter fuel jB (((),(),(),0,l,((l.length:Nat):Int),((j:Nat):Int),()),(fl s,IF,fl t,()),[],[],[],()) =
   some (.inl (((),(),(),(qO t (l.drop j)).2,()),(fl s,IF,fl (qO t (l.drop j)).1,()),[],[],[],()))
 | _,j,t,0,_,h,_=>by omega
 | 0,j,t,fuel+1,hj,_,ht=>by
  have:j=l.length:=by omega
  subst this
  rw[List.drop_length]
  refine jQ ?_
  simp only[jB,xK,gr,cond_false,fl,IF,qO]
 | d+1,j,t,fuel+1,hj,hf,ht=>by
  have hlt:j<l.length:=by omega
  have hd:l.drop j=l[j]::l.drop (j+1):=by rw[List.drop_eq_getElem_cons hlt]
  have h15:=T4 t l[j] ht.1 ht.2.1 ht.2.2
  rw[hd]
  by_cases he:(bH t l[j]).2=0
  ·have hu:jB (((),(),(),0,l,((l.length:Nat):Int),((j:Nat):Int),()),(fl s,IF,fl t,()),[],[],[],()) =
     some (.next (((),(),(),0,l,((l.length:Nat):Int),((j+1:Nat):Int),()),(fl s,IF,fl (bH t l[j]).1,()),[],[],[],())):=by
    simp only[jB,xK,fl,IF,dB hlt,dx,cond_true,Bool.and_self,Int.toNat_natCast,rdE hlt,h15,Option.bind_some,nx hlt hl,he,decide_true,Bool.not_true,cond_false]
   rw[fJ hu,Ro s l hl d (j+1) (bH t l[j]).1 fuel (by omega) (by omega) (Qi ht)]
   have hg:qO t (l[j]::l.drop (j+1))=qO (bH t l[j]).1 (l.drop (j+1)):=by rw[qO,if_pos he]
   rw[hg]
  ·have hg:qO t (l[j]::l.drop (j+1))=(t,(bH t l[j]).2):=by rw[qO,if_neg he]
   rw[hg]
   have hu:jB (((),(),(),0,l,((l.length:Nat):Int),((j:Nat):Int),()),(fl s,IF,fl t,()),[],[],[],()) =
     some (.out (((),(),(),(bH t l[j]).2,()),(fl s,IF,fl t,()),[],[],[],())):=by
    simp only[jB,xK,fl,IF,dB hlt,dx,cond_true,Bool.and_self,Int.toNat_natCast,rdE hlt,h15,Option.bind_some,decide_eq_false he,Bool.not_false,Cj he]
   exact jQ hu
theorem TQ (s:ST)(l:List ET)(h:Zq s)(hl:l.length≤9223372036854775807) :
  Of s.1.1.1 s.1.1.2 s.1.2.1.1 s.1.2.1.2 s.1.2.2.1 s.1.2.2.2.1 s.1.2.2.2.2.1 s.1.2.2.2.2.2 s.2.1.1 s.2.1.2.1 s.2.1.2.2.1 s.2.1.2.2.2 s.2.2.1 s.2.2.2.1 s.2.2.2.2.1 s.2.2.2.2.2 l=some ((HZ s l).1,(HZ s l).2,()):=by
 unfold Of HZ
 rw[r6 s h.sm]
 simp only[Option.bind_some]
 have:=Ro s l hl l.length 0 s aC (by omega) (by unfold aC;omega) h
 rw[show (((0:Nat):Int))=0 from rfl] at this
 rw[this,List.drop_zero]
 simp only[Option.bind_some,fl]
 by_cases he:(qO s l).2=0
 ·rw[decide_eq_true he,if_pos he]
  simp only[Bool.not_true,cond_false,he]
 ·rw[decide_eq_false he,if_neg he]
  simp only[Bool.not_false,cond_true]
  rw[r6 s h.sm]
  rfl
end Go.Proofs.Zz
