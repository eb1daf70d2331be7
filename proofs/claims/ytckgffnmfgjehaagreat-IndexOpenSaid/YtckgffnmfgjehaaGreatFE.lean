/- Ins, Clone, Grow, SortU. -/
import Derived.Test.YtckgffnmfgjehaaGreatFA2
import Derived.Shelf.Spec.SlicesInsertGrow
import Derived.Maps.AppendAt
import Derived.Deep.LoopGhost
import Derived.Shelf.SlLaysE0
import Derived.Shelf.RegionOpenPlain
import Derived.Shelf.Spec.SlicesGrow
import Derived.Shelf.Sort.AssemblyIn
import Derived.Sort.EveryDepth
import Derived.Shelf.Slices.CompactI
import Derived.Sort.OwnSortedInts
open List renaming length_take → ae, length_append → aw, length_drop → bi, take_append_of_le_length → bj, mem_singleton → bm, length → cd, pairwise_singleton → da, take_of_length_le → db, append_assoc → dq, getElem?_eq_getElem → ee, getElem?_take → eh, drop_eq_nil_of_le → eJ, mem_append_left → fb, take_take → ft, size_toArray → gg, length_eq_zero_iff → h9
open Nat renaming mul_le_mul_right → al, le_refl → cf, one_mul → cn, add_mul → dd, le_of_ble_eq_true → dp, zero_add → dC, sub_mul → fa, mul_le_mul_left → fg, ble → fj, zero_le → fx, mul_one → gl, add_sub_cancel_left → gn, min → ib, ne_of_lt → ik, min_eq_left → jn
open Go.Builtin renaming zeroCells → ap, copy_ → dE, firstCells → ka
open Bool renaming false_eq_true → ba
open Array renaming getElem?_eq_some_iff → be, length_toList → dj, getElem?_eq_none → il
open Go.Lib renaming compact → dk
open Go.World renaming cell? → dt, ownsRow_nil → gk, drew → kh, alloc → kn
open Go.Addr renaming add_lit → du
open Go.IntKind renaming wrap_i64 → dv, i64 → eI
open Go renaming sizeOf → eK
open Go.Extern.SlicesOverlaps renaming overlaps → eQ
open Go.Proofs.Body2 renaming n22_ntmps → im
open Go.Value renaming bool → kb
open Go.Proofs.SlLaysE0 renaming n41 → km
namespace Go.Sy
open Go Go.RowKit Go.Shelf Go.Lib Go.Proofs
set_option linter.unusedVariables false
set_option linter.unusedSimpArgs false
variable {P:Program}{ρ:Ren}
theorem fV (w:World)(dT sT ty elem:TypeId)(i:TypeInfo)(g o dLen dCap:Nat)(a:Addr)(sLen sCap:Nat)(cur:Array Value)(t:TypeId)(cs:List Value)
  (hu:P.underlying dT=some (.slice elem)) (hi:P.info? elem=some i)
  (hg:w.heap[g]? = some (.cells cur t (0,0))) (hn:cs.length=ib sLen dLen * i.size)
  (hsrc:∀ j v,cs[j]? = some v→w.cell? (a.add j)=some v) (hfit:o+cs.length≤cur.size) (h1:∀ v∈cs,v.oneCell'=true) :
  (dE #[dT,sT] ty #[.slice (some ⟨g,o,none⟩) dLen dCap,.slice (some a) sLen sCap]).run P w =
   .ok (goInt (ib sLen dLen)) (w.setRow g (cur.toList.take o++cs++cur.toList.drop (o+cs.length)).toArray):=by
 have hl:=run_loadCells_list (P:=P) w a cs hsrc
 have hst:=run_storeCells_at P g o t cs 0 cur w hg (by simpa using hfit) h1
 simp[dE,run_underlying hu,Builtin.lenOf,ka,sizeOf,typeInfo,hi,← hn,hl,hst]
theorem sX (w:World)(tS tR e:TypeId)(ht:P.underlying tS=some (.slice e))(size:Nat)(hz:∀ w,(eK e).run P w = .ok size w)
  (a b:Addr) (la ca lb cb:Nat) (hne:a.block≠b.block) (tA tB:TypeId) (kA kB:Nat)
  (hsa:w.shape? a.block=some (tA,kA+1)) (hsb:w.shape? b.block=some (tB,kB))
  (hfb:∀ k,w.frozen? { block:=b.block,off:=k,spot:=none }=false) (hb:b.spot=none) :
  (eQ #[tS,tS] #[tR] #[.slice (some a) la ca,.slice (some b) lb cb]).run P w = .ok (.bool false) w:=by
 obtain⟨bb,bo,bs⟩:=b
 subst hb
 have hnb:(a.block != bb)=true:=by simpa using hne
 have hnb':(a.block == bb)=false:=by simpa using hne
 change Sem.run P (α:=Value) (do
  let some t:=(#[tS,tS]:Array TypeId)[0]? | stuck "slices.overlaps: no parameter types"
  let .slice elem ← underlying t|stuck "slices.overlaps: slice type expected"
  let size ← sizeOf elem
  match (some a:Option Addr),(some ⟨bb,bo,none⟩:Option Addr) with
  | some a,some b=>
   if la=0∨lb=0∨size=0 then pure (kb false)
   else if a.block != b.block&&(← frozen a)&&(← frozen b) then unsupported .addressObserved
   else do
    if a.block != b.block then do
     noView a;noView b
     if ← mayBeOne a b then return Value.bool ((← choose (.extern "sameAddr.stringBytes" 2)) == 1)
    pure (kb (a.block == b.block&&a.off<b.off+lb * size&&b.off<a.off+la * size))
  | _,_=>pure (kb false)) w=_
 by_cases h0:la=0∨lb=0∨size=0
 ·simp[run_underlying ht,hz,h0]
 ·simp only at hsb hfb
  simp[run_underlying ht,hz,h0,hnb,hnb',frozen,noView,viewAt,mayBeOne,stringish,shape,Sem.run,hsa,hsb,hfb]
structure ph (P:Program)(ρ:Ren)(i0:TypeInfo)(z:Value)(size bytes:Nat):Prop where
 mixed:P.follows .mixedOrders=true
 f22:Bears P (ρ.f 22) (Body2.n22 ρ)
 fo:∀ (args:Array Value) (w:World),(callFunc (ρ.f 29) args).run P w=((eQ #[(ρ.t 24),(ρ.t 24)] #[(ρ.t 4)] args).run P w).andThen fun v w'=>.ok (Next.value v) w'
 t0:P.underlying (ρ.t 0)=some (TypeDesc.tuple #[])
 a0:∀ w,(isAgg (ρ.t 0)).run P w = .ok false w
 z0:∀ w,(eK (ρ.t 0)).run P w = .ok 1 w
 v0:∀ w,(zeroValue (ρ.t 0)).run P w = .ok (Value.tuple #[]) w
 t3:P.underlying (ρ.t 3)=some (TypeDesc.int eI)
 a3:∀ w,(isAgg (ρ.t 3)).run P w = .ok false w
 z3:∀ w,(eK (ρ.t 3)).run P w = .ok 1 w
 v3:∀ w,(zeroValue (ρ.t 3)).run P w = .ok (Value.int eI 0) w
 t4:P.underlying (ρ.t 4)=some (TypeDesc.bool)
 a4:∀ w,(isAgg (ρ.t 4)).run P w = .ok false w
 z4:∀ w,(eK (ρ.t 4)).run P w = .ok 1 w
 v4:∀ w,(zeroValue (ρ.t 4)).run P w = .ok (kb false) w
 z9:∀ w,(eK (ρ.t 9)).run P w = .ok size w
 t24:P.underlying (ρ.t 24)=some (TypeDesc.slice (ρ.t 9))
 a24:∀ w,(isAgg (ρ.t 24)).run P w = .ok false w
 z24:∀ w,(eK (ρ.t 24)).run P w = .ok 1 w
 v24:∀ w,(zeroValue (ρ.t 24)).run P w = .ok (Value.slice none 0 0) w
 hi:P.info? (ρ.t 9)=some i0
 hz0:i0.zero=some z
 hz1:i0.size=size
 xR:i0.bytes=bytes
 hzs:z.cells.size=size
 hsz:0<size
variable {i0:TypeInfo}{z:Value}{size bytes:Nat}
set_option maxHeartbeats 4000000 in
set_option maxRecDepth 100000 in
theorem GC (L:ph P ρ i0 z size bytes)(B:Nat)(v0:Value)(n vb voff vc:Nat)(cs vs:List Value)(w:World)(hown:w.ownsRow B (ρ.t 9) size v0 n cs)
  (hvl:vs.length=size) (hvs:∀ j v,vs[j]? = some v→w.cell? ⟨vb,voff+j,none⟩=some v) (h1v:∀ v∈vs,v.oneCell'=true)
  (h63:n+1≤maxLen) (hbig:(n+1) * bytes≤140737488355328) (hB:B≤w.heap.size) :
  Calls P (ρ.f 22) #[v0,.int .i64 n,.slice (some ⟨vb,voff,none⟩) 1 vc] w fun e w'=>∃ v,e = .returned v∧w'.ownsRow B (ρ.t 9) size v (n+1) (cs++vs)∧w.grownBy w' v0.ownBlock∧(v.ownBlock=v0.ownBlock∨v.ownBlock=some w.heap.size):=by
 have t0:=L.t0;have a0:=L.a0;have z0:=L.z0;have v0':=L.v0;have t3:=L.t3;have a3:=L.a3;have z3:=L.z3;have v3:=L.v3;have t4:=L.t4;have a4:=L.a4;have z4:=L.z4;have v4:=L.v4;have z9:=L.z9;have t24:=L.t24;have a24:=L.a24;have z24:=L.z24;have v24:=L.v24
 have u0:=run_underlying L.t0;have u3:=run_underlying L.t3;have u4:=run_underlying L.t4;have u24:=run_underlying L.t24
 have mixed:=L.mixed
 have A:Aside (w.ownsRow B (ρ.t 9) size v0 n cs):=hown
 have hv:∃ b c,v0 = .slice b n c∧(b=none→n=0∧c=0)∧(∀ a,b=some a→a.spot=none∧a.off=0):=by
  rcases hown.2 with⟨rfl,rfl⟩|⟨g,cap,cur,rfl,_⟩
  ·exact⟨none,0,rfl,fun _=>⟨rfl,rfl⟩,fun a h=>by cases h⟩
  ·exact⟨_,_,rfl,(fun h=>by cases h),fun a h=>(by cases h;exact⟨rfl,rfl⟩)⟩
 have hnc:∀ b c,v0 = .slice b n c→n≤c∧c≤maxLen:=by
  intro b c h
  rcases hown.2 with⟨rfl,rfl⟩|⟨g,cap,cur,rfl,_,_,h1,h2,_⟩
  ·cases h;exact⟨cf _,fx _⟩
  ·cases h;exact⟨h1,h2⟩
 obtain⟨b,c,rfl,hnil,hsp⟩:=hv
 obtain⟨hnc1,hnc2⟩:=hnc b c rfl
 clear hnc hown
 have hl1:vs.length=1 * size:=by rw[hvl,cn]
 have hl2:∀ j u,vs[j]? = some u→w.cell? ((⟨vb,voff,none⟩:Addr).add j)=some u:=fun j u hj=>by rw[du];exact hvs j u hj
 obtain⟨_,_,FG⟩:=L.f22
 go_enter FG,im ρ
 cases b with
 | none=>
  obtain⟨h0,h1⟩:=hnil rfl
  subst h0 h1
  go_wp2_with (at_builtin;refine wpList_append_own_at _ rfl _ _ (ρ.t 24) rfl B (ρ.t 9) i0 z size bytes t24 L.hi L.hz0 L.hz1 L.xR L.hzs L.hsz _ _ _ rfl A.out ⟨vb,voff,none⟩ 1 vc vs rfl hl1 hl2 h1v h63 hbig hB ?_)
  intro v' w1 hown' hgrow hnil' hblk
  go_wp2
  go_ret
  exact⟨v',rfl,hown',hgrow,hblk⟩
 | some a=>
  obtain⟨ab,ao,asp⟩:=a
  obtain⟨h0,h1⟩:=hsp _ rfl
  simp only at h0 h1
  subst h0 h1
  go_wp2_with (at_builtin;refine wpList_append_own_at _ rfl _ _ (ρ.t 24) rfl B (ρ.t 9) i0 z size bytes t24 L.hi L.hz0 L.hz1 L.xR L.hzs L.hsz _ _ _ rfl A.out ⟨vb,voff,none⟩ 1 vc vs rfl hl1 hl2 h1v h63 hbig hB ?_)
  all_goals (
   intro v' w1 hown' hgrow hnil' hblk
   go_wp2
   go_ret
   exact⟨v',rfl,hown',hgrow,hblk⟩)
theorem Ek {α:Type}(l vs:List α)(o k:Nat)(hk:k≤o)(hl:o≤l.length):(l.take o++vs++l.drop (o+vs.length)).take k=l.take k:=by
 rw[dq,bj (by rw[ae];omega),ft,jn hk]
theorem Di (cur cs vs c1 c2:List Value)(n i size c:Nat)(hc1:c1=cur.take ((i+1) * size)++cs.drop (i * size)++cur.drop ((i+1) * size+(cs.drop (i * size)).length))
  (hc2:c2=c1.take (i * size)++vs++c1.drop (i * size+vs.length)) (hin:i<n) (hn:n+1≤c) (hcur:cur.length=c * size) (hcs:cur.take (n * size)=cs) (hvl:vs.length=size) :
  c1.length=c * size∧c2.length=c * size∧c2.take ((n+1) * size)=cs.take (i * size)++vs++cs.drop (i * size):=by
 have e1:(i+1) * size=i * size+size:=by rw[dd,cn]
 have e2:(n+1) * size=n * size+size:=by rw[dd,cn]
 have h1:i * size≤n * size:=al _ (by omega)
 have h2:(i+1) * size≤n * size:=al _ (by omega)
 have h3:(n+1) * size≤c * size:=al _ hn
 have hcl:cs.length=n * size:=by rw[← hcs,ae];omega
 have hdl:(cs.drop (i * size)).length=n * size-i * size:=by rw[bi,hcl]
 have l1:c1.length=c * size:=by
  simp only[hc1,aw,ae,bi,hcl,hcur];omega
 have l2:c2.length=c * size:=by
  simp only[hc2,aw,ae,bi,l1,hvl];omega
 refine⟨l1,l2,?_⟩
 have hc1':c1.take (i * size)=cs.take (i * size):=by
  rw[hc1,Ek _ _ _ _ (by omega) (by omega),← hcs,ft,jn h1]
 have hd1:c1.drop (i * size+vs.length)=cs.drop (i * size)++cur.drop ((i+1) * size+(cs.drop (i * size)).length):=by
  rw[hc1,dq,List.drop_append_of_le_length (by rw[ae];omega)]
  rw[eJ (by rw[ae];omega),List.nil_append]
 rw[hc2,hc1',hd1,← dq,bj (by simp only[aw,ae,hcl,hdl,hvl];omega)]
 exact db (by simp only[aw,ae,hcl,hdl,hvl];omega)
theorem CZ (w:World)(g:Nat)(cs:Array Value):w.grownBy (w.drew.setRow g cs) (some g):=
 ⟨rfl,rfl,rfl,by rw[setRow_size];exact cf _,fun k hk hne=>by rw[setRow_other _ _ _ _ (fun h=>hne (by rw[h]))];rfl⟩
set_option maxHeartbeats 4000000 in
set_option maxRecDepth 100000 in
theorem BE (L:ph P ρ i0 z size bytes)(B g n c i vb voff vc:Nat)(cur:Array Value)(cs vs:List Value)(w:World)(hin:i<n)(hroom:n+1≤c)(hcm:c≤maxLen)(hvb:vb≠g)(hBg:B≤g)
  (hg:w.heap[g]? = some (.cells cur (ρ.t 9) (0,0))) (hcur:cur.size=c * size) (hcs:cur.toList.take (n * size)=cs) (h1c:∀ v∈cs,v.oneCell'=true)
  (hvl:vs.length=size) (hvs:∀ j v,vs[j]? = some v→w.cell? ⟨vb,voff+j,none⟩=some v) (h1v:∀ v∈vs,v.oneCell'=true) :
  Calls P (ρ.f 22) #[.slice (some ⟨g,0,none⟩) n c,.int .i64 i,.slice (some ⟨vb,voff,none⟩) 1 vc] w fun e w'=>∃ v,e = .returned v∧w'.ownsRow B (ρ.t 9) size v (n+1) (cs.take (i * size)++vs++cs.drop (i * size)) ∧
   w.grownBy w' (some g)∧v.ownBlock=some g:=by
 have t0:=L.t0;have a0:=L.a0;have z0:=L.z0;have v0':=L.v0;have t3:=L.t3;have a3:=L.a3;have z3:=L.z3;have v3:=L.v3;have t4:=L.t4;have a4:=L.a4;have z4:=L.z4;have v4:=L.v4;have z9:=L.z9;have t24:=L.t24;have a24:=L.a24;have z24:=L.z24;have v24:=L.v24
 have u0:=run_underlying L.t0;have u3:=run_underlying L.t3;have u4:=run_underlying L.t4;have u24:=run_underlying L.t24
 have mixed:=L.mixed
 have m63:maxLen≤9223372036854775807:=by unfold maxLen;omega
 have e1:(i+1) * size=i * size+size:=by rw[dd,cn]
 have e2:(n+1) * size=n * size+size:=by rw[dd,cn]
 have h1':i * size≤n * size:=al _ (by omega)
 have h3':(n+1) * size≤c * size:=al _ hroom
 have h2':(i+1) * size≤n * size:=al _ (by omega)
 have hcl:cs.length=n * size:=by
  rw[← hcs,ae,dj,hcur]
  have:n * size≤c * size:=al _ (by omega)
  omega
 have hdl:(cs.drop (i * size)).length=(n-i) * size:=by rw[bi,hcl,fa]
 have hsh:∃ tA kA,w.shape? vb=some (tA,kA+1):=by
  have hsz:=L.hsz
  have:=hvs 0 _ (ee (by omega))
  unfold dt at this
  unfold World.shape?
  split at this
  ·rename_i cc tt fr hh
   simp only[hh]
   have h4:cc[voff+0]? = some (vs[0]'(by omega)):=by simpa using this
   have:=(be.1 h4).1
   exact⟨tt,cc.size-1,by congr 2;omega⟩
  ·cases this
 obtain⟨tA,kA,hsa⟩:=hsh
 have hov:∀ lb cb,(callFunc (ρ.f 29) #[.slice (some ⟨vb,voff,none⟩) 1 vc,.slice (some ⟨g,i * size+size,none⟩) lb cb]).run P w = .ok (.value (.bool false)) w:=fun lb cb=>by
  rw[L.fo,
   sX w (ρ.t 24) (ρ.t 4) (ρ.t 9) L.t24 size L.z9 ⟨vb,voff,none⟩ ⟨g,i * size+size,none⟩ 1 vc lb cb hvb tA (ρ.t 9) kA cur.size hsa (by simp only[World.shape?,hg]) (fun k=>by simp[World.frozen?,hg]) rfl]
  rfl
 have xR:¬ ((i:Int)=(n:Int)):=by omega
 have hw1:eI.wrap ((i:Int)+1)=(i:Int)+1:=by rw[dv];omega
 have hw2:eI.wrap ((n:Int)+1)=(n:Int)+1:=by rw[dv];omega
 have hb1:(0:Int)≤(i:Int)+1:=by omega
 have hin':i≤n:=by omega
 have htn:((i:Int)+1).toNat=i+1:=by omega
 have htn2:((n:Int)+1).toNat=n+1:=by omega
 have hb2:¬ (c=i+1):=by omega
 have hb3:(i:Int)≤(n:Int)+1:=by omega
 have hb4:¬ (c=i):=by omega
 have hb5:¬ ((c:Int)<(n:Int)+1):=by omega
 have hcp1:∀ ty dc sc,(dE #[(ρ.t 24),(ρ.t 24)] ty #[.slice (some ⟨g,i * size+size,none⟩) (n-i) dc,.slice (some ⟨g,i * size,none⟩) (n+1-i) sc]).run P w.drew = .ok (goInt (ib (n+1-i) (n-i))) (w.drew.setRow g (cur.toList.take ((i+1) * size)++cs.drop (i * size)++cur.toList.drop ((i+1) * size+(cs.drop (i * size)).length)).toArray):=fun ty dc sc=>by
  rw[← e1]
  exact fV w.drew _ _ ty (ρ.t 9) i0 g ((i+1) * size) (n-i) dc ⟨g,i * size,none⟩ (n+1-i) sc cur (ρ.t 9) (cs.drop (i * size)) L.t24 L.hi hg
   (by rw[hdl,L.hz1];congr 1;simp only[Nat.min_def];split<;>omega)
   (fun j v hj=>by
    rw[du]
    rw[List.getElem?_drop,← hcs,eh] at hj
    split at hj
    ·simp only[dt,kh,hg]
     simpa using hj
    ·cases hj)
   (by rw[hdl,fa,hcur];omega) (fun v hv=>h1c v (List.mem_of_mem_drop hv))
 obtain⟨C1,hC1⟩:∃ C1,C1=(cur.toList.take ((i+1) * size)++cs.drop (i * size)++cur.toList.drop ((i+1) * size+(cs.drop (i * size)).length)):=⟨_,rfl⟩
 rw[← hC1] at hcp1
 obtain⟨C2,hC2⟩:∃ C2,C2=C1.take (i * size)++vs++C1.drop (i * size+vs.length):=⟨_,rfl⟩
 obtain⟨l1,l2,l3⟩:=Di cur.toList cs vs C1 C2 n i size c hC1 hC2 hin hroom (by simpa using hcur) hcs hvl
 obtain⟨W1,hW1⟩:∃ W1,W1=w.drew.setRow g C1.toArray:=⟨_,rfl⟩
 have hg1:W1.heap[g]? = some (.cells C1.toArray (ρ.t 9) (0,0)):=by rw[hW1];exact setRow_heap w.drew g cur _ _ _ hg
 have hcp2:∀ (W:World),W.heap=W1.heap→∀ ty dc,(dE #[(ρ.t 24),(ρ.t 24)] ty #[.slice (some ⟨g,i * size,none⟩) (n+1-i) dc,.slice (some ⟨vb,voff,none⟩) 1 vc]).run P W = .ok (goInt (ib 1 (n+1-i))) (W.setRow g C2.toArray):=fun W hW ty dc=>by
  rw[hC2]
  have:=fV (P:=P) W (ρ.t 24) (ρ.t 24) ty (ρ.t 9) i0 g (i * size) (n+1-i) dc ⟨vb,voff,none⟩ 1 vc C1.toArray (ρ.t 9) vs L.t24 L.hi (by rw[hW];exact hg1)
   (by rw[hvl,L.hz1,show ib 1 (n+1-i)=1 by simp only[Nat.min_def];split<;>omega,cn])
   (fun j v hj=>by
    rw[du]
    have h0:=hvs j v hj
    unfold dt at h0 ⊢
    have e:W.heap[vb]? = w.heap[vb]?:=by rw[hW,hW1,setRow_other _ _ _ _ hvb];rfl
    simp only[e]
    exact h0)
   (by simp only[gg,l1,hvl];omega) h1v
  simpa using this
 rw[← hW1] at hcp1
 have hG1:w.grownBy W1 (some g):=by rw[hW1];exact CZ _ _ _
 clear hW1 hC1 hC2
 have F:Aside ((List.take ((n+1) * size) C2=cs.take (i * size)++vs++cs.drop (i * size)∧C2.length=c * size)∧W1.heap[g]? = some (.cells C1.toArray (ρ.t 9) (0,0))∧w.grownBy W1 (some g)):=⟨⟨l3,l2⟩,hg1,hG1⟩
 have F2:cs.length=n * size∧vs.length=size∧n+1≤c∧c≤maxLen:=⟨hcl,hvl,hroom,hcm⟩
 clear l1 l2 l3 hg1 hG1
 obtain⟨_,_,FG⟩:=L.f22
 go_enter FG,im ρ
 go_wp2_with (simp only[hov])
 go_region_law_o (refine step_copy_runI rfl _ _ (ρ.t 24) (ρ.t 24) rfl _ _ (by simp[Act.eval,Act.put]) (by simp[Act.eval,Act.put]) (hcp1 _ _ _) ?_)
 go_wp2_with (at_builtin;refine wpList_copy_runI _ rfl _ _ (ρ.t 24) (ρ.t 24) rfl _ _ rfl rfl (hcp2 _ rfl _ _) ?_)
 go_ret
 obtain⟨⟨f1,f2⟩,f3,f4⟩:=F.out
 refine⟨_,rfl,⟨?_,.inr ⟨g,c,C2.toArray,rfl,hBg,setRow_heap _ _ _ _ _ _ f3,F2.2.2.1,F2.2.2.2,by simpa using f2,f1⟩⟩,⟨f4.os,f4.tape,f4.output,by rw[setRow_size];exact f4.size,fun k hk hne=>?_⟩,rfl⟩
 ·simp only[aw,ae,bi,F2.1,F2.2.1,e2]
  omega
 ·rw[setRow_other _ _ _ _ (fun h=>hne (by rw[h]))]
  exact f4.block k hk hne
theorem Hf (cs vs z1 z2 c0 c1 c2:List Value)(n i size G:Nat)(h0:c0=cs.take (i * size)++z1++z2)(h1:c1=c0.take (i * size)++vs++c0.drop (i * size+vs.length))
  (h2:c2=c1.take (i * size+size)++cs.drop (i * size)++c1.drop (i * size+size+(cs.drop (i * size)).length)) (hin:i<n) (hG:n+1≤G) (hcl:cs.length=n * size) (hvl:vs.length=size)
  (hz1:z1.length=(n+1-i) * size) (xR:z2.length=(G-(n+1)) * size) :
  c0.length=G * size∧c1.length=G * size∧c2.length=G * size∧c2.take ((n+1) * size)=cs.take (i * size)++vs++cs.drop (i * size):=by
 have e2:(n+1) * size=n * size+size:=by rw[dd,cn]
 have e1:(i+1) * size=i * size+size:=by rw[dd,cn]
 have k1:i * size≤n * size:=al _ (by omega)
 have k2:(i+1) * size≤n * size:=al _ (by omega)
 have k3:(n+1) * size≤G * size:=al _ hG
 rw[fa,e2] at hz1
 rw[fa,e2] at xR
 have hdl:(cs.drop (i * size)).length=n * size-i * size:=by rw[bi,hcl]
 have l0:c0.length=G * size:=by simp only[h0,aw,ae,hcl,hz1,xR];omega
 have l1:c1.length=G * size:=by simp only[h1,aw,ae,bi,l0,hvl];omega
 have l2:c2.length=G * size:=by simp only[h2,aw,ae,bi,l1,hcl];omega
 refine⟨l0,l1,l2,?_⟩
 have q1:c0.take (i * size)=cs.take (i * size):=by
  rw[h0,dq,bj (by rw[ae];omega),ft,Nat.min_self]
 have q2:c1.take (i * size+size)=cs.take (i * size)++vs:=by
  rw[h1,q1,bj (by simp only[aw,ae,hcl,hvl];omega)]
  exact db (by simp only[aw,ae,hcl,hvl];omega)
 rw[h2,q2,e2,bj (by simp only[aw,ae,hcl,hvl,hdl];omega)]
 exact db (by simp only[aw,ae,hcl,hvl,hdl];omega)
theorem iw (zc:Array Value)(n:Nat):(ap zc n).size=n * zc.size:=by simp[ap]
set_option maxHeartbeats 4000000 in
set_option maxRecDepth 100000 in
theorem C9 (L:ph P ρ i0 z size bytes)(B g n c i vb voff vc:Nat)(cur:Array Value)(cs vs:List Value)(w:World)(hin:i<n)(hnc:n≤c)(hroom:c<n+1)(hB:B≤w.heap.size)
  (hg:w.heap[g]? = some (.cells cur (ρ.t 9) (0,0))) (hcur:cur.size=c * size) (hcs:cur.toList.take (n * size)=cs) (h1c:∀ v∈cs,v.oneCell'=true)
  (h63:n+1≤maxLen) (hbig:(n+1) * bytes≤140737488355328)
  (hvl:vs.length=size) (hvs:∀ j v,vs[j]? = some v→w.cell? ⟨vb,voff+j,none⟩=some v) (h1v:∀ v∈vs,v.oneCell'=true) :
  Calls P (ρ.f 22) #[.slice (some ⟨g,0,none⟩) n c,.int .i64 i,.slice (some ⟨vb,voff,none⟩) 1 vc] w fun e w'=>∃ v,e = .returned v∧w'.ownsRow B (ρ.t 9) size v (n+1) (cs.take (i * size)++vs++cs.drop (i * size)) ∧
   w.grownBy w' (some g)∧v.ownBlock=some w.heap.size:=by
 have t0:=L.t0;have a0:=L.a0;have z0:=L.z0;have v0':=L.v0;have t3:=L.t3;have a3:=L.a3;have z3:=L.z3;have v3:=L.v3;have t4:=L.t4;have a4:=L.a4;have z4:=L.z4;have v4:=L.v4;have z9:=L.z9;have t24:=L.t24;have a24:=L.a24;have z24:=L.z24;have v24:=L.v24
 have u0:=run_underlying L.t0;have u3:=run_underlying L.t3;have u4:=run_underlying L.t4;have u24:=run_underlying L.t24
 have mixed:=L.mixed
 have hsz:=L.hsz
 have e1:(i+1) * size=i * size+size:=by rw[dd,cn]
 have e2:(n+1) * size=n * size+size:=by rw[dd,cn]
 have h1':i * size≤n * size:=al _ (by omega)
 have h2':(i+1) * size≤n * size:=al _ (by omega)
 have hnc':n * size≤c * size:=al _ hnc
 have m63:maxLen≤9223372036854775807:=by unfold maxLen;omega
 have hcl:cs.length=n * size:=by
  rw[← hcs,ae,dj,hcur]
  omega
 have hdl:(cs.drop (i * size)).length=(n-i) * size:=by rw[bi,hcl,fa]
 have hgc:∀ j v,cs[j]? = some v→w.cell? ⟨g,j,none⟩=some v:=by
  intro j v hj
  rw[← hcs,eh] at hj
  split at hj
  ·simp only[dt,hg]
   simpa using hj
  ·cases hj
 have hgw:g<w.heap.size:=(be.1 hg).1
 have hvw:vb<w.heap.size:=block_lt_of_cell (hvs 0 _ (ee (by omega)))
 have xR:¬ ((i:Int)=(n:Int)):=by omega
 have hz3:(c:Int)<(n:Int)+1:=by omega
 have hkk:(n:Int)+1-(i:Int)=((n+1-i:Nat):Int):=by omega
 have hik:i+(n+1-i)=n+1:=by omega
 have hold:(ka i0.size i (.slice (some ⟨g,0,none⟩) i c)).run P w.drew = .ok (cs.take (i * size)).toArray w.drew:=by
  rw[L.hz1]
  exact run_firstCells_some w.drew size i ⟨g,0,none⟩ i c (cs.take (i * size)) (by rw[ae];omega) (fun j v hj=>by
   rw[du,dC]
   rw[eh] at hj
   split at hj
   ·exact hgc j v hj
   ·cases hj)
 have hrz:∀ ty,(Builtin.append_ #[(ρ.t 24),(ρ.t 3)] ty #[.slice (some ⟨g,0,none⟩) i c,.int .i64 ((n:Int)+1-(i:Int))]).run P w =
   .ok (.slice (some ⟨w.heap.size,0,none⟩) (n+1) (grownCap w (n+1) c (ρ.t 9))) (w.drew.alloc (.cells ((cs.take (i * size)).toArray++ap z.cells (n+1-i)++ap z.cells (grownCap w (n+1) c (ρ.t 9)-(n+1))) (ρ.t 9))):=fun ty=>by
  have hb:(n+1-i) * bytes≤(n+1) * bytes:=al _ (by omega)
  have h:=Lib.run_append_grow_zeros w (ρ.t 24) (ρ.t 3) ty (ρ.t 9) i0 _ .i64 .i64 L.t24 L.t3 L.hi L.hz0 (some ⟨g,0,none⟩) i c (cs.take (i * size)) hold (n+1-i) (by omega) (by rw[L.hz1];exact hsz) (by omega) (by omega) (by rw[L.xR];omega) (by rw[L.xR,hik];exact growslice_fits hroom hbig)
  rw[hik] at h
  rw[hkk]
  exact h
 obtain⟨G,hG⟩:∃ G,G=grownCap w (n+1) c (ρ.t 9):=⟨_,rfl⟩
 have hGn:n+1≤G:=by rw[hG];exact grownCap_ge w _ _ _
 have hGm:G≤maxLen:=by rw[hG];exact grownCap_le_maxLen w (n+1) c (ρ.t 9) h63
 rw[← hG] at hrz
 obtain⟨ROW,hROW⟩:∃ ROW:Array Value,ROW=(cs.take (i * size)).toArray++ap z.cells (n+1-i)++ap z.cells (G-(n+1)):=⟨_,rfl⟩
 rw[← hROW] at hrz
 obtain⟨C1,hC1⟩:∃ C1,C1=ROW.toList.take (i * size)++vs++ROW.toList.drop (i * size+vs.length):=⟨_,rfl⟩
 obtain⟨C2,hC2⟩:∃ C2,C2=C1.take (i * size+size)++cs.drop (i * size)++C1.drop (i * size+size+(cs.drop (i * size)).length):=⟨_,rfl⟩
 obtain⟨l0,l1,l2,l3⟩:=Hf cs vs (ap z.cells (n+1-i)).toList (ap z.cells (G-(n+1))).toList ROW.toList C1 C2 n i size G (by rw[hROW];simp) hC1 hC2 hin hGn hcl hvl (by rw[dj,iw,L.hzs]) (by rw[dj,iw,L.hzs])
 obtain⟨W1,hW1⟩:∃ W1,W1=w.drew.alloc (.cells ROW (ρ.t 9)):=⟨_,rfl⟩
 rw[← hW1] at hrz
 have hN:W1.heap[w.heap.size]? = some (.cells ROW (ρ.t 9) (0,0)):=by rw[hW1];exact heap_alloc_new w.drew _
 have hO:∀ k,k<w.heap.size→W1.heap[k]? = w.heap[k]?:=fun k hk=>by
  rw[hW1];simp only[kn,kh,Array.getElem?_push,ik hk,if_false]
 have hG1:w.grownBy W1 (some g):=⟨by rw[hW1];rfl,by rw[hW1];rfl,by rw[hW1];rfl,by rw[hW1];show w.heap.size≤(w.heap.push _).size;rw[Array.size_push];omega,fun k hk _=>hO k hk⟩
 have hcpA:∀ ty dc,(dE #[(ρ.t 24),(ρ.t 24)] ty #[.slice (some ⟨w.heap.size,i * size,none⟩) (n+1-i) dc,.slice (some ⟨vb,voff,none⟩) 1 vc]).run P W1 = .ok (goInt (ib 1 (n+1-i))) (W1.setRow w.heap.size C1.toArray):=fun ty dc=>by
  rw[hC1]
  exact fV (P:=P) W1 (ρ.t 24) (ρ.t 24) ty (ρ.t 9) i0 w.heap.size (i * size) (n+1-i) dc ⟨vb,voff,none⟩ 1 vc ROW (ρ.t 9) vs L.t24 L.hi hN
   (by rw[hvl,L.hz1,show ib 1 (n+1-i)=1 by simp only[Nat.min_def];split<;>omega,cn])
   (fun j v hj=>by
    rw[du]
    have h0:=hvs j v hj
    unfold dt at h0 ⊢
    simp only[hO vb hvw]
    exact h0)
   (by rw[← dj,l0,hvl];have:=al size hGn;omega) h1v
 obtain⟨W2,hW2⟩:∃ W2,W2=W1.setRow w.heap.size C1.toArray:=⟨_,rfl⟩
 rw[← hW2] at hcpA
 have hN2:W2.heap[w.heap.size]? = some (.cells C1.toArray (ρ.t 9) (0,0)):=by rw[hW2];exact setRow_heap _ _ _ _ _ _ hN
 have hO2:∀ k,k<w.heap.size→W2.heap[k]? = w.heap[k]?:=fun k hk=>by rw[hW2,setRow_other _ _ _ _ (ik hk)];exact hO k hk
 have hG2:w.grownBy W2 (some g):=⟨by rw[hW2];exact hG1.os,by rw[hW2];exact hG1.tape,by rw[hW2];exact hG1.output,by rw[hW2,setRow_size];exact hG1.size,fun k hk _=>hO2 k hk⟩
 have hcpB:∀ ty dc sc,(dE #[(ρ.t 24),(ρ.t 24)] ty #[.slice (some ⟨w.heap.size,i * size+size,none⟩) (n-i) dc,.slice (some ⟨g,i * size,none⟩) (n-i) sc]).run P W2.drew = .ok (goInt (ib (n-i) (n-i))) (W2.drew.setRow w.heap.size C2.toArray):=fun ty dc sc=>by
  rw[hC2]
  have:=fV (P:=P) W2.drew (ρ.t 24) (ρ.t 24) ty (ρ.t 9) i0 w.heap.size (i * size+size) (n-i) dc ⟨g,i * size,none⟩ (n-i) sc C1.toArray (ρ.t 9) (cs.drop (i * size)) L.t24 L.hi hN2
   (by rw[hdl,L.hz1];simp)
   (fun j v hj=>by
    rw[du]
    rw[List.getElem?_drop] at hj
    have h0:=hgc _ v hj
    unfold dt at h0 ⊢
    have e:W2.drew.heap[g]? = w.heap[g]?:=hO2 g hgw
    simp only[e]
    exact h0)
   (by simp only[gg,l1,hdl,fa];have:=al size hGn;omega) (fun v hv=>h1c v (List.mem_of_mem_drop hv))
  simpa using this
 clear hW1 hW2 hC1 hC2 hROW hG l0
 have F:Aside ((List.take ((n+1) * size) C2=cs.take (i * size)++vs++cs.drop (i * size)∧C2.length=G * size)∧W2.heap[w.heap.size]? = some (.cells C1.toArray (ρ.t 9) (0,0))∧w.grownBy W2 (some g)):=⟨⟨l3,l2⟩,hN2,hG2⟩
 have F2:cs.length=n * size∧vs.length=size∧n+1≤G∧G≤maxLen:=⟨hcl,hvl,hGn,hGm⟩
 have hw1:eI.wrap ((i:Int)+1)=(i:Int)+1:=by rw[dv];omega
 have hw2:eI.wrap ((n:Int)+1)=(n:Int)+1:=by rw[dv];omega
 have hw3:eI.wrap ((n:Int)+1-(i:Int))=(n:Int)+1-(i:Int):=by rw[dv];omega
 have hb1:(0:Int)≤(i:Int)+1:=by omega
 have hin':i≤n:=by omega
 have htn:((i:Int)+1).toNat=i+1:=by omega
 have htn2:((n:Int)+1).toNat=n+1:=by omega
 have hb3:(i:Int)≤(n:Int)+1:=by omega
 have hGi:¬ (G=i):=by omega
 have hGim:¬ (G=i+1):=by omega
 have hci:¬ (c=i):=by omega
 have hb5:(i:Int)≤(n:Int):=by omega
 clear l1 l2 l3 hN2 hG2 hO2 hN hO hG1 hkk hik hold hgc
 obtain⟨_,_,FG⟩:=L.f22
 go_enter FG,im ρ
 go_wp2_with (first
  | (at_builtin;refine Lib.wpList_append_run _ rfl _ _ _ _ rfl _ _ rfl rfl _ _ (hrz _) ?_)
  | (at_builtin;refine wpList_copy_runI _ rfl _ _ (ρ.t 24) (ρ.t 24) rfl _ _ rfl rfl (hcpA _ _) ?_))
 go_region_law_o (refine step_copy_runI rfl _ _ (ρ.t 24) (ρ.t 24) rfl _ _ (by simp[Act.eval,Act.put]) (by simp[Act.eval,Act.put]) (hcpB _ _ _) ?_)
 go_wp2
 go_ret
 obtain⟨⟨f1,f2⟩,f3,f4⟩:=F.out
 refine⟨_,rfl,⟨?_,.inr ⟨w.heap.size,G,C2.toArray,rfl,hB,setRow_heap _ _ _ _ _ _ f3,F2.2.2.1,F2.2.2.2,by simpa using f2,f1⟩⟩,⟨f4.os,f4.tape,f4.output,by rw[setRow_size];exact f4.size,fun k hk hne=>?_⟩,rfl⟩
 ·simp only[aw,ae,bi,F2.1,F2.2.1,e2]
  omega
 ·rw[setRow_other _ _ _ _ (ik hk)]
  exact f4.block k hk hne
end Go.Sy
namespace Go.Sy
open Go Go.RowKit Go.Shelf Go.Lib Go.Proofs
set_option linter.unusedVariables false
set_option linter.unusedSimpArgs false
variable {P:Program}{ρ:Ren}{i0:TypeInfo}{z:Value}{size bytes:Nat}
set_option maxHeartbeats 2000000 in
set_option maxRecDepth 100000 in
theorem K5 (L:km P ρ)(hi:P.info? (ρ.t 23)=some i0)(hz0:i0.zero=some z)(hz1:i0.size=size)(xR:i0.bytes=bytes)(hzs:z.cells.size=size)(hsz:0<size)
  (z23:∀ w,(eK (ρ.t 23)).run P w = .ok size w) (ad:Addr) (n c:Nat) (news:List Value) (w:World) (hl:news.length=n * size) (hn:n≤maxLen) (hbig:n * bytes≤140737488355328)
  (hc:∀ j u,news[j]? = some u→w.cell? (ad.add j)=some u) (h1:∀ u∈news,u.oneCell'=true) :
  Calls P (ρ.f 41) #[.slice (some ad) n c] w fun e w'=>∃ v',e = .returned v'∧w'.ownsRow w.heap.size (ρ.t 23) size v' n news∧Below w.heap.size w w':=by
 have mixed:=L.mixed;have t4:=L.t4;have a4:=L.a4;have z4:=L.z4;have v4:=L.v4;have t22:=L.t22;have a22:=L.a22;have z22:=L.z22;have v22:=L.v22
 have q22:∀ (w:World) (a:Option Addr) (n c n' c':Nat),(binOp .eql (ρ.t 22) (.slice a n c) (.slice none n' c')).run P w = .ok (.bool a.isNone) w:=fun w a n c n' c'=>Lib.run_eql_slice_nil w _ _ a n c n' c' L.t22
 have u22:∀ w,Sem.run P (underlying (ρ.t 22)) w = .ok (TypeDesc.slice (ρ.t 23)) w:=run_underlying t22
 have A:Aside (∀ j u,news[j]? = some u→w.cell? (ad.add j)=some u):=hc
 clear hc
 have hl0:0+n≤maxLen:=by rw[dC];exact hn
 have hl1:(0+n) * bytes≤140737488355328:=by rw[dC];exact hbig
 obtain⟨_,_,FG⟩:=L.f41
 go_enter FG,SlBodyN.n41_ntmps ρ
 go_wp2_with (at_builtin;refine wpList_append_own _ rfl _ _ (ρ.t 22) rfl w.heap.size (ρ.t 23) i0 z size bytes t22 hi hz0 hz1 xR hzs hsz _ _ _ rfl (World.ownsRow_made w #[] 0 (cf _) (fx _) (by simp)) ad n c news rfl hl (fun j u hj=>Lib.cell?_alloc_some _ (A.out j u hj)) h1 hl0 hl1 (by simp) ?_)
 intro v' w1 hown hgrow hnil
 go_wp2
 go_ret
 refine⟨v',rfl,by simpa using hown,?_⟩
 exact ((Below.refl _ w).alloc (cf _) _).grown hgrow (by simp) (by intro k hk;simp[Value.ownBlock] at hk;omega)
set_option maxHeartbeats 1000000 in
theorem Lm (L:km P ρ)(n c:Nat)(w:World) :
  Calls P (ρ.f 41) #[.slice none n c] w fun e w'=>e = .returned (.slice none 0 0)∧w'=w:=by
 have mixed:=L.mixed;have t4:=L.t4;have a4:=L.a4;have z4:=L.z4;have v4:=L.v4;have t22:=L.t22;have a22:=L.a22;have z22:=L.z22;have v22:=L.v22
 have q22:∀ (w:World) (a:Option Addr) (n c n' c':Nat),(binOp .eql (ρ.t 22) (.slice a n c) (.slice none n' c')).run P w = .ok (.bool a.isNone) w:=fun w a n c n' c'=>Lib.run_eql_slice_nil w _ _ a n c n' c' L.t22
 obtain⟨_,_,FG⟩:=L.f41
 go_enter FG,SlBodyN.n41_ntmps ρ
 go_wp2
 go_ret
 exact⟨rfl,rfl⟩
theorem xO {S:ar}{w:World}{B:Nat}{te:TypeId}{e:Ty}{v:Value}{xs:List e.T}{cs:List Value}(h:w.ownsRow B te e.size v xs.length cs)(hr:gY S e xs cs)(hS:∀ b,B≤b→S b=none) :
  ∃ l:Lc,v = .slice l.addr xs.length l.cap∧gh S w B ⟨l,.row te e xs⟩:=by
 rcases h.2 with⟨rfl,h0⟩|⟨g,cap,cur,rfl,hB,hg,h1,h2,h3,h4⟩
 ·refine⟨⟨none,0,aT⟩,by rw[h0];rfl,rfl,⟨by simp only;omega,fx _⟩,.inl ⟨rfl,rfl⟩⟩
 ·refine⟨⟨some g,cap,aT⟩,rfl,rfl,⟨h1,h2⟩,.inr ⟨g,cur,rfl,hB,hS g hB,hg,h3,fun j x hj=>?_⟩⟩
  obtain⟨c,q1,q2⟩:=uR hr j x hj
  refine⟨c,q1,fun m v hm=>?_⟩
  have:=q2 m v hm
  rw[← h4,eh] at this
  split at this
  ·simpa using this
  ·cases this
def jo {α:Type}(bytes:Nat)(xs:List α):Option (List α×Unit):=cond (fj (xs.length * bytes) 140737488355328) (some (xs,())) none
theorem mr [aq]{e:Ty}(L:km P ρ)(hi:P.info? (ρ.t 23)=some i0)(hz0:i0.zero=some z)(hz1:i0.size=e.size)(xR:i0.bytes=bytes)(hzs:z.cells.size=e.size)(hsz:0<e.size)(hb:0<bytes)
  (z23:∀ w,(eK (ρ.t 23)).run P w = .ok e.size w):(⟨[.row e],[.own (ρ.t 23) e],fun x=>jo bytes x.1⟩:aX).OK P (ρ.f 41):=by
 rintro ⟨xs,⟨⟩⟩ y hy S w vs hS hG ⟨v,r,rfl,hv,rfl⟩
 simp only[jo] at hy
 cases hble:fj (cd xs * bytes) 140737488355328 with
 | false=>rw[hble] at hy;cases hy
 | true=>
  rw[hble] at hy
  cases hy
  have hbig:=dp hble
  have hn:cd xs≤maxLen:=by
   have:cd xs * 1≤cd xs * bytes:=fg _ hb
   unfold maxLen
   omega
  have hSn:∀ b,w.heap.size≤b→S b=none:=by
   intro b hb
   cases h:S b with
   | none=>rfl
   | some o=>
    have:=hS b o h
    rw[il hb] at this
    cases this
  unfold Mr at hv
  simp only[Ty.isAgg,ba,if_false] at hv
  obtain⟨a,cap,he,⟨hcap,hnil⟩,hel⟩:=hv
  cases he
  cases a with
  | none=>
   have h0:xs=[]:=by
    cases xs with
    | nil=>rfl
    | cons x r=>obtain⟨_,_,h,_⟩:=hel 0 x rfl;cases h
   subst h0
   refine (Lm L 0 cap w).mono ?_
   rintro e' w' ⟨rfl,rfl⟩
   obtain⟨l,k1,k2⟩:=xO (S:=S) (e:=e) (xs:=[]) (w:=w') (cs:=[]) (gk w' w'.heap.size (ρ.t 23) e.size) rfl hSn
   refine⟨[.slice none 0 0],S,[⟨l,.row (ρ.t 23) e []⟩],rfl,Below.refl _ _,fun _ _ h=>h,hS,fun b h=>.inl h,⟨_,[],[⟨l,.row (ρ.t 23) e []⟩],[],rfl,rfl,?_,rfl,rfl⟩,?_,da _ _⟩
   ·unfold lz
    simp only[eG.isAgg,ba,if_false]
    exact⟨l,congrArg (fun v=>[v]) k1,rfl⟩
   ·intro o ho
    simp only[bm] at ho
    subst ho;exact k2
  | some ad=>
   obtain⟨cs,r1,r2⟩:=fG (S:=S) (e:=e) (xs:=xs) (fun j=>cellS S (ad.add j)) (fun j x hj=>by
    obtain⟨ad',c,h1,h2,h3⟩:=hel j x hj
    cases h1
    exact⟨c,h2,h3⟩)
   have cw:∀ {a:Addr} {v:Value},cellS S a=some v→w.cell? a=some v:=by
    intro a v h
    unfold cellS at h
    unfold dt
    split at h
    ·rename_i hh
     rw[hS _ _ hh];exact h
    ·cases h
   refine (K5 (z:=z) L hi hz0 hz1 xR hzs hsz z23 ad (cd xs) cap cs w (bz r1) hn hbig (fun j u hj=>cw (r2 j u hj)) (iU r1)).mono ?_
   rintro e' w' ⟨v,rfl,hown,hbel⟩
   obtain⟨l,k1,k2⟩:=xO (S:=S) (e:=e) hown r1 hSn
   refine⟨[v],S,[⟨l,.row (ρ.t 23) e xs⟩],rfl,hbel,fun _ _ h=>h,fun b o h=>?_,fun b h=>.inl h,⟨_,[],[⟨l,.row (ρ.t 23) e xs⟩],[],rfl,rfl,?_,rfl,rfl⟩,?_,da _ _⟩
   ·rw[hbel.block b (be.1 (hS b o h)).1];exact hS b o h
   ·unfold lz
    simp only[eG.isAgg,ba,if_false]
    exact⟨l,congrArg (fun v=>[v]) k1,rfl⟩
   ·intro o ho
    simp only[bm] at ho
    subst ho;exact k2
theorem Fo {S:ar}{e:Ty}:∀ {xs:List e.T} {cs:List Value} (k:Nat),gY S e xs cs→gY S e (xs.take k) (cs.take (k * e.size))∧gY S e (xs.drop k) (cs.drop (k * e.size))
 | xs,cs,0,h=>by simpa [gY] using h
 | [],cs,k+1,h=>by simp only[gY] at h;subst h;simp[gY]
 | x::xs,cs,k+1,h=>by
  obtain⟨c,d,rfl,h1,h2⟩:=h
  obtain⟨k1,k2⟩:=Fo k h2
  have hl:=b7 _ _ _ h1
  have e1:(k+1) * e.size=c.length+k * e.size:=by rw[hl,dd,cn,Nat.add_comm]
  rw[e1]
  refine⟨⟨c,d.take (k * e.size),?_,h1,k1⟩,?_⟩
  ·rw[List.take_append,db (by omega),gn]
  ·have:(c++d).drop (c.length+k * e.size)=d.drop (k * e.size):=by
    rw[List.drop_append,eJ (by omega),gn,List.nil_append]
   rw[this]
   exact k2
def wK (B:Nat)(S:ar)(w:World):ar:=fun b=>cond (fj B b) w.heap[b]? (S b)
def HI {α:Type}(bytes:Nat)(zs:List α)(i:Int):List α→Option (List α)
 | [y]=>cond (decide (0≤i)&&decide (i≤(zs.length:Int))&&fj ((zs.length+1) * bytes) 140737488355328) (some (zs.take i.toNat++y::zs.drop i.toNat)) none
 | _=>none
theorem Df {i:Int}(h:0≤i):∃ k:Nat,i=k:=⟨i.toNat,by omega⟩
theorem sQ [aq]{e:Ty}(L:ph P ρ i0 z e.size bytes)(hb:0<bytes):(⟨ρ.t 9,e,[.int .i64,.row e],false,fun zs x=>HI bytes zs x.1 x.2.1⟩:b5).OK P (ρ.f 22):=by
 refine⟨fun _=>?_,Ja⟩
 rintro zs ⟨i,vs,⟨⟩⟩ ys hy S w B v0 cs0 us hS hG ⟨vi,r,rfl,hvi,v,r',rfl,hv,rfl⟩ hzs hown hSb hB
 simp only at hzs hown hy
 match vs,hv with
 | [],_=>cases hy
 | _::_::_,_=>cases hy
 | [y],hv=>
  simp only[HI] at hy
  obtain⟨hc,hy⟩:(decide (0≤i)&&decide (i≤(zs.length:Int))&&fj ((zs.length+1) * bytes) 140737488355328)=true∧zs.take i.toNat++y::zs.drop i.toNat=ys:=by
   cases hq:(decide (0≤i)&&decide (i≤(zs.length:Int))&&fj ((zs.length+1) * bytes) 140737488355328) with
   | true=>rw[hq] at hy;exact⟨rfl,Option.some.inj hy⟩
   | false=>rw[hq] at hy;cases hy
  subst hy
  simp only[Bool.and_eq_true,decide_eq_true_eq] at hc
  obtain⟨⟨hi0,hin⟩,hbig⟩:=hc
  have hbig:=dp hbig
  have hn1:zs.length+1≤maxLen:=by
   have:(zs.length+1) * 1≤(zs.length+1) * bytes:=fg _ hb
   rw[max_eq];omega
  obtain⟨k,rfl⟩:=Df hi0
  simp only[Int.toNat_natCast] at *
  have hk:k≤zs.length:=Int.ofNat_le.1 hin
  unfold Mr at hvi hv
  simp only[Ty.isAgg,ba,if_false] at hvi hv
  cases hvi
  obtain⟨a,cap,he,⟨hcap,hnil⟩,hel⟩:=hv
  cases he
  obtain⟨ad,c,ha,hc1,hc2⟩:=hel 0 y rfl
  subst ha
  have hcl:=b7 _ _ _ hc1
  have hsz:=L.hsz
  have hsp:ad.spot=none∧∃ o,S ad.block=some o:=by
   have h0:=hc2 0 _ (ee (by omega))
   have e1:ad.add (0 * e.size+0)=ad:=by rw[Nat.zero_mul];rfl
   rw[e1] at h0
   unfold cellS at h0
   split at h0
   ·rename_i hh
    refine⟨?_,_,hh⟩
    cases hs:ad.spot with
    | none=>rfl
    | some q=>rw[hs] at h0;cases h0
   ·cases h0
  obtain⟨hs1,o,hs2⟩:=hsp
  obtain⟨vb,voff,vs0⟩:=ad
  simp only at hs1 hs2
  subst hs1
  have hvs:∀ j v,c[j]? = some v→w.cell? ⟨vb,voff+j,none⟩=some v:=by
   intro j v hj
   have:=hc2 j v hj
   rw[Nat.zero_mul,dC,du] at this
   unfold cellS at this
   unfold dt
   split at this
   ·rename_i hh
    rw[hS _ _ hh];exact this
   ·cases this
  have hbl:∀ b,v0.ownBlock=some b→vb≠b:=fun b h1 h2=>by subst h2;rw[hSb _ h1] at hs2;cases hs2
  have hly:(zs.take k++y::zs.drop k).length=zs.length+1:=by simp;omega
  obtain⟨t1,t2⟩:=Fo k hzs
  have hres:gY S e (zs.take k++y::zs.drop k) (cs0.take (k * e.size)++c++cs0.drop (k * e.size)):=by
   rw[dq]
   exact kF t1 ⟨c,_,rfl,hc1,t2⟩
  have goal:Calls P (ρ.f 22) #[v0,.int .i64 k,.slice (some ⟨vb,voff,none⟩) 1 cap] w fun e' w'=>∃ v,e' = .returned v∧w'.ownsRow B (ρ.t 9) e.size v (zs.length+1) (cs0.take (k * e.size)++c++cs0.drop (k * e.size))∧w.grownBy w' v0.ownBlock ∧
    (v.ownBlock=v0.ownBlock∨v.ownBlock=some w.heap.size):=by
   rcases Nat.lt_or_ge k zs.length with hlt|hge
   ·rcases hown.2 with⟨rfl,h0⟩|⟨g,cp,cur,rfl,hBg,hg,h1,h2,h3,h4⟩
    ·omega
    ·rcases Nat.lt_or_ge cp (zs.length+1) with hro|hro
     ·refine (C9 L B g zs.length cp k vb voff cap cur cs0 c w hlt h1 hro hB hg h3 h4 (iU hzs) hn1 hbig hcl hvs (mS _ _ _ hc1)).mono ?_
      rintro e' w' ⟨v,q1,q2,q3,q4⟩
      exact⟨v,q1,q2,q3,.inr q4⟩
     ·refine (BE L B g zs.length cp k vb voff cap cur cs0 c w hlt hro h2 (hbl g rfl) hBg hg h3 h4 (iU hzs) hcl hvs (mS _ _ _ hc1)).mono ?_
      rintro e' w' ⟨v,q1,q2,q3,q4⟩
      exact⟨v,q1,q2,q3,.inl q4⟩
   ·have hkn:k=zs.length:=by omega
    subst hkn
    have hcs:=bz hzs
    rw[db (by omega),eJ (by omega),List.append_nil]
    exact GC L B v0 zs.length vb voff cap cs0 c w hown hcl hvs (mS _ _ _ hc1) hn1 hbig hB
  refine goal.mono ?_
  rintro e' w' ⟨v,rfl,q2,q3,q4⟩
  refine⟨v,_,rfl,fun h=>(by cases h),hres,by rw[hly];exact q2,fun b hb=>?_,q3⟩
  rcases q4 with q4|q4
  ·left;rw[← q4];exact hb
  ·right;rw[q4] at hb;cases hb;exact cf _
theorem aX.frozen [aq]{k:FuncId}{ps:List Ty}{te:TypeId}{e:Ty}{f:dQ ps→Option (List e.T×Unit)}(h:(⟨ps,[.own te e],f⟩:aX).OK P k):(⟨ps,[.val (.row e)],f⟩:aX).OK P k:=by
 intro x y hy S w vs hS hG ha
 refine (h x y hy S w vs hS hG ha).mono ?_
 rintro e' w' ⟨us,S',os,rfl,hb,s1,s2,s3,hR,hO,hA⟩
 obtain⟨v,r,o,p,rfl,rfl,h1,rfl,rfl⟩:=hR
 unfold lz at h1
 simp only[eG.isAgg,ba,if_false] at h1
 obtain⟨l,h1,rfl⟩:=h1
 cases h1
 have hO:=hO _ (fb _ (bm.2 rfl))
 have hst:∀ b o,S' b=some o→wK w.heap.size S' w' b=some o:=fun b o hb=>by
  unfold wK
  cases hq:fj w.heap.size b with
  | true=>exact s2 b o hb
  | false=>exact hb
 have hrd:Rd (wK w.heap.size S' w') (.row e) y.1 [.slice l.addr (cd y.1) l.cap]:=jN hst (fun b hb=>by
  rcases hO.2.2 with h|⟨b',_,h,hge,_⟩
  ·rw[h.1] at hb;cases hb
  ·rw[h] at hb;cases hb
   unfold wK
   rw[Nat.ble_eq_true_of_le hge];rfl) hO.2
 refine⟨_,wK w.heap.size S' w',[],rfl,hb,fun b o h=>hst b o (s1 b o h),fun b o h=>?_,fun b h=>?_,⟨_,[],[],[],rfl,rfl,?_,rfl,rfl⟩,by simp,.nil⟩
 ·unfold wK at h
  cases hq:fj w.heap.size b with
  | true=>rw[hq] at h;exact h
  | false=>rw[hq] at h;exact s2 b o h
 ·cases hq:fj w.heap.size b with
  | true=>exact .inr (dp hq)
  | false=>
   unfold wK at h
   rw[hq] at h
   exact s3 b h
 ·unfold lz
  simp only[eG.isAgg,ba,if_false]
  exact⟨hrd,rfl⟩
theorem RR [aq]{k:FuncId}{te:TypeId}{g:List Int→Option (List Int×Unit)}(h:(⟨[.row (.int .u8)],[.own te (.int .u8)],fun x=>g x.1⟩:aX).OK P k)(hg:∀ xs y,g xs=some y→y.1=xs) :
  (⟨te,.nil,[.row (.int .u8)],true,fun _ x=>(g x.1).map fun _=>[]⟩:b5).OK P k:=by
 refine⟨fun h=>(by cases h),?_⟩
 show ∀ (xs:List Int) (r:List Unit),_→_
 intro xs r hf S w v hS hG hv
 have hf:(g xs).map (fun _=>([]:List Unit))=some r:=hf
 cases hy:g xs with
 | none=>rw[hy] at hf;cases hf
 | some y=>
 have he:=hg xs y hy
 obtain⟨y,⟨⟩⟩:=y
 simp only at he
 subst he
 refine (h (y,()) (y,()) hy S w [v] hS hG ⟨v,[],rfl,hv,rfl⟩).mono ?_
 rintro e' w' ⟨us,S',os,rfl,hb,s1,s2,s3,hR,hO,hA⟩
 obtain⟨v,r,o,p,rfl,rfl,h1,rfl,rfl⟩:=hR
 unfold lz at h1
 simp only[eG.isAgg,ba,if_false] at h1
 obtain⟨l,h1,rfl⟩:=h1
 cases h1
 have hO:=hO _ (fb _ (bm.2 rfl))
 exact⟨l,rfl,hb,sZ rfl (cf _) (fun b hb=>by
  cases hs:S b with
  | none=>exact absurd hs hb
  | some o=>exact (be.1 (hS b o hs)).1) hO.2⟩
theorem aX.iI [aq]{k:FuncId}{ps:List Ty}{te ti:TypeId}{f:dQ ps→Option (List cM.T×Unit)}(h:(⟨ps,[.own te cM],f⟩:aX).OK P k):(⟨ps,[.deep te ti true],f⟩:aX).OK P k:=by
 intro x y hy S w vs hS hG ha
 refine (h x y hy S w vs hS hG ha).mono ?_
 rintro e' w' ⟨us,S',os,rfl,hb,s1,s2,s3,hR,hO,hA⟩
 obtain⟨v,r,o,p,rfl,rfl,h1,rfl,rfl⟩:=hR
 unfold lz at h1
 simp only[eG.isAgg,ba,if_false] at h1
 obtain⟨l,h1,rfl⟩:=h1
 cases h1
 have hO:=hO _ (fb _ (bm.2 rfl))
 obtain⟨hno,⟨hl1,hl2⟩,hO⟩:=hO
 have hno:l.cH=aT:=hno
 refine⟨_,S',[⟨l,.deep te ti true y.1⟩],rfl,hb,s1,s2,s3,⟨_,[],[⟨l,.deep te ti true y.1⟩],[],rfl,rfl,?_,rfl,rfl⟩,?_,da _ _⟩
 ·unfold lz
  simp only[eG.isAgg,ba,if_false]
  exact⟨l,rfl,rfl⟩
 ·intro o ho
  simp only[bm] at ho
  subst ho
  have nb:∀ {k b},(l.cH k).1=some b→False:=fun h=>by rw[hno] at h;cases h
  refine (⟨⟨hl1,hl2⟩,fun k _=>by rw[hno],fun k x _ hm=>absurd hm (Nat.not_lt_zero k),fun k k' b hb _=>(nb hb).elim,fun k b hb=>(nb hb).elim,hO.imp id fun⟨b,cs,e1,q1,q2,q3,q4,q5⟩=>⟨b,cs,e1,q1,q2,q3,q4,fun k x hx=>?_⟩⟩ :
   cT S' w' w.heap.size l te ti y.1 (.iI 0))
  obtain⟨c,k1,k2⟩:=q5 k x hx
  obtain⟨c1,c2,rfl,rfl,d1,d2,rfl,hr,rfl⟩:=k1
  have hr0:=hr
  obtain⟨a,cap,rfl,_⟩:=hr
  exact⟨k2 0 _ rfl,k2 2 _ rfl,_,k2 1 _ rfl,rfl,fun h=>absurd h (Nat.not_lt_zero k),fun _=>hr0⟩
end Go.Sy
namespace Go.Sy
open Go Go.RowKit Go.Shelf Go.Lib Go.Proofs
set_option linter.unusedVariables false
variable {P:Program}{ρ:Ren}{i0:TypeInfo}{z:Value}{bytes:Nat}
def NU {α:Type}(bytes:Nat)(n:Int):Option (List α×Unit):=cond (decide (0≤n)&&fj (n.toNat * bytes) 140737488355328) (some ([],())) none
theorem Ei [aq]{e:Ty}(L:Lays8.n4 P ρ)(hi:P.info? (ρ.t 25)=some i0)(hz0:i0.zero=some z)(hz1:i0.size=e.size)(xR:i0.bytes=bytes)(hzs:z.cells.size=e.size)(hsz:0<e.size)(hb:0<bytes) :
  (⟨[.nil,.int .i64],[.own (ρ.t 25) e],fun x=>NU bytes x.2.1⟩:aX).OK P (ρ.f 4):=by
 rintro ⟨⟨⟩,n,⟨⟩⟩ y hy S w vs hS hG ⟨v,r,rfl,hv,v',r',rfl,hv',rfl⟩
 simp only[NU] at hy
 obtain⟨hc,rfl⟩:=ai hy
 simp only[Bool.and_eq_true,decide_eq_true_eq] at hc
 obtain⟨h0,hbig⟩:=hc
 have hbig:=dp hbig
 obtain⟨k,rfl⟩:=Df h0
 simp only[Int.toNat_natCast] at hbig
 have hk:k≤140737488355328:=Nat.le_trans (by have:=fg k hb;omega) hbig
 unfold Mr at hv hv'
 simp only[Ty.isAgg,ba,if_false] at hv hv'
 cases hv;cases hv'
 rcases Nat.eq_zero_or_pos k with rfl|hpos
 ·refine (Any8.slices_Grow_room L none 0 0 0 w (cf _) (by omega) (by omega) (by omega)).mono ?_
  rintro e' w' ⟨rfl,rfl⟩
  refine⟨[.slice none 0 0],S,[⟨⟨none,0,aT⟩,.row (ρ.t 25) e []⟩],rfl,Below.refl _ _,fun _ _ h=>h,hS,fun b h=>.inl h,⟨_,[],[⟨⟨none,0,aT⟩,.row (ρ.t 25) e []⟩],[],rfl,rfl,?_,rfl,rfl⟩,?_,da _ _⟩
  ·unfold lz
   simp only[eG.isAgg,ba,if_false]
   exact⟨_,rfl,rfl⟩
  ·intro o ho
   simp only[bm] at ho
   subst ho
   exact⟨rfl,⟨cf _,fx _⟩,.inl ⟨rfl,rfl⟩⟩
 ·refine (Any8.slices_Grow_grow L i0 z hi hz0 (by omega) none 0 0 k [] w (cf _) (by omega) (by rw[xR,dC];exact hbig) (by omega) (by simp) (fun _=>rfl) (fun a h=>by cases h)).mono ?_
  rintro e' w' ⟨rfl,rfl⟩
  rw[dC]
  have hG63:=grownCap_le_maxLen w k 0 (ρ.t 25) (by rw[max_eq];omega)
  have hGn:=grownCap_ge w k 0 (ρ.t 25)
  generalize grownCap w k 0 (ρ.t 25)=G at hG63 hGn
  let l:Lc:=⟨some w.heap.size,G,aT⟩
  have hnew:(w.drew.alloc (.cells (([]:List Value).toArray++ap z.cells (k-0)++ap z.cells (G-k)) (ρ.t 25))).heap[w.heap.size]? = some (.cells (([]:List Value).toArray++ap z.cells (k-0)++ap z.cells (G-k)) (ρ.t 25) (0,0)):=heap_alloc_new w.drew _
  have hbel:Below w.heap.size w (w.drew.alloc (.cells (([]:List Value).toArray++ap z.cells (k-0)++ap z.cells (G-k)) (ρ.t 25))):=
   ⟨rfl,rfl,rfl,by simp only[kn,kh,Array.size_push];omega,fun j hj=>by simp only[kn,kh,Array.getElem?_push,ik hj,if_false]⟩
  refine⟨[.slice l.addr 0 l.cap],S,[⟨l,.row (ρ.t 25) e []⟩],rfl,hbel,fun _ _ h=>h,fun b o h=>?_,fun b h=>.inl h,⟨_,[],[⟨l,.row (ρ.t 25) e []⟩],[],rfl,rfl,?_,rfl,rfl⟩,?_,da _ _⟩
  ·rw[hbel.block b (be.1 (hS b o h)).1];exact hS b o h
  ·unfold lz
   simp only[eG.isAgg,ba,if_false]
   exact⟨l,rfl,rfl⟩
  ·intro o ho
   simp only[bm] at ho
   subst ho
   refine⟨rfl,⟨fx _,hG63⟩,.inr ⟨w.heap.size,_,rfl,cf _,?_,hnew,?_,fun j x hj=>by simp at hj⟩⟩
   ·cases hs:S w.heap.size with
    | none=>rfl
    | some o=>
     have:=hS _ o hs
     rw[il (cf _)] at this
     cases this
   ·simp only[Array.size_append,gg,List.length_nil,iw,hzs,dC,Nat.sub_zero,← dd]
    show (k+(G-k)) * e.size=G * e.size
    congr 1;omega
end Go.Sy
namespace Go.Sy
open Go Go.RowKit Go.Shelf Go.Lib Go.Proofs Go.Sort
set_option linter.unusedVariables false
set_option linter.unusedSimpArgs false
variable {P:Program}{ρ:Ren}
theorem gi {S:ar}:∀ {zs:List Int} {cs:List Value},gY S (.int .i64) zs cs↔cs=zs.map (Value.int .i64)
 | [],cs=>Iff.rfl
 | z::zs,cs=>by
  constructor
  ·rintro ⟨c,d,rfl,rfl,h⟩
   rw[gi.1 h];rfl
  ·rintro rfl
   exact⟨[.int .i64 z],_,rfl,rfl,gi.2 rfl⟩
def Dn (zs:List Int):Option (List Int):=cond (ol zs.length 4611686018427387904) (some (zs.mergeSort fun x y=>decide (x≤y))) none
def mV (zs:List Int):Option (List Int):=cond (ol zs.length 4611686018427387904) (some (dk zs)) none
theorem TT [aq](Ly:Lays.n189 P ρ)(hn:∀ (w:World),Calls P (ρ.f 189) #[.slice none 0 0] w fun e w'=>e = .returned (.tuple #[])∧w'=w)(te:TypeId):(⟨te,.int .i64,[],true,fun zs _=>Dn zs⟩:b5).OK P (ρ.f 189):=by
 refine⟨fun _=>?_,trivial⟩
 rintro zs ⟨⟩ ys hy S w B v0 cs0 us hS hG rfl hzs hown hSb hB
 simp only at hzs hown hy
 obtain⟨hc,rfl⟩:=ai (show cond (ol (cd zs) 4611686018427387904) (some (List.mergeSort zs fun x y=>decide (x≤y))) none=some ys from hy)
 have hlt:=cP hc
 have hl:(List.mergeSort zs fun x y=>decide (x≤y)).length=cd zs:=List.length_mergeSort _
 rw[gi] at hzs
 subst hzs
 rcases hown.2 with⟨rfl,h0⟩|⟨g,cap,cur,rfl,hBg,hg,h1,h2,h3,h4⟩
 ·have hz:zs=[]:=h9.1 h0
  subst hz
  refine (hn w).mono ?_
  rintro e w' ⟨rfl,rfl⟩
  have e0:(([]:List Int).mergeSort fun x y=>decide (x≤y))=[]:=List.mergeSort_nil
  refine⟨_,[],rfl,fun _=>⟨rfl,hl⟩,gi.2 (by rw[e0];rfl),?_,fun b h=>.inl h,⟨rfl,rfl,rfl,cf _,fun _ _ _=>rfl⟩⟩
  rw[hl]
  exact gk _ _ _ _
 ·have e1:cd zs * Ty.size (.int .i64)=cd zs:=gl _
  rw[e1] at h4
  refine (calls_of_every_depth (fun D=>AnyS.slices_Sort_int_in Ly D g 0 cap zs w (holds_of_blockI hg h4) (be.1 hg).1 hlt)).mono ?_
  rintro e w' ⟨rfl,n,os,rfl⟩
  refine⟨_,_,rfl,fun _=>⟨rfl,hl⟩,gi.2 rfl,?_,fun b h=>.inl h,grownBy_sortedI _⟩
  rw[hl]
  exact ownsRow_sortedI hl hBg hg h1 h2 h3
theorem El (zs:List Int):(dk zs).length≤zs.length:=by
 unfold dk compactUpTo
 rw[List.length_map]
 refine Nat.le_trans (List.length_filter_le _ _) ?_
 simp
theorem Iw [aq](Ly:Lays2.n20 P ρ)(te:TypeId):(⟨te,.int .i64,[],false,fun zs _=>mV zs⟩:b5).OK P (ρ.f 20):=by
 refine⟨fun _=>?_,trivial⟩
 rintro zs ⟨⟩ ys hy S w B v0 cs0 us hS hG rfl hzs hown hSb hB
 simp only at hzs hown hy
 obtain⟨hc,rfl⟩:=ai (show cond (ol (cd zs) 4611686018427387904) (some (dk zs)) none=some ys from hy)
 have hlt:=cP hc
 have hl:=El zs
 rw[gi] at hzs
 subst hzs
 rcases hown.2 with⟨rfl,h0⟩|⟨g,cap,cur,rfl,hBg,hg,h1,h2,h3,h4⟩
 ·have hz:zs=[]:=h9.1 h0
  subst hz
  refine (Any.slices_Compact_int_empty Ly none 0 w).mono ?_
  rintro e w' ⟨rfl,rfl⟩
  exact⟨_,[],rfl,fun h=>(by cases h),gi.2 rfl,gk _ _ _ _,fun b h=>.inl h,⟨rfl,rfl,rfl,cf _,fun _ _ _=>rfl⟩⟩
 ·have e1:cd zs * Ty.size (.int .i64)=cd zs:=gl _
  rw[e1] at h4
  have h3':cur.size=cap:=by rw[h3];exact gl _
  refine (Any.slices_Compact_int Ly g 0 cap zs w (holds_of_blockI hg h4) (by omega) h1).mono ?_
  rintro e w' ⟨rfl,q,rfl⟩
  rw[← grow_empty (putRow _ _ _ _ _)]
  refine⟨_,_,rfl,fun h=>(by cases h),gi.2 rfl,⟨by rw[List.length_map];exact (gl _).symm,.inr ⟨g,cap,_,rfl,hBg,heap_sortedI _ hg,by omega,h2,by simp[putCells,h3',Ty.size],?_⟩⟩,fun b h=>.inl h,grownBy_sortedI _⟩
  have ht:=take_putCellsI cur (dk zs++List.replicate (cd zs-(dk zs).length) 0) (by simp;omega)
  have e2:(dk zs).length * Ty.size (.int .i64)=(dk zs).length:=gl _
  rw[e2]
  have:=congrArg (List.take (dk zs).length) ht
  rw[ft,jn (by simp),List.map_append] at this
  rw[this]
  exact List.take_left' (by simp)
end Go.Sy
