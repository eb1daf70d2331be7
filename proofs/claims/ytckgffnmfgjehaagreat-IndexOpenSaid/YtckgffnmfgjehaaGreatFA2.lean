/- Sym5d, Sym6, Sym7, Sym8, Sym8b. -/
import Derived.Test.YtckgffnmfgjehaaGreatFA
import Derived.MapKept
import Derived.RangeFuncRecord
open Go.Result renaming andThen_ok → ae
open Go.Sem renaming run_bind → al, run_pure → ap
open Array renaming ext' → aw, toList_modify → dp, toArray_toList → im
open Nat renaming eq_of_beq_eq_true → ba, le_trans → dk, beq → eh, le_refl → eI, zero_add → eK, lt_or_ge → kh
open Bool renaming and_eq_true → be, false_eq_true → cf
open Go.MapKept renaming run_getObj_map → bi
open Option.some renaming injEq → bj, inj → dq
open Go.Instr renaming checkKey → bm, keyThatStays → cd, mapUpdate → db, lookup → dj, sameBits → dv, findNow → ee, findAsking → gk, mapEntry → il, makeMap → jn
open List renaming getElem?_eq_some_iff → cn, getElem?_map → da, getElem?_modify → dd, getElem?_cons_succ → dt, getElem?_eq_none → dC, length_cons → dE, getElem?_append_right → fb, getElem?_append_left → fg, ext_getElem? → fj, length → ft, eraseIdx_cons_succ → gg, getElem?_toArray → ik, map_cons → ka
open Go.World renaming putObj_heap_other → du, putObj_heap_same → gn
open Option renaming map_some → eJ, isSome_none → fa, getD_some → fx, map_eq_some_iff → h9
open Go.Builtin renaming len_ → eQ, delete_ → ib
open Go.Deferred renaming ofValue → gl
open Prod.mk renaming injEq → kb
namespace Go.Sy
open Go Go.RowKit Go.MapKept
set_option linter.unusedSimpArgs false
set_option linter.unusedVariables false
theorem sN:∀ (n:Nat) (l:List (Int×Int)) (j:Nat),(bw n l)[j]? = (l[j]?).map fun p=>⟨.int .i64 p.1,.int .i64 p.2,n+j⟩
 | _,[],j=>by simp[bw]
 | n,p::l,0=>by simp[bw]
 | n,p::l,j+1=>by
  simp only[bw,dt]
  rw[sN (n+1) l j,show n+1+j=n+(j+1) by omega]
theorem kZ:∀ (n:Nat) (l:List (Int×Int)) (p:Int×Int),bw n (l++[p])=bw n l++[⟨.int .i64 p.1,.int .i64 p.2,n+l.length⟩]
 | n,[],p=>by simp[bw]
 | n,q::l,p=>by
  simp only[List.cons_append,bw,kZ (n+1) l p,dE]
  rw[show n+1+l.length=n+(l.length+1) by omega]
theorem xk:∀ {l:List (Int×Int)} {x:Int},lS l x=true→l[gB l x]? = some (x,dx l x)
 | [],x,h=>by simp[lS] at h
 | p::l,x,h=>by
  simp only[lS,gB,dx] at h ⊢
  by_cases e:x=p.1
  ·subst e;simp
  ·rw[decide_eq_false e] at h ⊢
   simp only[cond_false,dt] at h ⊢
   exact xk h
theorem Aq:∀ {l:List (Int×Int)} {x:Int},lS l x=false→gB l x=l.length∧dx l x=0
 | [],x,_=>⟨rfl,rfl⟩
 | p::l,x,h=>by
  simp only[lS,gB,dx] at h ⊢
  by_cases e:x=p.1
  ·rw[decide_eq_true e] at h;simp at h
  ·rw[decide_eq_false e] at h ⊢
   simp only[cond_false] at h ⊢
   obtain⟨h1,h2⟩:=Aq h
   exact⟨by rw[h1];rfl,h2⟩
theorem uW (x:Int):∀ (l:List (Int×Int)) (n i:Nat),ee (.int .i64) (.int .i64 x) (bw n l) i=some (cond (lS l x) (some (i+gB l x,.int .i64 (dx l x))) none)
 | [],n,i=>rfl
 | p::l,n,i=>by
  simp only[bw,ee,Instr.sameNow,if_true,lS,gB,dx]
  by_cases e:x=p.1
  ·subst e;simp
  ·have:(x == p.1)=false:=by simpa using e
   rw[this,decide_eq_false e]
   simp only[cond_false]
   rw[uW x l (n+1) (i+1),show i+1+gB l x=i+(gB l x+1) by omega]
theorem BL:∀ (l:List (Int×Int)) (n j:Nat) (v:Int),(bw n l).modify j (fun e=>{ e with val:=.int .i64 v })=bw n (r5 l j v)
 | [],n,j,v=>by cases j<;>rfl
 | p::l,n,0,v=>rfl
 | p::l,n,j+1,v=>by
  simp only[bw,r5]
  rw[List.modify_succ_cons,BL l (n+1) j v]
theorem mN:∀ (l:List (Int×Int)) (j:Nat) (v:Int),(r5 l j v).length=l.length
 | [],_,_=>rfl
 | _::_,0,_=>rfl
 | _::l,j+1,v=>by simp only[r5,dE,mN l j v]
theorem I9:∀ (l:List (Int×Int)) (n j:Nat),j<l.length→(bw n l).findIdx? (fun e=>(e.born:Int) == ((n+j:Nat):Int))=some j
 | [],n,j,h=>by simp at h
 | p::l,n,0,h=>by
  simp only[bw,List.findIdx?_cons]
  simp
 | p::l,n,j+1,h=>by
  simp only[bw,List.findIdx?_cons]
  have:((n:Int) == ((n+(j+1):Nat):Int))=false:=by
   rw[beq_eq_false_iff_ne];omega
  rw[this]
  have ih:=I9 l (n+1) j (by simpa using h)
  rw[show n+1+j=n+(j+1) by omega] at ih
  rw[ih];rfl
structure abf (P:Program)(t k e:TypeId)(i:TypeInfo):Prop where
 map:P.underlying t=some (.map k e)
 key:P.underlying k=some (.int .i64)
 info:P.info? e=some i
 zero:i.zero=some (.int .i64 0)
theorem kT {P:Program}{t:TypeId}(h:gy P t=true):∃ k e i,abf P t k e i:=by
 unfold gy at h
 split at h
 ·rename_i k e ht
  simp only[be] at h
  obtain⟨⟨h1,h2⟩,h3⟩:=h
  split at h3
  ·rename_i i hi
   split at h3
   ·rename_i hz
    refine⟨k,e,i,ht,?_,hi,hz⟩
    unfold gG at h1
    split at h1
    ·assumption
    ·simp at h1
   ·simp at h3
  ·simp at h3
 ·simp at h
section
variable [aq]{P:Program}{w w' w0:World}{μ:Mu}{S:ar}{H Hh:Heap}{B:Nat}
omit [aq] in
theorem nX {b:Nat}(hb:B≤b)(o:Obj):Below B w (w.putObj b o):=
 ⟨rfl,rfl,rfl,by simp,fun k hk=>du (by omega)⟩
omit [aq] in
theorem Ext.map {i:Nat}{es:List (Int×Int)}:Ext μ S H μ S (aP H i (some (.map es))):=Ext.still' rfl
theorem Rel.map (R:Rel μ S H B w0 w){i b cp:Nat}{es:List (Int×Int)}(h:H i=some (.map es))(hm:μ i=some ⟨some b,cp,aT⟩):w.heap[b]? = some (.map (bw 0 es).toArray es.length):=by
 obtain⟨l,h1,h2⟩:=R.obj i _ h
 rw[hm] at h1;cases h1
 obtain⟨b',q1,q2,q3,q4⟩:=h2
 cases q1
 exact q4
theorem Rel.FX (R:Rel μ S H B w0 w){i b cp:Nat}{es fs:List (Int×Int)}(h:H i=some (.map es))(hm:μ i=some ⟨some b,cp,aT⟩) :
  Rel μ S (aP H i (some (.map fs))) B w0 (w.putObj b (.map (bw 0 fs).toArray fs.length)):=by
 obtain⟨l,h1,h2⟩:=R.obj i _ h
 rw[hm] at h1;cases h1
 obtain⟨b',q1,q2,q3,q4⟩:=h2
 cases q1
 exact R.wr hm (.inl rfl) _ (nX (eI _) _) (by simp) (fun k hk=>du hk) Ext.map ⟨b,rfl,q2,q3,gn (R.lt hm rfl)⟩ (.inl rfl)
omit [aq] in
theorem bx {b:Nat}{es:Array MapEntry}{clock:Nat}(o:Obj)(hb:w.heap[b]? = some (.map es clock)):(setObj b o).run P w = .ok () (w.putObj b o):=run_setObj_map o hb
theorem D8 (R:Rel μ S H B w0 w){id:Nat}{t:TypeId}{out:Out}(h:nr P id t=some out)(hf:out.fresh H=true) :
  bQ P w w0 μ S H B (do pure (.value (← jn t none))) out:=by
 unfold nr at h
 cases hc:gy P t with
 | false=>
  rw[hc] at h
  obtain⟨_,rfl⟩:=ai h
  have hid:H id=none:=by simpa [Out.fresh] using hf
  obtain⟨h1,h2⟩:=R.new hid (.map #[] 0) (.cL []) ⟨some w.heap.size,0,aT⟩ rfl ⟨w.heap.size,#[],0,rfl,R.size,r8 R,alloc_heap_new _ _,rfl⟩
  refine⟨.value (.map (some w.heap.size)),_,w.alloc (.map #[] 0),_,?_,.inl rfl,h1,h2,?_⟩
  ·simp only[jn,al,ae,ap,run_newObj]
   rfl
  ·simp only[Out.res,VR]
   exact⟨w.heap.size,0,au _ _ _,fun o h=>by simp only[Out.heap] at h;rw[au] at h;cases h;rfl,rfl⟩
 | true=>
 rw[hc] at h
 simp only[cond_true,bj] at h
 subst h
 have hid:H id=none:=by simpa [Out.fresh] using hf
 obtain⟨h1,h2⟩:=R.new hid (.map #[] 0) (.map []) ⟨some w.heap.size,0,aT⟩ rfl ⟨w.heap.size,rfl,R.size,r8 R,alloc_heap_new _ _⟩
 refine⟨.value (.map (some w.heap.size)),_,w.alloc (.map #[] 0),_,?_,.inl rfl,h1,h2,?_⟩
 ·simp only[jn,al,ae,ap,run_newObj]
  rfl
 ·simp only[Out.res,VR]
  exact⟨w.heap.size,0,au _ _ _,fun o h=>by simp only[Out.heap] at h;rw[au] at h;cases h;rfl,rfl⟩
theorem zS (sub:∀ i o,Hh i=some o→H i=some o)(R:Rel μ S H B w0 w){t:TypeId}{x y:AV}{vx vy:Value}{out:Out}(hx:VR μ S H x vx)(hy:VR μ S H y vy)(h:jB P Hh t x y=some out) :
  bQ P w w0 μ S H B (do pure (.value (← il t vx vy))) out:=by
 unfold jB at h
 split at h
 case h_2=>simp at h
 rename_i j k
 split at h
 case h_2=>simp at h
 rename_i es hH
 obtain⟨hii,rfl⟩:=ai h
 obtain⟨kt,et,inf,M⟩:=kT hii
 have hHj:=sub _ _ hH
 simp only[VR] at hx hy
 obtain⟨b,cp,hm,_,rfl⟩:=hx
 subst hy
 have hb:=R.map hHj hm
 have hg:(getObj b).run P w = .ok (.map (bw 0 es).toArray es.length) w:=bi hb
 have hck:(bm false 10000 kt (.int .i64 k)).run P w = .ok () w:=run_checkKey (d:=.int .i64) M.key (show IsKey (.int .i64) (.int .i64 k) from rfl) false 9999
 have hfk:=run_findKey (P:=P) (w:=w) (k:=.int .i64 k) M.key (uW k es 0 0)
 have hz:(zeroValue et).run P w = .ok (.int .i64 0) w:=oC M.info M.zero
 refine⟨.value (.tuple #[.int .i64 (dx es k),.int .i64 ((gB es k:Nat):Int)]),_,w.putObj b (.map (bw 0 (GH es k)).toArray (GH es k).length),μ,?_,.inl rfl,R.FX hHj hm,Ext.map,?_⟩
 ·cases hh:lS es k with
  | true=>
   rw[hh] at hfk
   simp only[cond_true,eK] at hfk
   have hat:=xk hh
   have hget:(bw 0 es)[gB es k]? = some ⟨.int .i64 k,.int .i64 (dx es k),gB es k⟩:=by rw[sN,hat];simp
   have hme:GH es k=es:=by unfold GH;rw[hh];rfl
   have hks:(cd (.int .i64 k) (.int .i64 k)).run P w = .ok (.int .i64 k) w:=by simp[cd,dv]
   have hmod:(bw 0 es).toArray.modify (gB es k) (fun e=>{ e with key:=.int .i64 k })=(bw 0 es).toArray:=by
    apply aw
    rw[dp]
    apply fj
    intro q
    rw[dd]
    by_cases e:gB es k=q
    ·subst e;simp[hget]
    ·simp[e]
   simp only[il,al,aI M.map,ae,hg,hck,hfk,ik,hget,eJ,fx,hks,hmod,bx _ hb,ap,hme,goInt]
  | false=>
   rw[hh] at hfk
   simp only[cond_false] at hfk
   obtain⟨e1,e2⟩:=Aq hh
   have hme:GH es k=es++[(k,0)]:=by unfold GH;rw[hh];rfl
   have hpush:(bw 0 es).toArray.push ⟨.int .i64 k,.int .i64 0,es.length⟩=(bw 0 (es++[(k,0)])).toArray:=by
    apply aw
    rw[kZ]
    simp
   simp only[il,al,aI M.map,ae,hg,hck,hfk,hz,hpush,bx _ hb,ap,hme,goInt,e1,e2,List.length_append,dE,List.length_nil]
 ·simp only[Out.res,VR,aH]
  exact⟨_,rfl,_,_,rfl,rfl,_,_,rfl,rfl,rfl⟩
theorem vN (sub:∀ i o,Hh i=some o→H i=some o)(R:Rel μ S H B w0 w){t:TypeId}{x y z:AV}{vx vy vz:Value}{out:Out}(hx:VR μ S H x vx)(hy:VR μ S H y vy)(hz:VR μ S H z vz)
  (h:ga Hh x y z=some out) (hk:out.ok=true) :
  bQ P w w0 μ S H B (do Instr.entryStore t vx vy vz;pure .skip) out:=by
 unfold ga at h
 split at h
 case h_2=>simp at h
 rename_i j s v
 split at h
 case h_2=>simp at h
 rename_i es hH
 cases h
 simp only[Out.ok,be,decide_eq_true_eq] at hk
 have hHj:=sub _ _ hH
 simp only[VR] at hx hy hz
 obtain⟨b,cp,hm,_,rfl⟩:=hx
 subst hy hz
 have hb:=R.map hHj hm
 have hg:(getObj b).run P w = .ok (.map (bw 0 es).toArray es.length) w:=bi hb
 have hs:s=((0+s.toNat:Nat):Int):=by omega
 have hfi:(bw 0 es).toArray.findIdx? (fun e=>(e.born:Int) == s)=some s.toNat:=by
  have:=I9 es 0 s.toNat (by omega)
  rw[← hs] at this
  rw[List.findIdx?_toArray]
  exact this
 have hmod:(bw 0 es).toArray.modify s.toNat (fun e=>{ e with val:=.int .i64 v })=(bw 0 (r5 es s.toNat v)).toArray:=by
  apply aw
  rw[dp,BL]
 refine⟨.skip,undef,w.putObj b (.map (bw 0 (r5 es s.toNat v)).toArray (r5 es s.toNat v).length),μ,?_,.inr ⟨rfl,rfl⟩,R.FX hHj hm,Ext.map,by simp only[Out.res,VR]⟩
 rw[mN]
 simp only[Instr.entryStore,al,ae,hg,asInt,asIntOf,Sem.run_map,ap,hfi,hmod,bx _ hb]
omit [aq] in
theorem sG {α β:Type}(f:α→β):∀ (l:List α) (i:Nat),(l.eraseIdx i).map f=(l.map f).eraseIdx i
 | [],_=>rfl
 | _::_,0=>rfl
 | a::l,i+1=>by simp only[gg,ka,sG f l i]
omit [aq] in
theorem mD {k:TypeId}(h:je P k=true):∃ (fs:Array Field) (f g q:Field),P.underlying k=some (.struct fs)∧P.stoodInHeld k=false∧fs.toList=[f,g,q]∧(f.name == "_")=false∧(g.name == "_")=false∧(q.name == "_")=false ∧
  (P.underlying f.type=some (.int .i64)∧P.underlying g.type=some (.int .i64)∧P.underlying q.type=some (.int .i64))∧((∃ i,P.info? f.type=some i)∧(∃ i,P.info? g.type=some i)∧∃ i,P.info? q.type=some i)∧f.offset=0∧g.offset=1∧q.offset=2:=by
 have i64:∀ t,gG P t=true→P.underlying t=some (.int .i64):=fun t ht=>by
  unfold gG at ht
  split at ht
  ·assumption
  ·simp at ht
 unfold je at h
 split at h
 case h_2=>simp at h
 rename_i fs hfs
 rw[be] at h
 obtain⟨h1,h⟩:=h
 split at h
 case h_2=>simp at h
 rename_i f g q hl
 simp only[be,Bool.not_eq_true',Option.isSome_iff_exists] at h
 obtain⟨⟨⟨⟨⟨⟨⟨⟨⟨⟨⟨a1,a2⟩,a3⟩,a4⟩,a5⟩,a6⟩,a7⟩,a8⟩,a9⟩,b1⟩,b2⟩,b3⟩:=h
 exact⟨fs,f,g,q,hfs,by simpa using h1,hl,a1,a2,a3,⟨i64 _ a4,i64 _ a5,i64 _ a6⟩,⟨a7,a8,a9⟩,ba b1,ba b2,ba b3⟩
abbrev a3 (x:K3):AV:=.agg [.lit (.int .i64 x.1),.lit (.int .i64 x.2.1),.lit (.int .i64 x.2.2)]
omit [aq] in
theorem Vi (μ:Mu)(S:ar)(H:Heap)(x:K3):VR μ S H (a3 x) (xS x):=by
 simp only[VR]
 exact⟨_,rfl,by simp[aH,VR]⟩
omit [aq] in
theorem Pz {x:K3}{v:Value}(h:VR μ S H (a3 x) v):v=xS x:=by
 simp only[VR] at h
 obtain⟨us,rfl,h2⟩:=h
 simp only[aH,VR] at h2
 unfold xS
 congr 1
 apply aw
 obtain⟨_,_,h3,rfl,_,_,h4,rfl,_,_,h5,rfl,h6⟩:=h2
 rw[h3,h4,h5,h6]
omit [aq] in
theorem adq {k:TypeId}(h:je P k=true)(x y:K3):TL P 2 k (a3 x) (a3 y)=some (k3 x y):=by
 obtain⟨fs,f,g,q,h1,h2,h3,n1,n2,n3,⟨u1,u2,u3⟩,⟨⟨i1,j1⟩,⟨i2,j2⟩,⟨i3,j3⟩⟩,o1,o2,o3⟩:=mD h
 have c1:∀ z:K3,cut P f.type [.lit (.int .i64 z.1),.lit (.int .i64 z.2.1),.lit (.int .i64 z.2.2)] f.offset=some (.lit (.int .i64 z.1)):=fun z=>by unfold cut;rw[u1,j1,o1];rfl
 have c2:∀ z:K3,cut P g.type [.lit (.int .i64 z.1),.lit (.int .i64 z.2.1),.lit (.int .i64 z.2.2)] g.offset=some (.lit (.int .i64 z.2.1)):=fun z=>by unfold cut;rw[u2,j2,o2];rfl
 have c3:∀ z:K3,cut P q.type [.lit (.int .i64 z.1),.lit (.int .i64 z.2.1),.lit (.int .i64 z.2.2)] q.offset=some (.lit (.int .i64 z.2.2)):=fun z=>by unfold cut;rw[u3,j3,o3];rfl
 have e:∀ (t:TypeId) (a b:Int),P.underlying t=some (.int .i64)→TL P 1 t (.lit (.int .i64 a)) (.lit (.int .i64 b))=some (decide (a=b)):=fun t a b ht=>by
  simp only[TL,eqV,ht,decide_true,cond_true]
 show eqV P (TL P 1) k _ _=_
 simp only[eqV,h1,h2,cond_false,h3,Zt,n1,n2,n3,c1,c2,c3,e _ _ _ u1,e _ _ _ u2,e _ _ _ u3]
 rfl
omit [aq] in
theorem Ul {k:TypeId}(h:je P k=true)(x y:K3):(Op.equal k (xS x) (xS y)).run P w = .ok (k3 x y) w:=
 G9 (μ:=fun _=>none) (S:=fun _=>none) (H:=fun _=>none) 2 Op.maxDepth k _ _ _ _ _ (by decide) (adq h x y) (Vi _ _ _ x) (Vi _ _ _ y)
omit [aq] in
theorem Si {k:TypeId}(h:je P k=true)(x:K3)(e:Bool)(n:Nat):(bm e (n+1+1) k (xS x)).run P w = .ok () w:=by
 obtain⟨fs,f,g,q,h1,h2,h3,n1,n2,n3,⟨u1,u2,u3⟩,⟨⟨i1,j1⟩,⟨i2,j2⟩,⟨i3,j3⟩⟩,o1,o2,o3⟩:=mD h
 have pt:∀ (t:TypeId) (off:Nat) (n:Int),cut P t [.lit (.int .i64 x.1),.lit (.int .i64 x.2.1),.lit (.int .i64 x.2.2)] off=some (.lit (.int .i64 n))→(part t #[.int .i64 x.1,.int .i64 x.2.1,.int .i64 x.2.2] off).run P w = .ok (.int .i64 n) w:=fun t off n hc=>by
  obtain⟨u,k1,k2⟩:=l6 (P:=P) (w:=w) (μ:=fun _=>none) (S:=fun _=>none) (H:=fun _=>none) (vs:=#[.int .i64 x.1,.int .i64 x.2.1,.int .i64 x.2.2]) (by simp[aH,VR]) hc
  simp only[VR] at k2
  rw[k1,k2]
 have c1:=pt f.type f.offset x.1 (by unfold cut;rw[u1,j1,o1];rfl)
 have c2:=pt g.type g.offset x.2.1 (by unfold cut;rw[u2,j2,o2];rfl)
 have c3:=pt q.type q.offset x.2.2 (by unfold cut;rw[u3,j3,o3];rfl)
 have ck:∀ (t:TypeId) (i:Int),P.underlying t=some (.int .i64)→(bm e (n+1) t (.int .i64 i)).run P w = .ok () w:=fun t i ht=>run_checkKey (d:=.int .i64) ht (show IsKey (.int .i64) (.int .i64 i) from rfl) e n
 have m1:f.name ≠ "_" := by simpa using n1
 have m2:g.name ≠ "_" := by simpa using n2
 have m3:q.name ≠ "_" := by simpa using n3
 show (bm e (n+1+1) k (.agg #[.int .i64 x.1,.int .i64 x.2.1,.int .i64 x.2.2])).run P w=_
 rw[bm]
 simp only[al,aI h1,ae]
 rw[← Array.forIn_toList,h3]
 simp only[List.forIn_cons,List.forIn_nil,if_pos m1,if_pos m2,if_pos m3,al,c1,c2,c3,ae,ck _ _ u1,ck _ _ u2,ck _ _ u3,ap]
omit [aq] in
theorem G5 {k:TypeId}(h:je P k=true)(x:K3)(e:Bool):(bm e 10000 k (xS x)).run P w = .ok () w:=Si h x e 9998
omit [aq] in
theorem aa9 (x:K3):(cd (xS x) (xS x)).run P w = .ok (xS x) w:=by
 have hb:dv (9999+1) (xS x) (xS x)=true:=by
  simp[xS,dv]
 have hb:dv 10000 (xS x) (xS x)=true:=hb
 unfold cd
 rw[if_pos hb];rfl
def mB:List (K3×Int)→K3→Option Nat
 | [],_=>none
 | p::l,x=>cond (k3 x p.1) (some 0) ((mB l x).map (· + 1))
omit [aq] in
theorem tH {k:TypeId}(h:je P k=true)(x:K3):∀ (ents:List MapEntry) (es:List (K3×Int)) (i:Nat),ents.map (fun e=>(e.key,e.val))=es.map RH →
  (gk k (xS x) ents i).run P w = .ok ((mB es x).map fun j=>(i+j,.int .i64 (aM es x))) w
 | [],[],i,_=>by simp[gk,mB]
 | e::ents,[],i,he=>by simp at he
 | [],p::es,i,he=>by simp at he
 | e::ents,p::es,i,he=>by
  simp only[ka,List.cons.injEq,RH,kb] at he
  obtain⟨⟨e1,e2⟩,e3⟩:=he
  have ih:=tH h x ents es (i+1) e3
  unfold gk
  simp only[al,e1,Ul h x p.1,ae]
  cases hk:k3 x p.1 with
  | true=>simp[mB,aM,hk,e2]
  | false=>
   simp only[cf,if_false,ih,mB,aM,hk,cond_false,Option.map_map]
   congr 2
   funext j
   simp only[Function.comp]
   rw[show i+1+j=i+(j+1) by omega]
omit [aq] in
theorem xg {k:TypeId}(h:je P k=true)(x:K3)(ents:List MapEntry)(es:List (K3×Int))(he:ents.map (fun e=>(e.key,e.val))=es.map RH) :
  (Instr.findKey k (xS x) ents).run P w = .ok ((mB es x).map fun j=>(j,.int .i64 (aM es x))) w:=by
 obtain⟨fs,f,g,q,h1,_⟩:=mD h
 have ha:=tH (w:=w) h x ents es 0 he
 simp only[eK] at ha
 unfold Instr.findKey
 simp only[al,aI h1,ae]
 cases ents with
 | nil=>
  have:es=[]:=by simpa using he.symm
  subst this
  simp[ee,mB]
 | cons e ents=>
  have hn:ee (.struct fs) (xS x) (e::ents) 0=none:=by
   simp[ee,Instr.sameNow]
  rw[hn];exact ha
omit [aq] in
theorem DQ:∀ (es:List (K3×Int)) (x:K3),bg es x=(mB es x).isSome
 | [],_=>rfl
 | p::l,x=>by
  simp only[bg,mB]
  cases k3 x p.1 with
  | true=>rfl
  | false=>simp[DQ l x]
omit [aq] in
theorem dR {x y:K3}(h:k3 x y=true):x=y:=by
 simp only[k3,be,decide_eq_true_eq,and_true] at h
 exact Prod.ext h.1 (Prod.ext h.2.1 h.2.2)
omit [aq] in
theorem sW:∀ {es:List (K3×Int)} {x:K3} {j:Nat},mB es x=some j→es[j]? = some (x,aM es x)∧(∀ v,cU es x v=es.set j (x,v))∧dN es x=es.eraseIdx j
 | [],_,_,h=>by simp[mB] at h
 | p::l,x,j,h=>by
  simp only[mB] at h
  cases hk:k3 x p.1 with
  | true=>
   rw[hk] at h
   simp only[cond_true,bj] at h
   subst h
   have:=dR hk
   refine⟨?_,fun v=>?_,?_⟩
   ·simp only[aM,hk,cond_true,List.getElem?_cons_zero]
    rw[this]
   ·simp only[cU,hk,cond_true,List.set_cons_zero]
   ·simp only[dN,hk,cond_true,List.eraseIdx_cons_zero]
  | false=>
   rw[hk] at h
   simp only[cond_false,h9] at h
   obtain⟨i,hi,rfl⟩:=h
   obtain⟨a,b,c⟩:=sW hi
   refine⟨?_,fun v=>?_,?_⟩
   ·simp only[aM,hk,cond_false,dt];exact a
   ·simp only[cU,hk,cond_false,List.set_cons_succ,b v]
   ·simp only[dN,hk,cond_false,gg,c]
omit [aq] in
theorem nI:∀ {es:List (K3×Int)} {x:K3},mB es x=none→(∀ v,cU es x v=es++[(x,v)])∧dN es x=es∧aM es x=0
 | [],_,_=>⟨fun _=>rfl,rfl,rfl⟩
 | p::l,x,h=>by
  simp only[mB] at h
  cases hk:k3 x p.1 with
  | true=>rw[hk] at h;simp at h
  | false=>
   rw[hk] at h
   simp only[cond_false,Option.map_eq_none_iff] at h
   obtain⟨a,b,c⟩:=nI h
   refine⟨fun v=>?_,?_,?_⟩
   ·simp only[cU,hk,cond_false,a v,List.cons_append]
   ·simp only[dN,hk,cond_false,b]
   ·simp only[aM,hk,cond_false,c]
omit [aq] in
theorem l7 {t:TypeId}(h:jT P t=true):∃ k e i,P.underlying t=some (.map k e)∧je P k=true∧P.info? e=some i∧i.zero=some (.int .i64 0):=by
 unfold jT at h
 split at h
 case h_2=>simp at h
 rename_i k e ht
 simp only[be] at h
 obtain⟨⟨h1,h2⟩,h3⟩:=h
 split at h3
 case h_2=>simp at h3
 rename_i i hi
 split at h3
 case h_2=>simp at h3
 rename_i hz
 exact⟨k,e,i,ht,h1,hi,hz⟩
omit [aq] in
theorem Ext.cL {i:Nat}{es:List (K3×Int)}:Ext μ S H μ S (aP H i (some (.cL es))):=Ext.still' rfl
theorem Rel.cL (R:Rel μ S H B w0 w){i b cp:Nat}{es:List (K3×Int)}(h:H i=some (.cL es))(hm:μ i=some ⟨some b,cp,aT⟩) :
  ∃ ents ck,w.heap[b]? = some (.map ents ck)∧ents.toList.map (fun e=>(e.key,e.val))=es.map RH:=by
 obtain⟨l,h1,h2⟩:=R.obj i _ h
 rw[hm] at h1;cases h1
 obtain⟨b',ents,ck,q1,q2,q3,q4,q5⟩:=h2
 cases q1
 exact⟨ents,ck,q4,q5⟩
theorem Rel.uY (R:Rel μ S H B w0 w){i b cp:Nat}{es fs:List (K3×Int)}(h:H i=some (.cL es))(hm:μ i=some ⟨some b,cp,aT⟩){ents:Array MapEntry}{ck:Nat}(he:ents.toList.map (fun e=>(e.key,e.val))=fs.map RH) :
  Rel μ S (aP H i (some (.cL fs))) B w0 (w.putObj b (.map ents ck)):=by
 obtain⟨l,h1,h2⟩:=R.obj i _ h
 rw[hm] at h1;cases h1
 obtain⟨b',_,_,q1,q2,q3,q4,q5⟩:=h2
 cases q1
 exact R.wr hm (.inl rfl) _ (nX (eI _) _) (by simp) (fun k hk=>du hk) Ext.cL ⟨b,ents,ck,rfl,q2,q3,gn (R.lt hm rfl),he⟩ (.inl rfl)
theorem wE (sub:∀ i o,Hh i=some o→H i=some o)(R:Rel μ S H B w0 w){t:TypeId}{j:Nat}{x y z v:Int}{vx vy vz:Value}{out:Out}(hx:VR μ S H (.mp j) vx)(hy:VR μ S H (.agg [.lit (.int .i64 x),.lit (.int .i64 y),.lit (.int .i64 z)]) vy)(hz:VR μ S H (.lit (.int .i64 v)) vz)
  (h:(match Hh j with
   | some (.cL es)=>cond (jT P t) (some (.wr true j (.cL (cU es (x,(y,z)) v)) (.lit undef))) none
   | _=>none)=some out) :
  bQ P w w0 μ S H B (do db t vx vy vz;pure .skip) out:=by
 split at h
 case h_2=>simp at h
 rename_i es hH
 obtain⟨hii,rfl⟩:=ai h
 obtain⟨kt,et,inf,m1,m2,m3,m4⟩:=l7 hii
 have hHj:=sub _ _ hH
 have hy:=Pz (x:=(x,(y,z))) hy
 simp only[VR] at hx hz
 obtain⟨b,cp,hm,_,rfl⟩:=hx
 subst hy hz
 obtain⟨ents,ck,hb,he⟩:=R.cL hHj hm
 have hg:(getObj b).run P w = .ok (.map ents ck) w:=bi hb
 have hck:=G5 (w:=w) m2 (x,(y,z)) false
 have hfk:=xg (w:=w) m2 (x,(y,z)) ents.toList es he
 cases ha:mB es (x,(y,z)) with
 | some i=>
  rw[ha] at hfk
  obtain⟨s1,s2,s3⟩:=sW ha
  have hget:(ents.toList.map fun e=>(e.key,e.val))[i]? = some (RH ((x,(y,z)),aM es (x,(y,z)))):=by rw[he,da,s1];rfl
  rw[da] at hget
  obtain⟨e0,he0,he1⟩:=h9.1 hget
  simp only[RH,kb] at he1
  have hget':ents[i]? = some e0:=by rw[← Array.getElem?_toList];exact he0
  have hks:=aa9 (P:=P) (w:=w) (x,(y,z))
  have hil:i<ents.toList.length:=(cn.1 he0).1
  refine⟨.skip,undef,w.putObj b (.map (ents.modify i fun e=>{ e with key:=xS (x,(y,z)),val:=.int .i64 v }) ck),μ,?_,.inr ⟨rfl,rfl⟩,R.uY hHj hm ?_,Ext.cL,by simp only[Out.res,VR]⟩
  ·simp only[db,al,aI m1,ae,hg,hck,hfk,eJ,hget',fx,he1.1,hks,bx _ hb,ap]
  ·rw[s2,dp]
   apply fj
   intro n
   rw[da,dd,da,List.getElem?_set]
   have hn:(ents.toList.map fun e=>(e.key,e.val))[n]? = (es.map RH)[n]?:=by rw[he]
   rw[da,da] at hn
   by_cases hin:i=n
   ·subst hin
    rw[he0]
    have hlt:i<es.length:=(cn.1 s1).1
    simp[hlt,RH]
   ·simp only[hin,if_false]
    simpa using hn
 | none=>
  rw[ha] at hfk
  obtain⟨s1,s2,s3⟩:=nI ha
  refine⟨.skip,undef,w.putObj b (.map (ents.push ⟨xS (x,(y,z)),.int .i64 v,ck⟩) (ck+1)),μ,?_,.inr ⟨rfl,rfl⟩,R.uY hHj hm ?_,Ext.cL,by simp only[Out.res,VR]⟩
  ·simp only[db,al,aI m1,ae,hg,hck,hfk,Option.map_none,bx _ hb,ap]
  ·rw[s1,Array.toList_push,List.map_append,List.map_append,he]
   rfl
theorem Ed (sub:∀ i o,Hh i=some o→H i=some o)(R:Rel μ S H B w0 w){t:TypeId}{ok:Bool}{j:Nat}{x y z:Int}{vx vy:Value}{out:Out}(hx:VR μ S H (.mp j) vx)(hy:VR μ S H (.agg [.lit (.int .i64 x),.lit (.int .i64 y),.lit (.int .i64 z)]) vy)
  (h:(match Hh j with
   | some (.cL es)=>cond (jT P t) (some (.val true (cond ok (.uo [.lit (.int .i64 (aM es (x,(y,z)))),.lit (.bool (bg es (x,(y,z))))]) (.lit (.int .i64 (aM es (x,(y,z)))))))) none
   | _=>none)=some out) :
  bQ P w w0 μ S H B (do pure (.value (← dj t vx vy ok))) out:=by
 split at h
 case h_2=>simp at h
 rename_i es hH
 obtain⟨hii,rfl⟩:=ai h
 obtain⟨kt,et,inf,m1,m2,m3,m4⟩:=l7 hii
 have hHj:=sub _ _ hH
 have hy:=Pz (x:=(x,(y,z))) hy
 simp only[VR] at hx
 obtain⟨b,cp,hm,_,rfl⟩:=hx
 subst hy
 obtain⟨ents,ck,hb,he⟩:=R.cL hHj hm
 have hg:(getObj b).run P w = .ok (.map ents ck) w:=bi hb
 have hck:=G5 (w:=w) m2 (x,(y,z)) ents.isEmpty
 have hfk:=xg (w:=w) m2 (x,(y,z)) ents.toList es he
 have hz:(zeroValue et).run P w = .ok (.int .i64 0) w:=oC m3 m4
 have hh:=DQ es (x,(y,z))
 have key:(dj t (.map (some b)) (xS (x,(y,z))) ok).run P w = .ok (if ok then .tuple #[.int .i64 (aM es (x,(y,z))),.bool (bg es (x,(y,z)))] else .int .i64 (aM es (x,(y,z)))) w:=by
  cases ha:mB es (x,(y,z)) with
  | some i=>
   rw[ha] at hfk hh
   simp only[dj,al,aI m1,ae,hg,hck,hfk,eJ,ap,hh,Option.isSome_some]
  | none=>
   rw[ha] at hfk hh
   obtain⟨_,_,s3⟩:=nI ha
   simp only[dj,al,aI m1,ae,hg,hck,hfk,Option.map_none,hz,ap,hh,fa,s3]
 cases ok with
 | true=>
  refine aD R (u:=.tuple #[.int .i64 (aM es (x,(y,z))),.bool (bg es (x,(y,z)))]) (by rw[key];rfl) ?_
  simp only[Out.res,cond_true,VR,aH]
  exact⟨_,rfl,_,_,rfl,rfl,_,_,rfl,rfl,rfl⟩
 | false=>
  refine aD R (u:=.int .i64 (aM es (x,(y,z)))) (by rw[key];rfl) ?_
  simp only[Out.res,cond_false,VR]
theorem HD (sub:∀ i o,Hh i=some o→H i=some o)(R:Rel μ S H B w0 w){t t2 ty:TypeId}{x y:AV}{vx vy:Value}{out:Out}(hx:VR μ S H x vx)(hy:VR μ S H y vy)(h:qZ P Hh t x y=some out) :
  bQ P w w0 μ S H B (do pure (.value (← ib #[t,t2] ty #[vx,vy]))) out:=by
 unfold qZ at h
 split at h
 case h_2=>simp at h
 rename_i j x y z
 split at h
 case h_2=>simp at h
 rename_i es hH
 obtain⟨hii,rfl⟩:=ai h
 obtain⟨kt,et,inf,m1,m2,m3,m4⟩:=l7 hii
 have hHj:=sub _ _ hH
 have hy:=Pz (x:=(x,(y,z))) hy
 simp only[VR] at hx
 obtain⟨b,cp,hm,_,rfl⟩:=hx
 subst hy
 obtain⟨ents,ck,hb,he⟩:=R.cL hHj hm
 have hg:(getObj b).run P w = .ok (.map ents ck) w:=bi hb
 have hck:=G5 (w:=w) m2 (x,(y,z)) ents.isEmpty
 have hfk:=xg (w:=w) m2 (x,(y,z)) ents.toList es he
 cases ha:mB es (x,(y,z)) with
 | some i=>
  rw[ha] at hfk
  obtain⟨s1,s2,s3⟩:=sW ha
  refine⟨.value (.tuple #[]),_,w.putObj b (.map (ents.eraseIdxIfInBounds i) ck),μ,?_,.inl rfl,R.uY hHj hm ?_,Ext.cL,by simp only[Out.res,VR]⟩
  ·simp[ib,al,aI m1,ae,hg,hck,hfk,bx _ hb]
  ·have hil:i<ents.size:=by
    have hlt:i<es.length:=(cn.1 s1).1
    have:=congrArg ft he
    simp only[List.length_map,Array.length_toList] at this
    omega
   rw[s3,Array.eraseIdxIfInBounds,dif_pos hil,Array.toList_eraseIdx,sG,sG,he]
 | none=>
  rw[ha] at hfk
  obtain⟨s1,s2,s3⟩:=nI ha
  refine⟨.value (.tuple #[]),_,w.putObj b (.map ents ck),μ,?_,.inl rfl,R.uY hHj hm ?_,Ext.cL,by simp only[Out.res,VR]⟩
  ·simp[ib,al,aI m1,ae,hg,hck,hfk,bx _ hb]
  ·rw[s2];exact he
theorem xZ (sub:∀ i o,Hh i=some o→H i=some o)(R:Rel μ S H B w0 w){t:TypeId}{x y z:AV}{vx vy vz:Value}{out:Out}(hx:VR μ S H x vx)(hy:VR μ S H y vy)(hz:VR μ S H z vz)(h:gR P Hh t x y z=some out) :
  bQ P w w0 μ S H B (do db t vx vy vz;pure .skip) out:=by
 unfold gR at h
 split at h
 case h_3=>simp at h
 case h_2=>exact wE sub R hx hy hz h
 rename_i j k v
 split at h
 case h_2=>simp at h
 rename_i es hH
 obtain⟨hii,rfl⟩:=ai h
 obtain⟨kt,et,inf,M⟩:=kT hii
 have hHj:=sub _ _ hH
 simp only[VR] at hx hy hz
 obtain⟨b,cp,hm,_,rfl⟩:=hx
 subst hy hz
 have hb:=R.map hHj hm
 have hg:(getObj b).run P w = .ok (.map (bw 0 es).toArray es.length) w:=bi hb
 have hck:(bm false 10000 kt (.int .i64 k)).run P w = .ok () w:=run_checkKey (d:=.int .i64) M.key (show IsKey (.int .i64) (.int .i64 k) from rfl) false 9999
 have hfk:=run_findKey (P:=P) (w:=w) (k:=.int .i64 k) M.key (uW k es 0 0)
 refine⟨.skip,undef,w.putObj b (.map (bw 0 (lR es k v)).toArray (lR es k v).length),μ,?_,.inr ⟨rfl,rfl⟩,R.FX hHj hm,Ext.map,by simp only[Out.res,VR]⟩
 cases hh:lS es k with
 | true=>
  rw[hh] at hfk
  simp only[cond_true,eK] at hfk
  have hat:=xk hh
  have hget:(bw 0 es)[gB es k]? = some ⟨.int .i64 k,.int .i64 (dx es k),gB es k⟩:=by rw[sN,hat];simp
  have hme:lR es k v=r5 es (gB es k) v:=by unfold lR;rw[hh];rfl
  have hks:(cd (.int .i64 k) (.int .i64 k)).run P w = .ok (.int .i64 k) w:=by simp[cd,dv]
  have hmod:(bw 0 es).toArray.modify (gB es k) (fun e=>{ e with key:=.int .i64 k,val:=.int .i64 v })=(bw 0 (r5 es (gB es k) v)).toArray:=by
   apply aw
   rw[dp,← BL]
   apply fj
   intro q
   rw[dd,dd]
   by_cases e:gB es k=q
   ·subst e;simp[hget]
   ·simp[e]
  simp only[db,al,aI M.map,ae,hg,hck,hfk,ik,hget,eJ,fx,hks,hmod,bx _ hb,ap,hme,mN]
 | false=>
  rw[hh] at hfk
  simp only[cond_false] at hfk
  have hme:lR es k v=es++[(k,v)]:=by unfold lR;rw[hh];rfl
  have hpush:(bw 0 es).toArray.push ⟨.int .i64 k,.int .i64 v,es.length⟩=(bw 0 (es++[(k,v)])).toArray:=by
   apply aw
   rw[kZ]
   simp
  simp only[db,al,aI M.map,ae,hg,hck,hfk,hpush,bx _ hb,ap,hme,List.length_append,dE,List.length_nil]
theorem HV (sub:∀ i o,Hh i=some o→H i=some o)(R:Rel μ S H B w0 w){t:TypeId}{ok:Bool}{x y:AV}{vx vy:Value}{out:Out}(hx:VR μ S H x vx)(hy:VR μ S H y vy)(h:rM P Hh t ok x y=some out) :
  bQ P w w0 μ S H B (do pure (.value (← dj t vx vy ok))) out:=by
 unfold rM at h
 split at h
 case h_3=>simp at h
 case h_2=>exact Ed sub R hx hy h
 rename_i j k
 split at h
 case h_2=>simp at h
 rename_i es hH
 obtain⟨hii,rfl⟩:=ai h
 obtain⟨kt,et,inf,M⟩:=kT hii
 have hHj:=sub _ _ hH
 simp only[VR] at hx hy
 obtain⟨b,cp,hm,_,rfl⟩:=hx
 subst hy
 have hb:=R.map hHj hm
 have hg:(getObj b).run P w = .ok (.map (bw 0 es).toArray es.length) w:=bi hb
 have hck:∀ e,(bm e 10000 kt (.int .i64 k)).run P w = .ok () w:=fun e=>run_checkKey (d:=.int .i64) M.key (show IsKey (.int .i64) (.int .i64 k) from rfl) e 9999
 have hfk:=run_findKey (P:=P) (w:=w) (k:=.int .i64 k) M.key (uW k es 0 0)
 have hz:(zeroValue et).run P w = .ok (.int .i64 0) w:=oC M.info M.zero
 refine aD R (u:=if ok then .tuple #[.int .i64 (dx es k),.bool (lS es k)] else .int .i64 (dx es k)) ?_ ?_
 ·cases hh:lS es k with
  | true=>
   rw[hh] at hfk
   simp only[cond_true] at hfk
   simp only[dj,al,aI M.map,ae,hg,hck,hfk,ap]
  | false=>
   rw[hh] at hfk
   simp only[cond_false] at hfk
   obtain⟨e1,e2⟩:=Aq hh
   simp only[dj,al,aI M.map,ae,hg,hck,hfk,hz,ap,e2]
 ·cases ok with
  | true=>
   simp only[cond_true,if_true,VR,aH]
   exact⟨_,rfl,_,_,rfl,rfl,_,_,rfl,rfl,rfl⟩
  | false=>simp only[cond_false,cf,if_false,VR]
end
open Go Go.RowKit
section
variable [aq]{P:Program}{w w0:World}{μ:Mu}{S:ar}{H Hh:Heap}{B:Nat}
theorem uV (sub:∀ i o,Hh i=some o→H i=some o)(R:Rel μ S H B w0 w){t ty:TypeId}{x:AV}{v:Value}{out:Out}(hx:VR μ S H x v)(h:LO P Hh t x=some out) :
  bQ P w w0 μ S H B (do pure (.value (← eQ #[t] ty #[v]))) out:=by
 unfold LO at h
 split at h
 ·simp only[VR] at hx;subst hx
  split at h
  ·rename_i ht;cases h
   exact aD R (by simp[eQ,aI ht,goInt];rfl) (by simp only[Out.res,VR])
  ·simp at h
 ·rename_i e xs
  simp only[VR,Rd] at hx
  obtain⟨ao,cap,e1,h2,h3⟩:=hx
  cases e1
  split at h
  ·rename_i _ ht;cases h
   exact aD R (by simp[eQ,aI ht,goInt];rfl) (by simp only[Out.res,VR])
  ·simp at h
 ·rename_i j g
  split at h
  ·rename_i _ _ t' e g' xs ht hH
   obtain⟨hg,rfl⟩:=ai h
   have hgg:=ba hg
   simp only[VR] at hx
   obtain⟨_,l,hm,h2⟩:=hx
   have hv:=(h2 _ _ _ _ (sub _ _ hH)).2 hgg
   subst hv
   exact aD R (by simp[eQ,aI ht,goInt];rfl) (by simp only[Out.res,VR])
  ·simp at h
 ·simp only[VR] at hx;subst hx
  split at h
  ·rename_i _ ht;cases h
   exact aD R (by simp[eQ,aI ht,goInt];rfl) (by simp only[Out.res,VR])
  ·simp at h
 ·simp at h
omit [aq] in
theorem uG {ρa:Operand→AV}{ρ:Operand→Value}(hρ:∀ x,VR μ S H (ρa x) (ρ x)):∀ (l:List Operand),aH μ S H (l.map ρa) (l.map ρ)
 | []=>by simp[aH]
 | x::l=>by simp only[ka,aH];exact⟨ρ x,_,rfl,hρ x,uG hρ l⟩
def K7 (P:Program)(μ:Mu)(w:World):Callee→Array Value→Result Next→Prop
 | .fn k,us,r=>r = .ok (.enter k us) w
 | .iK i,us,r=>∃ b c,μ i=some ⟨some b,c,aT⟩∧r=(Instr.yield b us).run P w
omit [aq] in
theorem NE {f:AV}{fv:Value}{args:List AV}{vs:List Value}{k:Callee}{as:List AV}{ty:TypeId}(hf:VR μ S H f fv)(ha:aH μ S H args vs)
  (h:zv P f args=some (.call k as)) :
  ∃ us:Array Value,K7 P μ w k us ((do let d ← gl fv vs.toArray;invoke d.target d.args:Sem Next).run P w)∧aH μ S H as us.toList:=by
 unfold zv at h
 split at h
 ·rename_i k' first caps
  split at h
  ·rename_i fn hfn
   split at h
   ·rename_i b hb
    cases hn:fn.name == "runtime.NumGoroutine" with
    | true=>rw[hn] at h;simp at h
    | false=>
     rw[hn] at h
     simp only[cond_false,bj,Out.call.injEq] at h
     obtain⟨rfl,rfl⟩:=h
     simp only[VR] at hf
     obtain⟨x,y,rfl,h1,h2⟩:=hf
     refine⟨x++vs.toArray++y,?_,?_⟩
     ·show _=_
      simp only[gl,al,ap,ae,invoke,callFunc,run_program,hfn,hn,cf,if_false,hb,Option.isNone_some]
     ·simp only[Array.toList_append]
      exact cl (cl h1 ha) h2
   ·simp at h
  ·simp at h
 ·simp only[bj,Out.call.injEq] at h
  obtain⟨rfl,rfl⟩:=h
  simp only[VR] at hf
  obtain⟨b,c,h1,_,rfl⟩:=hf
  refine⟨vs.toArray,⟨b,c,h1,?_⟩,by simpa using ha⟩
  simp[gl,invoke]
 ·simp at h
theorem wS (sub:∀ i o,Hh i=some o→H i=some o)(R:Rel μ S H B w0 w){ρa:Operand→AV}{ρ:Operand→Value}(hρ:∀ x,VR μ S H (ρa x) (ρ x))
  {id:Nat} {o:Oper} {out:Out} (h:sem P Hh id o ρa=some out) (hk:out.ok=true) (hf:out.fresh H=true) :
  bQ P w w0 μ S H B (execOp ρ o) out:=by
 obtain⟨dst,op,ty,pos,af,gd⟩:=o
 unfold sem at h
 cases op<;>simp only[reduceCtorEq] at h
 case move x=>cases h;exact⟨_,_,w,μ,rfl,.inl rfl,R,Ext.refl,hρ x⟩
 case assign x=>cases h;exact⟨_,_,w,μ,rfl,.inl rfl,R,Ext.refl,hρ x⟩
 case pick c a b=>
  split at h
  ·rename_i t hc
   cases h
   have hcv:=hρ c
   rw[hc] at hcv
   simp only[VR] at hcv
   refine⟨.value (if t then ρ a else ρ b),_,w,μ,?_,.inl rfl,R,Ext.refl,?_⟩
   ·simp only[execOp,hcv,asBool,al,ap,ae]
   ·cases t
    ·exact hρ b
    ·exact hρ a
  ·simp at h
 case alloc t=>exact L5 R h hf
 case box t x=>exact SG R (hρ x) h hf
 case load t a=>exact O2 sub R (hρ a) h hk
 case store t a x=>exact KN sub R (hρ a) (hρ x) h hk
 case fieldAddr s x f=>exact Mb sub R (hρ x) h
 case field s x f=>exact Px R (hρ x) h
 case nilCheck x=>exact Tu sub R (hρ x) h
 case binOp op t x y yt=>exact SW R (hρ x) (hρ y) h hk
 case unOp op t x=>exact Zk R (hρ x) h
 case makeInterface t x=>exact SD R (hρ x) h
 case typeAssert x s t ok=>exact Gw R (hρ x) h
 case convert s d x=>
  have hx:=hρ x
  split at h
  ·rename_i v hv
   rw[hv] at hx
   exact Rn R hx h
  ·exact Ut sub R hx h
 case build t parts=>
  have e:parts.map (fun (i,x)=>(i,ρ x))=(parts.toList.map fun p=>(p.1,ρ p.2)).toArray:=by apply aw;simp
  have:=L9 R hρ h
  rw[← e] at this
  exact this
 case buildSlice t n parts=>
  have e:parts.map (fun (i,x)=>(i,ρ x))=(parts.toList.map fun p=>(p.1,ρ p.2)).toArray:=by apply aw;simp
  have:=vw R hρ h hf
  rw[← e] at this
  exact this
 case makeSlice t l c=>exact Nt R (hρ l) (hρ c) h hk hf
 case slice t x lo hi mx=>exact GO sub R hρ h hk
 case range t x=>exact Ma R (hρ x) h hf
 case next x s=>exact NT sub R (hρ x) h
 case extract t i=>exact T9 R (hρ t) h
 case index t x i=>exact K2 R (hρ x) (hρ i) h hk
 case makeMap t r=>
  cases r with
  | none=>exact D8 R h hf
  | some _=>simp at h
 case mapEntry t m k=>exact zS sub R (hρ m) (hρ k) h
 case mapUpdate t m k x=>exact xZ sub R (hρ m) (hρ k) (hρ x) h
 case entryStore t m s x=>exact vN sub R (hρ m) (hρ s) (hρ x) h hk
 case lookup t x k ok=>exact HV sub R (hρ x) (hρ k) h
 case indexAddr t x i=>exact SH sub R (hρ x) (hρ i) h hk
 case makeFunc fn first caps=>
  cases h
  refine⟨.value (.func fn (first.map ρ) (caps.map ρ)),_,w,μ,rfl,.inl rfl,R,Ext.refl,?_⟩
  simp only[Out.res,Out.heap,VR]
  exact⟨_,_,rfl,by simpa using uG hρ first.toList,by simpa using uG hρ caps.toList⟩
 case call c=>
  obtain⟨callee,args,argTypes⟩:=c
  simp only at h
  split at h
  ·split at h
   ·rename_i t x ht hx
    have e1:argTypes = #[t]:=by apply aw;simpa using ht
    have e2:args = #[x]:=by apply aw;simpa using hx
    subst e1 e2
    obtain⟨n,u,w',μ',k1,k2⟩:=QG (ty:=ty) (uV:=fun hx h=>uV sub R hx h) sub R (hρ x) h
    refine⟨n,u,w',μ',?_,k2⟩
    rw[← k1]
    have e:(#[x]:Array Operand).map ρ = #[ρ x]:=by simp
    simp only[execOp,resolve,e,al,ap,ae,invoke,builtin]
   ·simp at h
  ·split at h
   ·rename_i t x ht hx
    have e1:argTypes = #[t]:=by apply aw;simpa using ht
    have e2:args = #[x]:=by apply aw;simpa using hx
    subst e1 e2
    obtain⟨n,u,w',μ',k1,k2⟩:=KX (P:=P) (ty:=ty) sub R (hρ x) h
    refine⟨n,u,w',μ',?_,k2⟩
    rw[← k1]
    have e:(#[x]:Array Operand).map ρ = #[ρ x]:=by simp
    simp only[execOp,resolve,e,al,ap,ae,invoke,builtin]
   ·simp at h
  ·split at h
   ·rename_i t t2 x y ht hx
    have e1:argTypes = #[t,t2]:=by apply aw;simpa using ht
    have e2:args = #[x,y]:=by apply aw;simpa using hx
    subst e1 e2
    obtain⟨n,u,w',μ',k1,k2⟩:=HD (P:=P) (t2:=t2) (ty:=ty) sub R (hρ x) (hρ y) h
    refine⟨n,u,w',μ',?_,k2⟩
    rw[← k1]
    have e:(#[x,y]:Array Operand).map ρ = #[ρ x,ρ y]:=by simp
    simp only[execOp,resolve,e,al,ap,ae,invoke,builtin]
   ·simp at h
  ·split at h
   ·rename_i t u x y ht hx
    obtain⟨htu,h2⟩:=aA h
    have htu:=ba htu
    subst htu
    have e1:argTypes = #[t,t]:=by apply aw;simpa using ht
    have e2:args = #[x,y]:=by apply aw;simpa using hx
    subst e1 e2
    obtain⟨n,u,w',μ',k1,k2⟩:=Eo (P:=P) (ty:=ty) sub R (hρ x) (hρ y) h2 hk hf
    refine⟨n,u,w',μ',?_,k2⟩
    rw[← k1]
    have e:(#[x,y]:Array Operand).map ρ = #[ρ x,ρ y]:=by simp
    simp only[execOp,resolve,e,al,ap,ae,invoke,builtin]
   ·simp at h
  ·split at h
   ·rename_i x y hx
    have e2:args = #[x,y]:=by apply aw;simpa using hx
    subst e2
    have hx:=hρ x
    have hy:=hρ y
    unfold Tt at h
    split at h
    ·rename_i k a k' b ha hb
     rw[ha] at hx
     rw[hb] at hy
     simp only[VR] at hx hy
     obtain⟨hk',rfl⟩:=ai h
     refine⟨.value (.int k (td a b)),_,w,μ,?_,.inl rfl,R,Ext.refl,by simp only[Out.res,VR]⟩
     have e:(#[x,y]:Array Operand).map ρ = #[ρ x,ρ y]:=by simp
     simp only[execOp,resolve,e,hx,hy,al,ap,ae,invoke,builtin,Builtin.min_,List.foldlM_cons,List.foldlM_nil,Builtin.min2]
     by_cases hlt:b<a<;>simp[td,hlt]
    ·simp at h
   ·simp at h
  ·split at h
   ·rename_i x y hx
    have e2:args = #[x,y]:=by apply aw;simpa using hx
    subst e2
    have hx:=hρ x
    have hy:=hρ y
    unfold SY at h
    split at h
    ·rename_i k a k' b ha hb
     rw[ha] at hx
     rw[hb] at hy
     simp only[VR] at hx hy
     obtain⟨hk',rfl⟩:=ai h
     refine⟨.value (.int k (mxI a b)),_,w,μ,?_,.inl rfl,R,Ext.refl,by simp only[Out.res,VR]⟩
     have e:(#[x,y]:Array Operand).map ρ = #[ρ x,ρ y]:=by simp
     simp only[execOp,resolve,e,hx,hy,al,ap,ae,invoke,builtin,Builtin.max_,List.foldlM_cons,List.foldlM_nil,Builtin.max2]
     by_cases hlt:a<b<;>simp[mxI,hlt]
    ·simp at h
   ·simp at h
  ·unfold zv at h
   split at h
   ·split at h
    ·split at h
     ·rename_i fn _ _ _ _
      cases hn:fn.name == "runtime.NumGoroutine" with
      | true=>rw[hn] at h;simp at h
      | false=>rw[hn] at h;simp only[cond_false,bj] at h;subst h;simp[Out.ok] at hk
     ·simp at h
    ·simp at h
   ·simp only[bj] at h;subst h;simp[Out.ok] at hk
   ·simp at h
  ·simp at h
omit [aq] in
theorem pO {id t n:Nat}{parts:List (Nat×AV)}{k:Callee}{as:List AV}{Q:Prop}(h:eA P id t n parts=some (.call k as)):Q:=by
 unfold eA at h
 split at h
 case h_2=>simp at h
 split at h
 case h_3=>simp at h
 case h_1=>
  split at h
  case h_2=>simp at h
  split at h
  case h_2=>simp at h
  have h:=(aA h).2
  split at h
  case h_2=>simp at h
  split at h<;>simp at h
 case h_2=>
  split at h
  case h_2=>simp at h
  split at h
  case h_2=>simp at h
  have h:=(aA h).2
  split at h<;>simp at h
omit [aq] in
theorem xX {id t:Nat}{s x:AV}{k:Callee}{as:List AV}{Q:Prop}(h:iW P Hh id t s x=some (.call k as)):Q:=by
 unfold iW at h
 split at h
 case h_2=>simp at h
 split at h
 case h_2=>simp at h
 split at h
 case h_2=>simp at h
 split at h
 case h_2=>simp at h
 have h:=(aA h).2
 (repeat' split at h)<;>first|(simp at h;done)|(have:=(ai h).2;simp at this)
omit [aq] in
theorem Cr {t:TypeId}{a:AV}{k:Callee}{as:List AV}{Q:Prop}(h:kJ P Hh t a=some (.call k as)):Q:=by
 unfold kJ at h
 split at h
 ·(repeat' split at h)<;>simp at h
 ·split at h
  ·have h:=(aA h).2
   split at h<;>simp at h
  ·simp at h
 ·simp at h
omit [aq] in
theorem yd {t:TypeId}{a x:AV}{k:Callee}{as:List AV}{Q:Prop}(h:lG P Hh t a x=some (.call k as)):Q:=by
 unfold lG at h
 (repeat' split at h)<;>first|(simp at h;done)|(have:=(ai h).2;simp at this)
omit [aq] in
theorem Er {t i q m a b:Nat}{lo hi mx:Option AV}{k:Callee}{as:List AV}{Q:Prop}(h:vo P Hh t i q m a b lo hi mx=some (.call k as)):Q:=by
 unfold vo at h
 (repeat' split at h)<;>first|(simp at h;done)|(have:=(ai h).2;simp at this)
omit [aq] in
theorem E5 {t i q m a b:Nat}{hi:AV}{k:Callee}{as:List AV}{Q:Prop}(h:wX P Hh t i q m a b hi=some (.call k as)):Q:=by
 unfold wX at h
 (repeat' split at h)<;>first|(simp at h;done)|(have:=(ai h).2;simp at this)
omit [aq] in
theorem xF {t i q m a b:Nat}{x:AV}{k:Callee}{as:List AV}{Q:Prop}(h:ia P Hh t i q m a b x=some (.call k as)):Q:=by
 unfold ia at h
 (repeat' split at h)<;>first|(simp at h;done)|(have:=(ai h).2;simp at this)
omit [aq] in
theorem vA {id t:Nat}{s x:AV}{k:Callee}{as:List AV}{Q:Prop}(h:gb P Hh id t s x=some (.call k as)):Q:=by
 unfold gb at h
 split at h
 case h_3=>exact xX h
 case h_2=>exact xF h
 (repeat' split at h)<;>first|(simp at h;done)|(have:=(ai h).2;simp at this)
omit [aq] in
theorem qy {ρa:Operand→AV}{ρ:Operand→Value}(hρ:∀ x,VR μ S H (ρa x) (ρ x))
  {id:Nat} {o:Oper} {k:Callee} {as:List AV} (h:sem P Hh id o ρa=some (.call k as)) :
  ∃ us:Array Value,K7 P μ w k us ((execOp ρ o).run P w)∧aH μ S H as us.toList:=by
 obtain⟨dst,op,ty,pos,af,gd⟩:=o
 unfold sem at h
 cases op<;>simp only[reduceCtorEq,bj] at h
 case pick c a b=>split at h<;>simp at h
 case alloc t=>unfold vg at h;(repeat' split at h)<;>simp at h
 case box t x=>unfold PF at h;(repeat' split at h)<;>simp at h
 case load t a=>
  unfold zj at h;(repeat' split at h)<;>first|(simp at h;done)|exact Cr h|skip
  all_goals (rename_i g _ _ _ _ _ _ _;have:=(ai h).2;simp at this)
 case store t a x=>
  unfold py at h;(repeat' split at h)<;>first|(simp at h;done)|exact yd h|(have:=(ai h).2;simp at this)
 case build t parts=>exact absurd h (by unfold vK;(repeat' split)<;>simp)
 case buildSlice t n parts=>exact pO h
 case makeSlice t l c=>unfold Em at h;(repeat' split at h)<;>first|(simp at h;done)|(have:=(ai h).2;simp at this)
 case slice t x lo hi mx=>
  unfold qA LD pQ sw at h
  (repeat' split at h)<;>first|(simp at h;done)|exact E5 h|exact Er h|(have:=(ai h).2;simp at this)
 case range t x=>unfold wF at h;(repeat' split at h)<;>simp at h
 case next x s=>unfold De at h;(repeat' split at h)<;>simp at h
 case fieldAddr s x f=>
  unfold pJ at h
  split at h
  ·split at h
   ·split at h
    ·rename_i ti _
     cases h0:eh ti.size 0<;>rw[h0] at h<;>simp at h
     split at h<;>first|(simp at h;done)|skip
     all_goals (split at h<;>first|(simp at h;done)|(have:=(ai h).2;simp at this))
    ·simp at h
   ·simp at h
  ·simp at h
 case field s x f=>unfold yu at h;(repeat' split at h)<;>simp at h
 case nilCheck x=>unfold K9 at h;(repeat' split at h)<;>first|(simp at h;done)|(have:=(ai h).2;simp at this)
 case binOp op t x y yt=>
  unfold KH at h;split at h
  ·split at h<;>simp at h
  ·have h:=(cu h).2
   (repeat' split at h)<;>simp at h
  ·(repeat' split at h)<;>simp at h
  ·simp at h
 case unOp op t x=>unfold ZE at h;(repeat' split at h)<;>simp at h
 case makeInterface t x=>unfold Ni at h;have:=(ai h).2;simp at this
 case typeAssert x s t ok=>unfold qM at h;(repeat' split at h)<;>first|(simp at h;done)|(have:=(ai h).2;simp at this)
 case convert s d x=>
  split at h
  ·unfold Fc at h;(repeat' split at h)<;>simp at h
  ·unfold K8 at h;(repeat' split at h)<;>simp at h
 case extract t i=>unfold Mf at h;(repeat' split at h)<;>simp at h
 case index t x i=>unfold rS at h;(repeat' split at h)<;>simp at h
 case makeMap t r=>
  cases r with
  | none=>
   unfold nr at h
   cases hc:gy P t<;>cases hc3:jT P t<;>rw[hc] at h<;>(try rw[hc3] at h)<;>simp at h
  | some _=>simp at h
 case mapEntry t m k=>unfold jB at h;(repeat' split at h)<;>first|(simp at h;done)|(have:=(ai h).2;simp at this)
 case mapUpdate t m k x=>unfold gR at h;(repeat' split at h)<;>first|(simp at h;done)|(have:=(ai h).2;simp at this)
 case entryStore t m s x=>unfold ga at h;(repeat' split at h)<;>simp at h
 case lookup t x k ok=>unfold rM at h;(repeat' split at h)<;>first|(simp at h;done)|(have:=(ai h).2;simp at this)
 case indexAddr t x i=>unfold Eu ZB at h;(repeat' split at h)<;>first|(simp at h;done)|(have:=(ai h).2;simp at this)
 case call c=>
  obtain⟨callee,args,argTypes⟩:=c
  simp only at h
  split at h
  ·split at h
   ·unfold DP LO at h;(repeat' split at h)<;>first|(simp at h;done)|(have:=(ai h).2;simp at this)
   ·simp at h
  ·split at h
   ·unfold xJ at h;(repeat' split at h)<;>first|(simp at h;done)|(have:=(ai h).2;simp at this)
   ·simp at h
  ·split at h
   ·unfold qZ at h;(repeat' split at h)<;>first|(simp at h;done)|(have:=(ai h).2;simp at this)
   ·simp at h
  ·split at h
   ·exact vA (aA h).2
   ·simp at h
  ·unfold Tt at h;(repeat' split at h)<;>first|(simp at h;done)|(have:=(ai h).2;simp at this)
  ·unfold SY at h;(repeat' split at h)<;>first|(simp at h;done)|(have:=(ai h).2;simp at this)
  ·rename_i f
   have:=NE (w:=w) (ty:=ty) (hρ f) (uG hρ args.toList) h
   obtain⟨us,h1,h2⟩:=this
   refine⟨us,?_,h2⟩
   have e:(args.toList.map ρ).toArray=args.map ρ:=by apply aw;simp
   rw[e] at h1
   exact h1
  ·simp at h
end
@[reducible] def Sg:Bool→gz
 | true=>.iI 0
 | false=>.own
inductive eG where
 | val (t:Ty)
 | own (te:TypeId) (e:Ty)
 | pair (a b:eG)
 | one (a:eG)
 | any
 | deep (te ti:TypeId) (ln:Bool)
@[reducible] def eG.T:eG→Type
 | .val t=>t.T
 | .own _ e=>List e.T
 | .pair a b=>a.T×b.T
 | .one a=>a.T
 | .any=>Unit
 | .deep _ _ _=>List FT
@[reducible] def dQ:List Ty→Type
 | []=>Unit
 | t::ts=>t.T×dQ ts
@[reducible] def zu:List eG→Type
 | []=>Unit
 | t::ts=>t.T×zu ts
def eG.isAgg:eG→Bool
 | .val t=>t.isAgg
 | .own _ _=>false
 | .any=>false
 | .deep _ _ _=>false
 | _=>true
def Ty.flat:Ty→Bool
 | .row _=>false
 | .pair a b=>a.flat&&b.flat
 | .one a=>a.flat
 | _=>true
def eG.flat:eG→Bool
 | .val t=>t.flat
 | .own _ e=>e.flat
 | .any=>true
 | .deep _ _ ln=>!ln
 | .pair a b=>a.flat&&b.flat
 | .one a=>a.flat
def Fy:List eG→Bool
 | []=>true
 | t::ts=>t.flat&&Fy ts
inductive Av where
 | row (te:TypeId) (e:Ty) (xs:List e.T)
 | deep (te ti:TypeId) (ln:Bool) (xs:List FT)
def Av.H:Av→aS
 | .row te e xs=>.row te e 0 xs
 | .deep te ti ln xs=>.aO te ti 0 xs (Sg ln)
def Av.flat:Av→Bool
 | .row _ e _=>e.flat
 | .deep _ _ ln _=>!ln
structure fJ where
 loc:Lc
 o:Av
def Mr (S:ar)(t:Ty)(x:t.T)(v:Value):Prop:=
 if t.isAgg then ∃ cs,v = .agg cs∧Rd S t x cs.toList else Rd S t x [v]
def iB (S:ar):(ps:List Ty)→dQ ps→List Value→Prop
 | [],_,vs=>vs=[]
 | t::ts,x,vs=>∃ v r,vs=v::r∧Mr S t x.1 v∧iB S ts x.2 r
def Mq (S:ar):(t:eG)→t.T→List Value→List fJ→Prop
 | .val t,x,cs,os=>Rd S t x cs∧os=[]
 | .own te e,xs,cs,os=>∃ l:Lc,cs=[.slice l.addr (ft xs) l.cap]∧os=[⟨l,.row te e xs⟩]
 | .pair a b,x,cs,os=>∃ c d o p,cs=c++d∧os=o++p∧Mq S a x.1 c o∧Mq S b x.2 d p
 | .one a,x,cs,os=>Mq S a x cs os
 | .any,_,cs,os=>(∃ v,cs=[v]∧v.oneCell'=true)∧os=[]
 | .deep te ti ln,xs,cs,os=>∃ l:Lc,cs=[.slice l.addr (ft xs) l.cap]∧os=[⟨l,.deep te ti ln xs⟩]
def lz (S:ar)(t:eG)(x:t.T)(v:Value)(os:List fJ):Prop:=
 if t.isAgg then ∃ cs,v = .agg cs∧Mq S t x cs.toList os else Mq S t x [v] os
def ER (S:ar):(rs:List eG)→zu rs→List Value→List fJ→Prop
 | [],_,vs,os=>vs=[]∧os=[]
 | t::ts,x,vs,os=>∃ v r o p,vs=v::r∧os=o++p∧lz S t x.1 v o∧ER S ts x.2 r p
def gh (S:ar)(w:World)(B:Nat)(o:fJ):Prop:=
 match o.o with
 | .row te e xs=>o.loc.cH=aT∧iD S w B o.loc te e xs
 | .deep te ti ln xs=>cT S w B o.loc te ti xs (Sg ln)
def AU (o p:fJ):Prop:=∀ b,o.loc.has b→¬ p.loc.has b
def jf:List Value→Value
 | [v]=>v
 | vs=>.tuple vs.toArray
structure aX where
 ps:List Ty
 rs:List eG
 f:dQ ps→Option (zu rs)
def aX.OK [aq](P:Program)(k:FuncId)(c:aX):Prop:=
 ∀ x y,c.f x=some y→∀ (S:ar) (w:World) (vs:List Value),(∀ b o,S b=some o→w.heap[b]? = some o)→aq.pre S→iB S c.ps x vs →
  Calls P k vs.toArray w fun e w'=>∃ us S' os,e = .returned (jf us)∧Below w.heap.size w w'∧(∀ b o,S b=some o→S' b=some o) ∧
   (∀ b o,S' b=some o→w'.heap[b]? = some o)∧(∀ b,S' b≠none→S b≠none∨w.heap.size≤b)∧ER S' c.rs y us os ∧
   (∀ o∈os,gh S' w' w.heap.size o)∧os.Pairwise AU
def WS (H:Heap)(t:Ty)(a:AV):Option t.T:=cond (t.isAgg == a.isAgg) (pu H t a.inside) none
def cy (H:Heap):(ps:List Ty)→List AV→Option (dQ ps)
 | [],[]=>some ()
 | t::ts,a::as=>match WS H t a with
  | some x=>match cy H ts as with
   | some y=>some (x,y)
   | none=>none
  | none=>none
 | _,_=>none
section
variable [aq]{P:Program}{w w' w0:World}{μ:Mu}{S S':ar}{H Hh:Heap}{B:Nat}
def oa (w:World):ar:=fun b=>w.heap[b]?
omit [aq] in
theorem jN (hst:∀ b o,S b=some o→S' b=some o){l:Lc}{t:TypeId}{e:Ty}{xs:List e.T}(hne:∀ b,l.blk=some b→S' b=w.heap[b]?)(h2:iD S w B l t e xs):Rd S' (.row e) xs [.slice l.addr xs.length l.cap]:=by
 refine⟨l.addr,l.cap,rfl,⟨h2.1.1,fun ha=>?_⟩,fun j x hj=>?_⟩
 ·rcases h2.2 with h3|⟨b,cs,e1,_⟩
  ·exact h3.2
  ·simp[Lc.addr,e1] at ha
 rcases h2.2 with h3|⟨b,cs,e1,_,_,h4,_,h6⟩
 ·have hlt:j<xs.length:=by
   rcases kh j xs.length with h|h
   ·exact h
   ·rw[dC h] at hj;simp at hj
  have:=h2.1.1;omega
 ·obtain⟨c,k1,k2⟩:=h6 j x hj
  refine⟨⟨b,0,none⟩,c,by simp[Lc.addr,e1],dD hst _ _ _ k1,fun m v hv=>?_⟩
  rw[aN,eK]
  have hb:S' b=some (.cells cs t (0,0)):=by rw[hne b e1];exact h4
  simp only[cellS,hb,fa,cf,if_false]
  exact k2 m v hv
omit [aq] in
theorem rQ (hst:∀ b o,S b=some o→S' b=some o){l:Lc}{t ti:TypeId}{xs:List FT}(hne:∀ b,l.has b→S' b=w.heap[b]?)(D:cT S w B l t ti xs .own):Rd S' (.row cM) xs [.slice l.addr xs.length l.cap]:=by
 refine⟨l.addr,l.cap,rfl,⟨D.len.1,fun ha=>?_⟩,fun j x hj=>?_⟩
 ·rcases D.CS with h3|⟨b,cs,e1,_⟩
  ·exact h3.2
  ·simp[Lc.addr,e1] at ha
 rcases D.CS with h3|⟨b,cs,e1,_,_,h4,_,h6⟩
 ·have hlt:j<xs.length:=(cn.1 hj).1
  have:=D.len;omega
 ·obtain⟨f0,f2,v,f1,_,f4⟩:=h6 j x hj
  have f4:=f4.1 trivial
  subst f4
  refine⟨⟨b,0,none⟩,[.int .i64 x.1,.slice (l.at j).addr x.2.1.length (l.at j).cap,.int .i64 x.2.2],by simp[Lc.addr,e1],⟨[_],[_,_],rfl,rfl,[_],[_],rfl,jN hst (fun b hb=>hne b (Lc.ji hb)) (D.row j x hj trivial),rfl⟩,fun m v hv=>?_⟩
  rw[aN,eK]
  have hb:S' b=some (.cells cs t (0,0)):=by rw[hne b (.inl e1)];exact h4
  simp only[cellS,hb,fa,cf,if_false]
  match m,hv with
  | 0,hv=>cases hv;exact f0
  | 1,hv=>cases hv;exact f1
  | 2,hv=>cases hv;exact f2
omit [aq] in
theorem Td (hst:∀ b o,S b=some o→w.heap[b]? = some o){l:Lc}{t:TypeId}{e:Ty}{xs:List e.T}(h2:iD S w B l t e xs):Rd (oa w) (.row e) xs [.slice l.addr xs.length l.cap]:=jN hst (fun _ _=>rfl) h2
omit [aq] in
theorem QS (hst:∀ b o,S b=some o→w.heap[b]? = some o){l:Lc}{t ti:TypeId}{xs:List FT}(D:cT S w B l t ti xs .own):Rd (oa w) (.row cM) xs [.slice l.addr xs.length l.cap]:=rQ hst (fun _ _=>rfl) D
theorem W9 (R:Rel μ S H B w0 w){i:Nat}{t:TypeId}{e:Ty}{g:Nat}{xs:List e.T}(hi:H i=some (.row t e g xs)){l:Lc}(hm:μ i=some l) :
  Rd (oa w) (.row e) xs [.slice l.addr xs.length l.cap]:=by
 obtain⟨l',h1,h2⟩:=R.obj i _ hi
 have:l'=l:=dq (h1.symm.trans hm)
 subst this
 exact Td R.st h2
theorem Te (R:Rel μ S H B w0 w)(sub:∀ i o,Hh i=some o→H i=some o):dP μ (oa w) Hh:=
 ⟨fun i t e g xs l h hm=>W9 R (sub _ _ h) hm,fun i t ti q xs l h hm=>by
  obtain⟨l',h1,h2⟩:=R.obj i _ (sub _ _ h)
  have:l'=l:=dq (h1.symm.trans hm)
  subst this
  exact QS R.st h2⟩
omit [aq] in
theorem S9 (hS:∀ b o,S b=some o→S' b=some o)
  (hrow:dP μ S' Hh)
  (sub:∀ i o,Hh i=some o→H i=some o) {t:Ty} {a:AV} {v:Value} {x:t.T} (hv:VR μ S H a v) (h:WS Hh t a=some x):Mr S' t x v:=by
 unfold WS at h
 cases hb:(t.isAgg == a.isAgg) with
 | false=>rw[hb] at h;simp at h
 | true=>
  rw[hb] at h
  simp only[cond_true] at h
  have hta:t.isAgg=a.isAgg:=by simpa using hb
  unfold pu at h
  split at h
  ·rename_i y hd
   cases h
   unfold Mr
   rw[hta]
   have base:a.isAgg=false→aH μ S H a.inside [v]:=by
    intro ha
    cases a<;>first|(simp[AV.isAgg] at ha;done)|(simp only[AV.inside,aH];exact⟨v,[],rfl,hv,rfl⟩)
   cases ha:a.isAgg with
   | true=>
    rw[if_pos rfl]
    cases a<;>simp only[AV.isAgg,reduceCtorEq] at ha
    simp only[VR] at hv
    obtain⟨vs,rfl,hvs⟩:=hv
    obtain⟨c,u,e1,k1,k2⟩:=oM hS hrow sub t _ vs.toList _ [] hvs hd
    simp only[aH] at k2
    subst k2
    rw[List.append_nil] at e1
    exact⟨vs,rfl,by rw[e1];exact k1⟩
   | false=>
    rw[if_neg (by simp)]
    obtain⟨c,u,e1,k1,k2⟩:=oM hS hrow sub t _ [v] _ [] (base ha) hd
    simp only[aH] at k2
    subst k2
    rw[List.append_nil] at e1
    rw[e1];exact k1
  ·simp at h
omit [aq] in
theorem iF (hS:∀ b o,S b=some o→S' b=some o)
  (hrow:dP μ S' Hh)
  (sub:∀ i o,Hh i=some o→H i=some o):∀ {ps:List Ty} {as:List AV} {vs:List Value} {x:dQ ps},aH μ S H as vs→cy Hh ps as=some x→iB S' ps x vs
 | [],[],vs,x,hv,h=>by simp only[aH] at hv;exact hv
 | [],_::_,vs,x,hv,h=>by simp[cy] at h
 | t::ts,[],vs,x,hv,h=>by simp[cy] at h
 | t::ts,a::as,vs,x,hv,h=>by
  simp only[cy] at h
  split at h
  ·rename_i y hy
   split at h
   ·rename_i z hz
    cases h
    simp only[aH] at hv
    obtain⟨v,r,rfl,h1,h2⟩:=hv
    exact⟨v,r,rfl,S9 hS hrow sub h1 hy,iF hS hrow sub h2 hz⟩
   ·simp at h
  ·simp at h
end
def um:eG→Nat
 | .val _=>0
 | .own _ _=>1
 | .pair a b=>um a+um b
 | .one a=>um a
 | .any=>0
 | .deep _ _ _=>1
def yf:(t:eG)→t.T→Nat→List AV
 | .val t,x,_=>enc t x
 | .own _ _,_,i=>[.sl i 0]
 | .pair a b,x,i=>yf a x.1 i++yf b x.2 (i+um a)
 | .one a,x,i=>yf a x i
 | .any,_,_=>[.CS]
 | .deep _ _ _,_,i=>[.zR i]
def H9:(t:eG)→t.T→Nat→List (Nat×aS)
 | .val _,_,_=>[]
 | .own te e,xs,i=>[(i,.row te e 0 xs)]
 | .pair a b,x,i=>H9 a x.1 i++H9 b x.2 (i+um a)
 | .one a,x,i=>H9 a x i
 | .any,_,_=>[]
 | .deep te ti ln,xs,i=>[(i,.aO te ti 0 xs (Sg ln))]
def MT:List AV→AV
 | [a]=>a
 | _=>.ah
def Rl (t:eG)(x:t.T)(i:Nat):AV:=cond t.isAgg (.agg (yf t x i)) (MT (yf t x i))
def p7:(rs:List eG)→zu rs→Nat→List AV
 | [],_,_=>[]
 | t::ts,x,i=>Rl t x.1 i::p7 ts x.2 (i+um t)
def iG:(rs:List eG)→zu rs→Nat→List (Nat×aS)
 | [],_,_=>[]
 | t::ts,x,i=>H9 t x.1 i++iG ts x.2 (i+um t)
def gw:List AV→AV
 | [a]=>a
 | vs=>.uo vs
def bc (H:Heap):List (Nat×aS)→Heap
 | []=>H
 | (i,o)::l=>bc (aP H i (some o)) l
def bn (H:Heap):List (Nat×aS)→Bool
 | []=>true
 | (i,o)::l=>(H i).isNone&&bn (aP H i (some o)) l
def rowsOf:List fJ→Nat→List (Nat×aS)
 | [],_=>[]
 | o::os,i=>(i,o.o.H)::rowsOf os (i+1)
structure Carry (B:Nat)(μ:Mu)(S:ar)(H:Heap)(μ':Mu)(S':ar)(H':Heap):Prop where
 vr:∀ a v,VR μ S H a v→VR μ' S' H' a v
 st:∀ b,S' b≠none→S b≠none∨B≤b
 sub:∀ b o,S b=some o→S' b=some o
section
variable [aq]{P:Program}{w w' w0:World}{μ μ':Mu}{S S':ar}{H Hh H':Heap}{B:Nat}
omit [aq] in
theorem Carry.of (h:Ext μ S H μ' S H'):Carry B μ S H μ' S H':=⟨fun a v=>dA h a v,fun _ h=>.inl h,fun _ _ h=>h⟩
omit [aq] in
theorem Carry.refl:Carry B μ S H μ S H:=⟨fun _ _ h=>h,fun _ h=>.inl h,fun _ _ h=>h⟩
omit [aq] in
theorem Carry.trans {μ'':Mu}{S'':ar}{H'':Heap}(h:Carry B μ S H μ' S' H')(k:Carry B μ' S' H' μ'' S'' H''):Carry B μ S H μ'' S'' H'':=
 ⟨fun a v x=>k.vr a v (h.vr a v x),fun b hb=>(k.st b hb).elim (fun x=>h.st b x) .inr,fun b o x=>k.sub b o (h.sub b o x)⟩
omit [aq] in
theorem Carry.list (h:Carry B μ S H μ' S' H'):∀ {as:List AV} {vs:List Value},aH μ S H as vs→aH μ' S' H' as vs
 | [],vs,hr=>by simp only[aH] at hr ⊢;exact hr
 | a::as,vs,hr=>by
  simp only[aH] at hr ⊢
  obtain⟨v,r,h1,h2,h3⟩:=hr
  exact⟨v,r,h1,h.vr a v h2,Carry.list h h3⟩
omit [aq] in
theorem jb:∀ (o p:List fJ) (i:Nat),rowsOf (o++p) i=rowsOf o i++rowsOf p (i+o.length)
 | [],p,i=>by simp[rowsOf]
 | a::o,p,i=>by simp[rowsOf,jb o p (i+1),Nat.add_comm,Nat.add_left_comm]
omit [aq] in
theorem lY:∀ (t:eG) (x:t.T) (cs:List Value) (os:List fJ) (i:Nat),Mq S t x cs os →
  um t=os.length∧H9 t x i=rowsOf os i ∧
  ((∀ (j:Nat) (o:fJ),os[j]? = some o→μ (i+j)=some o.loc∧H (i+j)=some o.o.H)→aH μ S H (yf t x i) cs)
 | .val t,x,cs,os,i,h=>by
  obtain⟨h1,rfl⟩:=h
  exact⟨rfl,rfl,fun _=>gJ t x cs h1⟩
 | .own te e,xs,cs,os,i,h=>by
  obtain⟨l,rfl,rfl⟩:=h
  refine⟨rfl,rfl,fun hj=>?_⟩
  obtain⟨h1,h2⟩:=hj 0 _ rfl
  simp only[Nat.add_zero] at h1 h2
  simp only[yf,aH,VR]
  refine⟨_,[],rfl,⟨⟨_,_,_,rfl⟩,l,h1,fun t1 e1 g1 xs1 hH=>?_⟩,rfl⟩
  rw[h2] at hH
  simp only[Av.H] at hH
  injection hH with hH
  injection hH with k1 k2 k3 k4
  subst k2 k3
  cases k4
  exact⟨eI _,fun _=>rfl⟩
 | .pair a b,x,cs,os,i,h=>by
  obtain⟨c,d,o,p,rfl,rfl,h1,h2⟩:=h
  obtain⟨a1,a2,a3⟩:=lY a x.1 c o i h1
  obtain⟨b1,b2,b3⟩:=lY b x.2 d p (i+um a) h2
  refine⟨by simp[um,a1,b1],by rw[H9,a2,b2,jb,a1],fun hj=>?_⟩
  refine cl (a3 fun j q hq=>hj j q ?_) (b3 fun j q hq=>?_)
  ·rw[fg (by
    rcases kh j o.length with h|h
    ·exact h
    ·rw[dC h] at hq;simp at hq)];exact hq
  ·have:=hj (o.length+j) q (by rw[fb (by omega)];simpa using hq)
   rw[a1,Nat.add_assoc];exact this
 | .one a,x,cs,os,i,h=>lY a x cs os i h
 | .any,x,cs,os,i,h=>by
  obtain⟨⟨v,rfl,hv⟩,rfl⟩:=h
  exact⟨rfl,rfl,fun _=>by simp only[yf,aH,VR];exact⟨v,[],rfl,hv,rfl⟩⟩
 | .deep te ti ln,xs,cs,os,i,h=>by
  obtain⟨l,rfl,rfl⟩:=h
  refine⟨rfl,rfl,fun hj=>?_⟩
  obtain⟨h1,h2⟩:=hj 0 _ rfl
  simp only[Nat.add_zero] at h1 h2
  simp only[yf,aH,VR]
  refine⟨_,[],rfl,⟨⟨_,_,_,rfl⟩,l,h1,fun t1 ti1 q1 xs1 st1 hH=>?_⟩,rfl⟩
  rw[h2] at hH
  cases hH
  rfl
omit [aq] in
theorem Pn {t:eG}{x:t.T}{v:Value}{os:List fJ}{i:Nat}(h:lz S t x v os) :
  um t=os.length∧H9 t x i=rowsOf os i ∧
  ((∀ (j:Nat) (o:fJ),os[j]? = some o→μ (i+j)=some o.loc∧H (i+j)=some o.o.H)→VR μ S H (Rl t x i) v):=by
 unfold lz at h
 unfold Rl
 cases ha:t.isAgg with
 | true=>
  rw[ha,if_pos rfl] at h
  obtain⟨cs,rfl,h⟩:=h
  obtain⟨h1,h2,h3⟩:=lY (μ:=μ) (H:=H) t x _ os i h
  exact⟨h1,h2,fun hj=>by simp only[cond_true,VR];exact⟨cs,rfl,h3 hj⟩⟩
 | false=>
  rw[ha,if_neg (by simp)] at h
  obtain⟨h1,h2,h3⟩:=lY (μ:=μ) (H:=H) t x _ os i h
  refine⟨h1,h2,fun hj=>?_⟩
  have:=h3 hj
  simp only[cond_false]
  have hl:=aU this
  match he:yf t x i,this,hl with
  | [a],this,_=>simp only[aH] at this;obtain⟨_,_,e,k,_⟩:=this;cases e;exact k
  | [],_,hl=>simp at hl
  | _::_::_,_,hl=>simp at hl
omit [aq] in
theorem jO:∀ (rs:List eG) (y:zu rs) (us:List Value) (os:List fJ) (i:Nat),ER S rs y us os →
  iG rs y i=rowsOf os i ∧
  ((∀ (j:Nat) (o:fJ),os[j]? = some o→μ (i+j)=some o.loc∧H (i+j)=some o.o.H)→aH μ S H (p7 rs y i) us)
 | [],y,us,os,i,h=>by obtain⟨rfl,rfl⟩:=h;exact⟨rfl,fun _=>by simp[p7,aH]⟩
 | t::ts,y,us,os,i,h=>by
  obtain⟨v,r,o,p,rfl,rfl,h1,h2⟩:=h
  obtain⟨a1,a2,a3⟩:=Pn (μ:=μ) (H:=H) (i:=i) h1
  obtain⟨b2,b3⟩:=jO ts y.2 r p (i+um t) h2
  refine⟨by rw[iG,a2,b2,jb,a1],fun hj=>?_⟩
  simp only[p7,aH]
  refine⟨v,r,rfl,a3 fun j q hq=>hj j q ?_,b3 fun j q hq=>?_⟩
  ·rw[fg (by
    rcases kh j o.length with h|h
    ·exact h
    ·rw[dC h] at hq;simp at hq)];exact hq
  ·have:=hj (o.length+j) q (by rw[fb (by omega)];simpa using hq)
   rw[a1,Nat.add_assoc];exact this
omit [aq] in
theorem vY:∀ {as:List AV} {vs:List Value},aH μ S H as vs→VR μ S H (gw as) (jf vs)
 | [],vs,h=>by simp only[aH] at h;subst h;simp only[gw,jf,VR];exact⟨_,rfl,by simp[aH]⟩
 | [a],vs,h=>by
  simp only[aH] at h
  obtain⟨v,r,rfl,h1,rfl⟩:=h
  exact h1
 | a::b::as,vs,h=>by
  have h':=h
  simp only[aH] at h
  obtain⟨v,r,rfl,h1,u,r',rfl,h2,h3⟩:=h
  simp only[gw,jf,VR]
  exact⟨_,rfl,by simpa using h'⟩
theorem Rel.Jp (R:Rel μ S H B w0 w):Rel μ S H B w0 w.drew:=⟨R.below.drew,R.size,R.st,R.dom,fun i o ho=>by
 obtain⟨l,h1,h2⟩:=R.obj i o ho
 exact⟨l,h1,bD (w:=w) (w':=w.drew) Ext.refl (fun _ _=>rfl) (fun b hb=>(R.CR h1 hb).2) h2⟩,R.sep,R.cH,R.pre⟩
theorem Rel.grow (R:Rel μ S H B w0 w)(hb:Below w.heap.size w w')(h1:∀ b o,S b=some o→S' b=some o)(h2:∀ b o,S' b=some o→w'.heap[b]? = some o)
  (h3:∀ b,S' b≠none→S b≠none∨w.heap.size≤b):Rel μ S' H B w0 w'∧Ext μ S H μ S' H:=by
 have E:Ext μ S H μ S' H:=⟨fun _ _ h=>.inl h,h1,fun _ t _ g xs _ h=>⟨t,g,xs,h,eI _,fun _=>rfl⟩,fun _ t ti q xs st _ h=>⟨t,ti,q,xs,st,h,eI _,rfl,fun _ _ h=>h⟩⟩
 refine⟨⟨R.below.trans (hb.mono R.size),dk R.size hb.size,h2,R.dom,fun i o ho=>?_,R.sep,R.cH,aq.mono _ _ h1 R.pre⟩,E⟩
 obtain⟨l,k1,k2⟩:=R.obj i o ho
 refine⟨l,k1,bD E (fun b hb'=>hb.block b (R.p8 k1 hb')) (fun b hb'=>?_) k2⟩
 cases hs:S' b with
 | none=>rfl
 | some o'=>
  rcases h3 b (by rw[hs];simp) with h|h
  ·exact absurd (R.CR k1 hb').2 h
  ·have:=R.p8 k1 hb';omega
theorem Rel.add (R:Rel μ S H B w0 w){i:Nat}(hi:H i=none)(ho:aS)(l:Lc)(hsep:∀ j lj b,μ j=some lj→l.has b→¬ lj.has b)
  (hO:og (aP μ i (some l)) S (aP H i (some ho)) w B l ho) (hin:l.cH=aT∨∃ t ti q xs st,ho = .aO t ti q xs st) :
  Rel (aP μ i (some l)) S (aP H i (some ho)) B w0 w∧Ext μ S H (aP μ i (some l)) S (aP H i (some ho)):=by
 have hm:μ i=none:=by
  have:=R.dom i;rw[hi] at this
  cases h:μ i with
  | none=>rfl
  | some _=>rw[h] at this;simp at this
 have E:Ext μ S H (aP μ i (some l)) S (aP H i (some ho)):=Ext.new hm
 refine⟨⟨R.below,R.size,R.st,fun j=>?_,fun j o' hj=>?_,?_,fun j lj hj=>?_,R.pre⟩,E⟩
 ·by_cases e:j=i
  ·subst e;rw[au,au];rfl
  ·rw[ax _ _ e,ax _ _ e];exact R.dom j
 ·by_cases e:j=i
  ·subst e;rw[au] at hj;cases hj;exact⟨l,au _ _ _,hO⟩
  ·rw[ax _ _ e] at hj
   obtain⟨l',h1,h2⟩:=R.obj j o' hj
   exact⟨l',by rw[ax _ _ e];exact h1,bD E (fun _ _=>rfl) (fun b hb=>(R.CR h1 hb).2) h2⟩
 ·intro j k lj lk b hjk hj hk hb
  by_cases e:j=i
  ·subst e
   rw[au] at hj;cases hj
   rw[ax _ _ (Ne.symm hjk)] at hk
   exact hsep k lk b hk hb
  ·rw[ax _ _ e] at hj
   by_cases e2:k=i
   ·subst e2
    rw[au] at hk;cases hk
    intro hb'
    exact hsep j lj b hj hb' hb
   ·rw[ax _ _ e2] at hk
    exact R.sep j k lj lk b hjk hj hk hb
 ·by_cases e:j=i
  ·subst e;rw[au] at hj;cases hj
   rw[au]
   exact hin.imp id fun⟨t,ti,q,xs,st,h⟩=>⟨t,ti,q,xs,st,by rw[h]⟩
  ·rw[ax _ _ e] at hj;rw[ax _ _ e];exact R.cH j lj hj
theorem Kh {μ:Mu}{S:ar}{H:Heap}{o:fJ}(h:gh S w B o):og μ S H w B o.loc o.o.H∧(o.loc.cH=aT∨∃ t ti q xs st,o.o.H = .aO t ti q xs st):=by
 obtain⟨l,o⟩:=o
 cases o with
 | row te e xs=>exact⟨h.2,.inl h.1⟩
 | deep te ti ln xs=>exact⟨h,.inr ⟨_,_,_,_,_,rfl⟩⟩
omit [aq] in
theorem N3 {o:fJ}(h:gh S w B o){b:Nat}(hb:o.loc.has b):b<w.heap.size∧B≤b∧S b=none:=by
 obtain⟨l,o⟩:=o
 cases o with
 | row te e xs=>exact fU h.2 ((Lc.fe h.1).1 hb)
 | deep te ti ln xs=>exact EX h hb
theorem Rel.G1:∀ (os:List fJ) (i:Nat) (μ:Mu) (H:Heap),Rel μ S H B w0 w→bn H (rowsOf os i)=true→(∀ o∈os,gh S w B o)→os.Pairwise AU →
  (∀ o∈os,∀ j lj b,μ j=some lj→o.loc.has b→¬ lj.has b) →
  ∃ μ',Rel μ' S (bc H (rowsOf os i)) B w0 w∧Carry B μ S H μ' S (bc H (rowsOf os i)) ∧
   (∀ k l,μ k=some l→μ' k=some l)∧(∀ k o,H k=some o→bc H (rowsOf os i) k=some o) ∧
   (∀ (j:Nat) (o:fJ),os[j]? = some o→μ' (i+j)=some o.loc∧bc H (rowsOf os i) (i+j)=some o.o.H)
 | [],i,μ,H,R,_,_,_,_=>⟨μ,R,Carry.refl,fun _ _ h=>h,fun _ _ h=>h,fun j o hj=>by simp at hj⟩
 | o::os,i,μ,H,R,hf,hO,hA,hsep=>by
  simp only[rowsOf,bn,be,Option.isNone_iff_eq_none] at hf
  obtain⟨hi,hf⟩:=hf
  have hO0:=hO o (by simp)
  obtain⟨R1,E1⟩:=R.add hi o.o.H o.loc (hsep o (by simp)) (Kh hO0).1 (Kh (μ:=μ) (H:=H) hO0).2
  have hm:μ i=none:=by
   have:=R.dom i;rw[hi] at this
   cases h:μ i with
   | none=>rfl
   | some _=>rw[h] at this;simp at this
  have hA':=List.pairwise_cons.1 hA
  obtain⟨μ',R2,C2,M2,H2,G2⟩:=Rel.G1 os (i+1) _ _ R1 hf (fun p hp=>hO p (by simp[hp])) hA'.2 (fun p hp j lj b hj hb=>by
   by_cases e:j=i
   ·subst e;rw[au] at hj;cases hj
    intro hb'
    exact hA'.1 p hp b hb' hb
   ·rw[ax _ _ e] at hj
    exact hsep p (by simp[hp]) j lj b hj hb)
  refine⟨μ',R2,(Carry.of E1).trans C2,fun k l hk=>M2 k l ?_,fun k o' hk=>H2 k o' ?_,fun j p hj=>?_⟩
  ·rw[ax _ _ (fun e=>by subst e;rw[hm] at hk;simp at hk)];exact hk
  ·rw[ax _ _ (fun e=>by subst e;rw[hi] at hk;simp at hk)];exact hk
  ·cases j with
   | zero=>
    simp at hj;subst hj
    exact⟨M2 i _ (au _ _ _),H2 i _ (au _ _ _)⟩
   | succ j=>
    simp at hj
    have:=G2 j p hj
    rw[show i+1+j=i+(j+1) from by omega] at this
    exact this
omit [aq] in
theorem nO:∀ (t:Ty) (x:t.T) (cs:List Value),t.flat=true→Rd S t x cs→Rd S' t x cs
 | .int _,_,_,_,h=>h
 | .bool,_,_,_,h=>h
 | .str,_,_,_,h=>h
 | .row e,_,_,hf,_=>by simp[Ty.flat] at hf
 | .pair a b,x,cs,hf,h=>by
  simp only[Ty.flat,be] at hf
  obtain⟨c,d,h1,h2,h3⟩:=h
  exact⟨c,d,h1,nO a _ _ hf.1 h2,nO b _ _ hf.2 h3⟩
 | .one a,x,cs,hf,h=>nO a x cs hf h
 | .CQ _,_,_,_,h=>h
 | .nil,_,_,_,h=>h
omit [aq] in
theorem lW:∀ (t:eG) (x:t.T) (cs:List Value) (os:List fJ),t.flat=true→Mq S t x cs os→Mq S' t x cs os∧∀ o∈os,o.o.flat=true
 | .val t,x,cs,os,hf,h=>⟨⟨nO t x cs hf h.1,h.2⟩,by rw[h.2];simp⟩
 | .own te e,xs,cs,os,hf,h=>⟨h,by obtain⟨l,_,rfl⟩:=h;simpa [eG.flat,Av.flat] using hf⟩
 | .pair a b,x,cs,os,hf,h=>by
  simp only[eG.flat,be] at hf
  obtain⟨c,d,o,p,h1,h2,h3,h4⟩:=h
  obtain⟨a1,a2⟩:=lW a _ _ _ hf.1 h3
  obtain⟨b1,b2⟩:=lW b _ _ _ hf.2 h4
  exact⟨⟨c,d,o,p,h1,h2,a1,b1⟩,by rw[h2];intro q hq;rcases List.mem_append.1 hq with h|h;exact a2 q h;exact b2 q h⟩
 | .one a,x,cs,os,hf,h=>lW a x cs os hf h
 | .any,x,cs,os,hf,h=>⟨h,by rw[h.2];simp⟩
 | .deep te ti ln,xs,cs,os,hf,h=>⟨h,by obtain⟨l,_,rfl⟩:=h;simpa [eG.flat,Av.flat] using hf⟩
omit [aq] in
theorem yJ:∀ (rs:List eG) (y:zu rs) (us:List Value) (os:List fJ),Fy rs=true→ER S rs y us os→ER S' rs y us os∧∀ o∈os,o.o.flat=true
 | [],y,us,os,_,h=>⟨h,by rw[h.2];simp⟩
 | t::ts,y,us,os,hf,h=>by
  simp only[Fy,be] at hf
  obtain⟨v,r,o,p,h1,h2,h3,h4⟩:=h
  obtain⟨b1,b2⟩:=yJ ts _ _ _ hf.2 h4
  have:lz S' t y.1 v o∧∀ q∈o,q.o.flat=true:=by
   unfold lz at h3 ⊢
   split at h3
   ·rename_i ha
    obtain⟨cs,k1,k2⟩:=h3
    obtain⟨m1,m2⟩:=lW t _ _ _ hf.1 k2
    exact⟨by rw[if_pos ha];exact⟨cs,k1,m1⟩,m2⟩
   ·rename_i ha
    obtain⟨m1,m2⟩:=lW t _ _ _ hf.1 h3
    exact⟨by rw[if_neg ha];exact m1,m2⟩
  exact⟨⟨v,r,o,p,h1,h2,this.1,b1⟩,by rw[h2];intro q hq;rcases List.mem_append.1 hq with h|h;exact this.2 q h;exact b2 q h⟩
omit [aq] in
theorem J4 {B':Nat}{l:Lc}{t:TypeId}{e:Ty}{xs:List e.T}(hb:B≤B')(h:iD S w B' l t e xs):iD S w B l t e xs:=
 ⟨h.1,h.2.imp id fun⟨b,cs,q1,q2,q⟩=>⟨b,cs,q1,dk hb q2,q⟩⟩
omit [aq] in
theorem Xd {B':Nat}{o:fJ}(hb:B≤B')(h:gh S w B' o):gh S w B o:=by
 obtain⟨l,o⟩:=o
 cases o with
 | row te e xs=>exact⟨h.1,J4 hb h.2⟩
 | deep te ti ln xs=>
  have h:cT S w B' l te ti xs (Sg ln):=h
  exact⟨h.len,h.out,fun k x hx hm=>J4 hb (h.row k x hx hm),h.one,h.off,h.CS.imp id fun⟨b,cs,q1,q2,q⟩=>⟨b,cs,q1,dk hb q2,q⟩⟩
omit [aq] in
theorem sZ {B':Nat}{l:Lc}{t:TypeId}{e:Ty}{xs:List e.T}(hf:e.flat=true)(hb:B≤B')(hs:∀ b,S b≠none→b<B')(h:iD S' w B' l t e xs):iD S w B l t e xs:=
 ⟨h.1,h.2.imp id fun⟨b,cs,q1,q2,q3,q4,q5,q6⟩=>⟨b,cs,q1,dk hb q2,by
  cases hS:S b with
  | none=>rfl
  | some o=>have:=hs b (by rw[hS];simp);omega,q4,q5,fun j z hj=>by
  obtain⟨d,m1,m2⟩:=q6 j z hj
  exact⟨d,nO _ _ _ hf m1,m2⟩⟩⟩
omit [aq] in
theorem Ow {B':Nat}{o:fJ}(hf:o.o.flat=true)(hb:B≤B')(hs:∀ b,S b≠none→b<B')(h:gh S' w B' o):gh S w B o:=by
 obtain⟨l,o⟩:=o
 cases o with
 | row te e xs=>exact⟨h.1,sZ hf hb hs h.2⟩
 | deep te ti ln xs=>
  cases ln with
  | true=>simp[Av.flat] at hf
  | false=>
  have h:cT S' w B' l te ti xs .own:=h
  refine (⟨h.len,h.out,fun k x hx hm=>sZ rfl hb hs (h.row k x hx hm),h.one,h.off,h.CS.imp id fun⟨b,cs,q1,q2,q3,q4,q5,q6⟩=>⟨b,cs,q1,dk hb q2,?_,q4,q5,fun k x hx=>?_⟩⟩:cT S w B l te ti xs .own)
  ·cases hS:S b with
   | none=>rfl
   | some o=>have:=hs b (by rw[hS];simp);omega
  ·obtain⟨f0,f2,v,f1,f3,f4,_⟩:=q6 k x hx
   exact⟨f0,f2,v,f1,f3,f4,fun h=>absurd trivial h⟩
def iA (c:aX)(H:Heap):Heap:=cond (Fy c.rs) H (fun _=>none)
theorem Q9 {k:FuncId}{c:aX}(hc:c.OK P k)(sub:∀ i o,Hh i=some o→H i=some o)(R:Rel μ S H B w0 w){as:List AV}{us:Array Value}(hv:aH μ S H as us.toList)
  {x:dQ c.ps} {y:zu c.rs} (hd:cy (iA c Hh) c.ps as=some x) (hf:c.f x=some y) {id:Nat} (hfr:bn H (iG c.rs y id)=true) :
  Calls P k us w fun e w'=>∃ v μ' S',e = .returned v∧VR μ' S' (bc H (iG c.rs y id)) (gw (p7 c.rs y id)) v ∧
   Rel μ' S' (bc H (iG c.rs y id)) B w0 w'∧Carry B μ S H μ' S' (bc H (iG c.rs y id)):=by
 cases hfl:Fy c.rs with
 | true=>
  have hd':cy Hh c.ps as=some x:=by unfold iA at hd;rw[hfl] at hd;exact hd
  have ha:=iF (S':=oa w) (fun b o h=>R.st b o h) (Te R sub) sub hv hd'
  have:=hc x y hf (oa w) w us.toList (fun b o h=>h) (aq.mono _ _ R.st R.pre) ha
  rw[im] at this
  refine this.mono ?_
  rintro e w' ⟨vs,S',os,rfl,hb,h1,h2,h3,h4,h5,h6⟩
  obtain⟨R1,E1⟩:=R.grow (S':=S) hb (fun _ _ h=>h) (fun b o h=>by rw[hb.block b (R.js h)];exact R.st b o h) (fun b h=>.inl h)
  obtain⟨f1,f2⟩:=yJ (S':=S) c.rs y vs os hfl h4
  obtain⟨e1,e2⟩:=jO (μ:=μ) (H:=H) c.rs y vs os id f1
  rw[e1] at hfr ⊢
  have hO:∀ o∈os,gh S w' B o:=fun o ho=>Ow (f2 o ho) R.size (fun b hs=>by
   cases hs2:S b with
   | none=>exact absurd hs2 hs
   | some o'=>exact R.js hs2) (h5 o ho)
  obtain⟨μ',R2,C2,M2,H2,G2⟩:=Rel.G1 os id μ H R1 hfr hO h6 (fun o ho j lj b hj hb' hb2=>by
   have h1:=(N3 (h5 o ho) hb').2.1
   have:=R.p8 hj hb2;omega)
  obtain⟨_,e3⟩:=jO (μ:=μ') (H:=bc H (rowsOf os id)) c.rs y vs os id f1
  exact⟨_,μ',S,rfl,vY (e3 G2),R2,(Carry.of E1).trans C2⟩
 | false=>
  have hd':cy (fun _=>none) c.ps as=some x:=by unfold iA at hd;rw[hfl] at hd;exact hd
  have ha:=iF (S':=S) (H:=H) (Hh:=fun _=>none) (fun b o h=>h) dP.no (fun i o h=>by simp at h) hv hd'
  have:=hc x y hf S w us.toList R.st R.pre ha
  rw[im] at this
  refine this.mono ?_
  rintro e w' ⟨vs,S',os,rfl,hb,h1,h2,h3,h4,h5,h6⟩
  obtain⟨R1,E1⟩:=R.grow (S':=S') hb h1 h2 h3
  obtain⟨e1,e2⟩:=jO (μ:=μ) (H:=H) c.rs y vs os id h4
  rw[e1] at hfr ⊢
  have hO:∀ o∈os,gh S' w' B o:=fun o ho=>Xd R.size (h5 o ho)
  obtain⟨μ',R2,C2,M2,H2,G2⟩:=Rel.G1 os id μ H R1 hfr hO h6 (fun o ho j lj b hj hb' hb2=>by
   have h1:=(N3 (h5 o ho) hb').2.1
   have:=R.p8 hj hb2;omega)
  obtain⟨_,e3⟩:=jO (μ:=μ') (H:=bc H (rowsOf os id)) c.rs y vs os id h4
  exact⟨_,μ',S',rfl,vY (e3 G2),R2,Carry.trans ⟨fun a v=>dA E1 a v,fun b hb=>(h3 b hb).elim .inl (fun x=>.inr (dk R.size x)),h1⟩ C2⟩
end
structure b5 where
 te:TypeId
 e:Ty
 ps:List Ty
 keep:Bool
 f:List e.T→dQ ps→Option (List e.T)
def Ty.notNil:Ty→Bool
 | .nil=>false
 | _=>true
def b5.Ge [aq](P:Program)(k:FuncId):b5→Prop
 | ⟨te,.nil,[.row (.int .u8)],true,f⟩=>∀ (xs:List Int) (r:List Unit),f [] (xs,())=some r→∀ (S:ar) (w:World) (v:Value),(∀ b o,S b=some o→w.heap[b]? = some o)→aq.pre S→Mr S (.row (.int .u8)) xs v →
   Calls P k #[v] w fun e w'=>∃ l:Lc,e = .returned (.slice l.addr xs.length l.cap)∧Below w.heap.size w w'∧iD S w' w.heap.size l te (.int .u8) xs
 | _=>True
def b5.Xp [aq](P:Program)(k:FuncId)(u:b5):Prop:=
 ∀ (zs:List u.e.T) (x:dQ u.ps) (ys:List u.e.T),u.f zs x=some ys→∀ (S:ar) (w:World) (B:Nat) (v0:Value) (cs0 vs:List Value),(∀ b o,S b=some o→w.heap[b]? = some o)→aq.pre S→iB S u.ps x vs →
  gY S u.e zs cs0→w.ownsRow B u.te u.e.size v0 zs.length cs0→(∀ b,v0.ownBlock=some b→S b=none)→B≤w.heap.size →
  Calls P k (v0::vs).toArray w fun e w'=>∃ v cs,e = .returned (cond u.keep (.tuple #[]) v)∧(u.keep=true→v=v0∧ys.length=zs.length)∧gY S u.e ys cs∧w'.ownsRow B u.te u.e.size v ys.length cs ∧
   (∀ b,v.ownBlock=some b→v0.ownBlock=some b∨w.heap.size≤b)∧w.grownBy w' v0.ownBlock
def b5.OK [aq](P:Program)(k:FuncId)(u:b5):Prop:=(u.e.notNil=true→u.Xp P k)∧u.Ge P k
def jd (u:b5)(Hh:Heap)(i g:Nat)(part:Option Nat)(rest:List AV):Option (aS×AV):=
 match Hh i with
 | some (.row te e g' xs)=>match gx (e:=e) (e':=u.e) (match part with
   | none=>xs
   | some b=>xs.take b) with
  | some zs=>match cy (cond u.e.flat (fun q=>cond (eh q i) none (Hh q)) (fun _=>none)) u.ps rest with
   | some x=>match u.f zs x with
    | some ys=>cond (eh g g'&&eh te u.te&&u.e.notNil) (match u.keep with
      | true=>cond (eh (ft ys) (ft zs)&&part.isNone) (some (.row te u.e g ys,.lit (.tuple #[]))) none
      | false=>some (.row te u.e (g+1) ys,.sl i (g+1))) none
    | none=>none
   | none=>none
  | none=>none
 | _=>none
def oH (u:b5)(Hh:Heap)(i:Nat)(zs:List Int):Option (aS×AV):=
 match u with
 | ⟨te,.nil,[.row (.int .u8)],true,f⟩=>match Hh i with
  | some (.aO t ti q xs (.iI m))=>match f [] (zs,()) with
   | some _=>cond (eh te ti) (cond (decide (m<xs.length)) (some (.aO t ti q (xs.set m ((rd cM xs m).1,(zs,(rd cM xs m).2.2))) (.late m),.cH i q m 0 zs.length)) none) none
   | none=>none
  | _=>none
 | _=>none
def jm (u:b5)(Hh:Heap):List AV→Option (Nat×aS×AV)
 | [.Ks i zs]=>match oH u Hh i zs with
  | some (o,v)=>some (i,o,v)
  | none=>none
 | .sl i g::rest=>match jd u Hh i g none rest with
  | some (o,v)=>some (i,o,v)
  | none=>none
 | .sub i g a b::rest=>cond (eh a 0) (match jd u Hh i g (some b) rest with
  | some (o,v)=>some (i,o,v)
  | none=>none) none
 | _=>none
section
variable [aq]{P:Program}{w w' w0:World}{μ μ':Mu}{S S':ar}{H Hh H':Heap}{B:Nat}
omit [aq] in
theorem ng {e:Ty}(hf:e.flat=true):∀ {xs:List e.T} {cs:List Value},gY S e xs cs→gY S' e xs cs
 | [],_,h=>h
 | x::xs,cs,h=>by
  obtain⟨c,d,h1,h2,h3⟩:=h
  exact⟨c,d,h1,nO _ _ _ hf h2,ng hf h3⟩
theorem zq {l:Lc}{te:TypeId}{e:Ty}{g:Nat}{xs:List e.T}(b:Nat)(h:og μ S H w B l (.row te e g xs)):og μ S H w B l (.row te e g (xs.take b)):=by
 obtain⟨⟨h1,h2⟩,h3⟩:=h
 refine⟨⟨by rw[List.length_take];omega,h2⟩,?_⟩
 rcases h3 with h3|⟨b',cs,e1,q1,q2,q3,q4,q5⟩
 ·exact .inl h3
 ·refine .inr ⟨b',cs,e1,q1,q2,q3,q4,fun j x hj=>q5 j x ?_⟩
  rw[List.getElem?_take] at hj
  split at hj
  ·exact hj
  ·simp at hj
omit [aq] in
theorem OD {l l':Lc}(h:l.addr=l'.addr):l.blk=l'.blk:=by
 obtain⟨b,c,n⟩:=l
 obtain⟨b',c',n'⟩:=l'
 cases b<;>cases b'<;>simp_all [Lc.addr]
omit [aq] in
theorem nu (l:Lc)(n c:Nat):Value.ownBlock (.slice l.addr n c)=l.blk:=by
 obtain⟨b,c,n⟩:=l
 cases b<;>rfl
theorem HP (R:Rel μ S H B w0 w){i:Nat}{l:Lc}{te:TypeId}{e:Ty}{g g':Nat}{xs ys:List e.T}{cs:List Value}{v:Value}(hm:μ i=some l)(hi:H i=some (.row te e g xs))(hlt:g<g')
  (hR:gY S e ys cs) (hown:w'.ownsRow B te e.size v ys.length cs) (hv:∀ b,v.ownBlock=some b→l.blk=some b∨w.heap.size≤b) (hg:w.grownBy w' l.blk) :
  ∃ μ',Rel μ' S (aP H i (some (.row te e g' ys))) B w0 w'∧Ext μ S H μ' S (aP H i (some (.row te e g' ys)))∧VR μ' S (aP H i (some (.row te e g' ys))) (.sl i g') v:=by
 have hS:∀ b,v.ownBlock=some b→S b=none:=by
  intro b hb
  rcases hv b hb with h|h
  ·exact (R.ge hm h).2
  ·cases hs:S b with
   | none=>rfl
   | some o=>have:=R.js hs;omega
 obtain⟨l',rfl,h1,hno,hO⟩:=jt (μ:=μ) (H:=H) (g:=g') hR hS hown
 have E:Ext μ S H (aP μ i (some l')) S (aP H i (some (.row te e g' ys))):=Ext.V4 hm hi hlt
 refine⟨aP μ i (some l'),R.put (fun b hb=>?_) (fun b hb=>⟨l,hm,hb⟩) hg E (bD E (fun _ _=>rfl) (fun b hb=>hS b (by rw[h1];exact (Lc.fe hno).1 hb)) hO) hno,E,QF⟩
 rcases hv b (by rw[h1];exact hb) with h|h
 ·exact .inl ⟨l,hm,h⟩
 ·exact .inr h
theorem Oe (R:Rel μ S H B w0 w){i:Nat}{l:Lc}{te:TypeId}{e:Ty}{g:Nat}{xs ys:List e.T}{cs:List Value}(hm:μ i=some l)(hi:H i=some (.row te e g xs))(hl:ys.length=xs.length)
  (hR:gY S e ys cs) (hown:w'.ownsRow B te e.size (.slice l.addr xs.length l.cap) ys.length cs) (hg:w.grownBy w' l.blk) :
  Rel μ S (aP H i (some (.row te e g ys))) B w0 w'∧Ext μ S H μ S (aP H i (some (.row te e g ys))):=by
 have hS:∀ b,Value.ownBlock (.slice l.addr xs.length l.cap)=some b→S b=none:=by
  intro b hb
  rw[nu] at hb
  exact (R.ge hm hb).2
 obtain⟨l',he,h1,hno,hO⟩:=jt (μ:=μ) (H:=H) (g:=g) hR hS hown
 have hnl:=R.iX hm hi
 simp only[Value.slice.injEq] at he
 have hll:l'=l:=by
  obtain⟨b,c,n⟩:=l
  obtain⟨b',c',n'⟩:=l'
  have e1:=OD he.1
  have e2:=he.2.2
  simp only at e1 e2 hno hnl
  rw[e1,e2,hno,hnl]
 subst hll
 have E:Ext μ S H μ S (aP H i (some (.row te e g ys))):=Ext.nF hi hl.symm
 have hmu:aP μ i (some l')=μ:=by
  funext q
  by_cases e1:q=i
  ·subst e1;rw[au,hm]
  ·rw[ax _ _ e1]
 have:=R.put (w':=w') (i:=i) (l:=l') (ho:=.row te e g ys) (fun b hb=>.inl ⟨l',hm,hb⟩) (fun b hb=>⟨l',hm,hb⟩) hg (by rw[hmu];exact E) (by rw[hmu];exact bD E (fun _ _=>rfl) (fun b hb=>(R.CR hm hb).2) hO) hnl
 rw[hmu] at this
 exact⟨this,E⟩
theorem yO {k:FuncId}{u:b5}(hu:u.OK P k)(sub:∀ i o,Hh i=some o→H i=some o)(R:Rel μ S H B w0 w){i g:Nat}{part:Option Nat}{rest:List AV}{v0:Value}{us:List Value}{l:Lc}(hm:μ i=some l)
  (hv0:∀ te e xs,H i=some (.row te e g xs)→v0 = .slice l.addr (match part with
   | none=>xs.length
   | some b=>b) l.cap∧∀ b,part=some b→b≤xs.length)
  (hv:aH μ S H rest us) {o:aS} {v:AV} (h:jd u Hh i g part rest=some (o,v)) :
  Calls P k (v0::us).toArray w fun x w'=>∃ r μ',x = .returned r∧VR μ' S (aP H i (some o)) v r∧Rel μ' S (aP H i (some o)) B w0 w'∧Carry B μ S H μ' S (aP H i (some o)):=by
 unfold jd at h
 split at h
 case h_2=>simp at h
 rename_i te e g' xs hHh
 have hH:=sub _ _ hHh
 split at h
 case h_2=>simp at h
 rename_i zs hzs
 split at h
 case h_2=>simp at h
 rename_i x hx
 split at h
 case h_2=>simp at h
 rename_i ys hys
 obtain⟨hc,h5⟩:=aA h
 clear h
 simp only[be] at hc
 obtain⟨⟨c1,c2⟩,c3⟩:=hc
 have c1:=ba c1
 have c2:=ba c2
 subst c1 c2
 have hu:=hu.1 c3
 obtain⟨he,hz⟩:=b9 hzs
 obtain⟨l0,hm0,hO⟩:=R.obj i _ hH
 have:l0=l:=dq (hm0.symm.trans hm)
 subst this
 obtain⟨k1,k2⟩:=hv0 _ _ _ hH
 obtain⟨ute,ue,ups,uk,uf⟩:=u
 simp only at he zs x ys hzs hx hys h5 hu
 subst he
 simp only at hz
 have hO':og μ S H w B l0 (.row ute e g zs):=by
  rw[hz]
  cases part with
  | none=>exact hO
  | some b=>exact zq b hO
 have hlen:v0 = .slice l0.addr zs.length l0.cap:=by
  rw[k1,hz]
  cases part with
  | none=>rfl
  | some b=>have:=k2 b rfl;simp only[List.length_take];rw[Nat.min_eq_left this]
 obtain⟨cs0,r1,r2⟩:=lZ hO'
 have r1:gY S e zs cs0:=r1
 have hnl:=R.iX hm hH
 have key:∃ S1:ar,(∀ b o,S b=some o→S1 b=some o)∧(∀ b o,S1 b=some o→w.heap[b]? = some o)∧iB S1 ups x us∧(∀ b,l0.blk=some b→S1 b=none) ∧
   (∀ xs cs,gY S e xs cs→gY S1 e xs cs)∧(∀ xs cs,gY S1 e xs cs→gY S e xs cs):=by
  cases hfl:e.flat with
  | false=>
   rw[hfl] at hx
   exact⟨S,fun _ _ h=>h,R.st,iF (S':=S) (H:=H) (Hh:=fun _=>none) (fun b o h=>h) dP.no (fun i o h=>by simp at h) hv hx,fun b hb=>(R.ge hm hb).2,fun _ _ h=>h,fun _ _ h=>h⟩
  | true=>
  rw[hfl] at hx
  have hx:cy (fun q=>cond (eh q i) none (Hh q)) ups rest=some x:=hx
  let S1:ar:=fun b=>if l0.blk=some b then none else w.heap[b]?
  have hS1:∀ b o,S b=some o→S1 b=some o:=by
   intro b o hb
   show (if l0.blk=some b then none else w.heap[b]?)=some o
   rw[if_neg (fun hq=>by rw[(R.ge hm hq).2] at hb;simp at hb)]
   exact R.st b o hb
  have hS1w:∀ b o,S1 b=some o→w.heap[b]? = some o:=by
   intro b o hb
   have hb:(if l0.blk=some b then none else w.heap[b]?)=some o:=hb
   split at hb
   ·simp at hb
   ·exact hb
  have hsub:∀ j o,(fun q=>cond (eh q i) none (Hh q)) j=some o→j≠i∧Hh j=some o:=by
   intro j o hj
   simp only at hj
   cases hb:eh j i with
   | true=>rw[hb] at hj;simp at hj
   | false=>
    rw[hb] at hj
    refine⟨fun hq=>?_,hj⟩
    subst hq
    simp[Nat.beq_refl] at hb
  have hrow:dP μ S1 (fun q=>cond (eh q i) none (Hh q)):=by
   refine⟨fun j t e g xs l hj hmj=>?_,fun j t ti q xs l hj hmj=>?_⟩
   ·obtain⟨hji,hHj⟩:=hsub j _ hj
    obtain⟨lj,m1,m2⟩:=R.obj j _ (sub _ _ hHj)
    have:lj=l:=dq (m1.symm.trans hmj)
    subst this
    have hne:∀ b,lj.blk=some b→S1 b=w.heap[b]?:=fun b hb=>if_neg (fun hq=>R.acY i j l0 lj b (Ne.symm hji) hm m1 hq hb)
    exact jN hS1 hne m2
   ·obtain⟨hji,hHj⟩:=hsub j _ hj
    obtain⟨lj,m1,m2⟩:=R.obj j _ (sub _ _ hHj)
    have:lj=l:=dq (m1.symm.trans hmj)
    subst this
    have hne:∀ b,lj.has b→S1 b=w.heap[b]?:=fun b hb=>if_neg (fun hq=>R.sep i j l0 lj b (Ne.symm hji) hm m1 (.inl hq) hb)
    exact rQ hS1 hne m2
  exact⟨S1,hS1,hS1w,iF (S':=S1) (H:=H) hS1 hrow (fun j o hj=>sub _ _ (hsub j o hj).2) hv hx,fun b hb=>if_pos hb,fun _ _ h=>ng hfl h,fun _ _ h=>ng hfl h⟩
 obtain⟨S1,hS1,hS1w,ha,hSn,toS1,ofS1⟩:=key
 have hcall:=hu zs x ys hys S1 w B v0 cs0 us hS1w (aq.mono _ _ hS1 R.pre) ha (toS1 _ _ r1) (by rw[hlen];exact r2) (fun b hb=>by
  rw[hlen,nu] at hb
  exact hSn b hb) R.size
 refine hcall.mono ?_
 rintro q w' ⟨r,cs,rfl,q1,q2,q3,q4,q5⟩
 rw[hlen,nu] at q4 q5
 have q2':gY S e ys cs:=ofS1 _ _ q2
 cases hk:uk with
 | true=>
  rw[hk] at h5
  simp only at h5
  obtain⟨hc2,h6⟩:=ai h5
  cases h6
  simp only[be] at hc2
  have hpn:part=none:=by simpa using hc2.2
  subst hpn
  obtain⟨rfl,ql⟩:=q1 hk
  have hz':zs=xs:=hz
  subst hz'
  rw[hlen] at q3
  obtain⟨R',E⟩:=Oe R hm hH ql q2' q3 q5
  refine⟨.tuple #[],μ,by simp,by simp only[VR],R',Carry.of E⟩
 | false=>
  rw[hk] at h5
  simp only[bj,kb] at h5
  obtain⟨rfl,rfl⟩:=h5
  obtain⟨μ',R',E,hVR⟩:=HP R hm hH (Nat.lt_succ_self g) q2' q3 q4 q5
  exact⟨r,μ',by simp,hVR,R',Carry.of E⟩
theorem Y6 {k:FuncId}{u:b5}(hu:u.OK P k)(sub:∀ i o,Hh i=some o→H i=some o)(R:Rel μ S H B w0 w){i:Nat}{zs:List Int}{v0:Value}(hv:VR μ S H (.Ks i zs) v0){o:aS}{v:AV}
  (h:oH u Hh i zs=some (o,v)) :
  Calls P k #[v0] w fun x w'=>∃ r μ',x = .returned r∧VR μ' S (aP H i (some o)) v r∧Rel μ' S (aP H i (some o)) B w0 w'∧Carry B μ S H μ' S (aP H i (some o)):=by
 unfold oH at h
 split at h
 case h_2=>simp at h
 rename_i te f
 split at h
 case h_2=>simp at h
 rename_i t ti q xs m hHh
 split at h
 case h_2=>simp at h
 rename_i r hf
 obtain⟨c1,h⟩:=aA h
 have c1:=ba c1
 subst c1
 obtain⟨c2,h⟩:=aA h
 simp only[decide_eq_true_eq] at c2
 cases h
 have hi:=sub _ _ hHh
 obtain⟨l,hm,hO⟩:=R.obj i _ hi
 have D:cT S w B l t te xs (.iI m):=hO
 simp only[VR] at hv
 have hout:=D.out m (.inr (by simp only[gz.mine];omega))
 have hat:(l.at m).blk=none:=by
  show (l.cH m).1=none
  rw[hout]
 refine (hu.2 zs r hf S w v0 R.st R.pre (by unfold Mr;simpa only [Ty.isAgg,cf,if_false] using hv)).mono ?_
 rintro e w' ⟨l2,rfl,hbel,hrow⟩
 have hrow':iD S w' B l2 te (.int .u8) zs:=⟨hrow.1,hrow.2.imp id fun⟨b,cs,q1,q2,q3⟩=>⟨b,cs,q1,dk R.size q2,q3⟩⟩
 obtain⟨cs,k1,k2⟩:=lZ (μ:=μ) (H:=H) (g:=0) (e:=.int .u8) hrow'
 obtain⟨μ',R',E,hV⟩:=pL (q':=q) (st':=.late m) (zs:=zs) R hm hi (fun j hj=>by simp only[gz.mine];omega) (eI m) (fun j _ h=>h) (fun h=>Nat.lt_irrefl _ h) c2 (.inr ⟨rfl,by simp only[gz.mine];omega⟩) k1 k2
  (fun b hb=>.inr (by
   rw[nu] at hb
   rcases hrow.2 with h|⟨b',_,h,hge,_⟩
   ·rw[h.1] at hb;cases hb
   ·rw[h] at hb;cases hb;exact hge))
  ⟨hbel.os,hbel.tape,hbel.output,hbel.size,fun j hj _=>hbel.block j hj⟩
 exact⟨_,μ',rfl,hV,R',Carry.of E⟩
omit [aq] in
theorem Ja [aq]{P:Program}{k:FuncId}{te:TypeId}{e:Ty}{ps:List Ty}{f:List e.T→dQ ps→Option (List e.T)}:(⟨te,e,ps,false,f⟩:b5).Ge P k:=by
 unfold b5.Ge
 split
 ·rename_i h;cases h
 ·trivial
theorem Qp {k:FuncId}{u:b5}(hu:u.OK P k)(sub:∀ i o,Hh i=some o→H i=some o)(R:Rel μ S H B w0 w){as:List AV}{us:Array Value}(hv:aH μ S H as us.toList){i:Nat}{o:aS}{v:AV}(h:jm u Hh as=some (i,o,v)) :
  Calls P k us w fun x w'=>∃ r μ',x = .returned r∧VR μ' S (aP H i (some o)) v r∧Rel μ' S (aP H i (some o)) B w0 w'∧Carry B μ S H μ' S (aP H i (some o)):=by
 unfold jm at h
 split at h
 ·rename_i i' zs
  split at h
  case h_2=>simp at h
  rename_i o' v' hr
  cases h
  simp only[aH] at hv
  obtain⟨v0,r,hus,h1,h2⟩:=hv
  subst h2
  have hus':us = #[v0]:=by apply aw;simpa using hus
  subst hus'
  exact Y6 hu sub R h1 hr
 ·rename_i i' g rest
  split at h
  case h_2=>simp at h
  rename_i o' v' hr
  cases h
  simp only[aH] at hv
  obtain⟨v0,r,hus,h1,h2⟩:=hv
  have hus':us=(v0::r).toArray:=by apply aw;simpa using hus
  subst hus'
  simp only[VR] at h1
  obtain⟨_,l,hm,h3⟩:=h1
  exact yO hu sub R hm (fun te e xs hH=>⟨(h3 _ _ _ _ hH).2 rfl,fun b hb=>by simp at hb⟩) h2 hr
 ·rename_i i' g a b rest
  obtain⟨ha,h⟩:=aA h
  have ha:=ba ha
  subst ha
  split at h
  case h_2=>simp at h
  rename_i o' v' hr
  cases h
  simp only[aH] at hv
  obtain⟨v0,r,hus,h1,h2⟩:=hv
  have hus':us=(v0::r).toArray:=by apply aw;simpa using hus
  subst hus'
  simp only[VR] at h1
  obtain⟨_,l,hm,h3⟩:=h1
  refine yO hu sub R hm (fun te e xs hH=>?_) h2 hr
  obtain⟨p1,p2,ad,rfl,p3,_⟩:=(h3 _ _ _ _ hH).2 rfl
  have had:=p3 (by simp)
  have had':ad=l.addr:=by
   rw[had]
   cases l.addr with
   | none=>rfl
   | some q=>simp[add_zero]
  subst had'
  exact⟨rfl,fun b' hb'=>by cases hb';exact p2⟩
 ·simp at h
end
end Go.Sy
