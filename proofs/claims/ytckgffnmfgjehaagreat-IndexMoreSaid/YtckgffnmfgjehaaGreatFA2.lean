/- Sym5d, Sym6, Sym7, Sym8, Sym8b. -/
import Derived.Test.YtckgffnmfgjehaaGreatFA
import Derived.MapKept
import Derived.RangeFuncRecord
namespace Go.Sy
open Go Go.RowKit Go.MapKept
set_option linter.unusedSimpArgs false
set_option linter.unusedVariables false
theorem nR:∀ (n:Nat) (l:List (Int×Int)) (j:Nat),(bl n l)[j]? = (l[j]?).map fun p=>⟨.int .i64 p.1,.int .i64 p.2,n+j⟩
 | _,[],j=>by simp[bl]
 | n,p::l,0=>by simp[bl]
 | n,p::l,j+1=>by
  simp only[bl,List.getElem?_cons_succ]
  rw[nR (n+1) l j,show n+1+j=n+(j+1) by omega]
theorem iz:∀ (n:Nat) (l:List (Int×Int)) (p:Int×Int),bl n (l++[p])=bl n l++[⟨.int .i64 p.1,.int .i64 p.2,n+l.length⟩]
 | n,[],p=>by simp[bl]
 | n,q::l,p=>by
  simp only[List.cons_append,bl,iz (n+1) l p,List.length_cons]
  rw[show n+1+l.length=n+(l.length+1) by omega]
theorem rO:∀ {l:List (Int×Int)} {x:Int},kf l x=true→l[fC l x]? = some (x,fk l x)
 | [],x,h=>by simp[kf] at h
 | p::l,x,h=>by
  simp only[kf,fC,fk] at h ⊢
  by_cases e:x=p.1
  ·subst e;simp
  ·rw[decide_eq_false e] at h ⊢
   simp only[cond_false,List.getElem?_cons_succ] at h ⊢
   exact rO h
theorem we:∀ {l:List (Int×Int)} {x:Int},kf l x=false→fC l x=l.length∧fk l x=0
 | [],x,_=>⟨rfl,rfl⟩
 | p::l,x,h=>by
  simp only[kf,fC,fk] at h ⊢
  by_cases e:x=p.1
  ·rw[decide_eq_true e] at h;simp at h
  ·rw[decide_eq_false e] at h ⊢
   simp only[cond_false] at h ⊢
   obtain⟨h1,h2⟩:=we h
   exact⟨by rw[h1];rfl,h2⟩
theorem qi (x:Int):∀ (l:List (Int×Int)) (n i:Nat),Instr.findNow (.int .i64) (.int .i64 x) (bl n l) i=some (cond (kf l x) (some (i+fC l x,.int .i64 (fk l x))) none)
 | [],n,i=>rfl
 | p::l,n,i=>by
  simp only[bl,Instr.findNow,Instr.sameNow,if_true,kf,fC,fk]
  by_cases e:x=p.1
  ·subst e;simp
  ·have:(x == p.1)=false:=by simpa using e
   rw[this,decide_eq_false e]
   simp only[cond_false]
   rw[qi x l (n+1) (i+1),show i+1+fC l x=i+(fC l x+1) by omega]
theorem uJ:∀ (l:List (Int×Int)) (n j:Nat) (v:Int),(bl n l).modify j (fun e=>{ e with val:=.int .i64 v })=bl n (pQ l j v)
 | [],n,j,v=>by cases j<;>rfl
 | p::l,n,0,v=>rfl
 | p::l,n,j+1,v=>by
  simp only[bl,pQ]
  rw[List.modify_succ_cons,uJ l (n+1) j v]
theorem je:∀ (l:List (Int×Int)) (j:Nat) (v:Int),(pQ l j v).length=l.length
 | [],_,_=>rfl
 | _::_,0,_=>rfl
 | _::l,j+1,v=>by simp only[pQ,List.length_cons,je l j v]
theorem DW:∀ (l:List (Int×Int)) (n j:Nat),j<l.length→(bl n l).findIdx? (fun e=>(e.born:Int) == ((n+j:Nat):Int))=some j
 | [],n,j,h=>by simp at h
 | p::l,n,0,h=>by
  simp only[bl,List.findIdx?_cons]
  simp
 | p::l,n,j+1,h=>by
  simp only[bl,List.findIdx?_cons]
  have:((n:Int) == ((n+(j+1):Nat):Int))=false:=by
   rw[beq_eq_false_iff_ne];omega
  rw[this]
  have ih:=DW l (n+1) j (by simpa using h)
  rw[show n+1+j=n+(j+1) by omega] at ih
  rw[ih];rfl
structure Sq (P:Program)(t k e:TypeId)(i:TypeInfo):Prop where
 map:P.underlying t=some (.map k e)
 key:P.underlying k=some (.int .i64)
 info:P.info? e=some i
 zero:i.zero=some (.int .i64 0)
theorem iq {P:Program}{t:TypeId}(h:eP P t=true):∃ k e i,Sq P t k e i:=by
 unfold eP at h
 split at h
 ·rename_i k e ht
  simp only[Bool.and_eq_true] at h
  obtain⟨⟨h1,h2⟩,h3⟩:=h
  split at h3
  ·rename_i i hi
   split at h3
   ·rename_i hz
    refine⟨k,e,i,ht,?_,hi,hz⟩
    unfold eG at h1
    split at h1
    ·assumption
    ·simp at h1
   ·simp at h3
  ·simp at h3
 ·simp at h
section
variable [aq]{P:Program}{w w' w0:World}{μ:Mu}{S:ar}{H Hh:Heap}{B:Nat}
omit [aq] in
theorem jI {b:Nat}(hb:B≤b)(o:Obj):Below B w (w.putObj b o):=
 ⟨rfl,rfl,rfl,by simp,fun k hk=>World.putObj_heap_other (by omega)⟩
omit [aq] in
theorem Ext.map {i:Nat}{es:List (Int×Int)}:Ext μ S H μ S (aM H i (some (.map es))):=Ext.still' rfl
theorem Rel.map (R:Rel μ S H B w0 w){i b cp:Nat}{es:List (Int×Int)}(h:H i=some (.map es))(hm:μ i=some ⟨some b,cp,aP⟩):w.heap[b]? = some (.map (bl 0 es).toArray es.length):=by
 obtain⟨l,h1,h2⟩:=R.obj i _ h
 rw[hm] at h1;cases h1
 obtain⟨b',q1,q2,q3,q4⟩:=h2
 cases q1
 exact q4
theorem Rel.Bk (R:Rel μ S H B w0 w){i b cp:Nat}{es fs:List (Int×Int)}(h:H i=some (.map es))(hm:μ i=some ⟨some b,cp,aP⟩) :
  Rel μ S (aM H i (some (.map fs))) B w0 (w.putObj b (.map (bl 0 fs).toArray fs.length)):=by
 obtain⟨l,h1,h2⟩:=R.obj i _ h
 rw[hm] at h1;cases h1
 obtain⟨b',q1,q2,q3,q4⟩:=h2
 cases q1
 exact R.wr hm (.inl rfl) _ (jI (Nat.le_refl _) _) (by simp) (fun k hk=>World.putObj_heap_other hk) Ext.map ⟨b,rfl,q2,q3,World.putObj_heap_same (R.lt hm rfl)⟩ (.inl rfl)
omit [aq] in
theorem bp {b:Nat}{es:Array MapEntry}{clock:Nat}(o:Obj)(hb:w.heap[b]? = some (.map es clock)):(setObj b o).run P w = .ok () (w.putObj b o):=run_setObj_map o hb
theorem zi (R:Rel μ S H B w0 w){id:Nat}{t:TypeId}{out:Out}(h:jt P id t=some out)(hf:out.fresh H=true) :
  bD P w w0 μ S H B (do pure (.value (← Instr.makeMap t none))) out:=by
 unfold jt at h
 cases hc:eP P t with
 | false=>
  rw[hc] at h
  obtain⟨_,rfl⟩:=ah h
  have hid:H id=none:=by simpa [Out.fresh] using hf
  obtain⟨h1,h2⟩:=R.new hid (.map #[] 0) (.cg []) ⟨some w.heap.size,0,aP⟩ rfl ⟨w.heap.size,#[],0,rfl,R.size,nT R,alloc_heap_new _ _,rfl⟩
  refine⟨.value (.map (some w.heap.size)),_,w.alloc (.map #[] 0),_,?_,.inl rfl,h1,h2,?_⟩
  ·simp only[Instr.makeMap,Sem.run_bind,Result.andThen_ok,Sem.run_pure,run_newObj]
   rfl
  ·simp only[Out.res,VR]
   exact⟨w.heap.size,0,au _ _ _,fun o h=>by simp only[Out.heap] at h;rw[au] at h;cases h;rfl,rfl⟩
 | true=>
 rw[hc] at h
 simp only[cond_true,Option.some.injEq] at h
 subst h
 have hid:H id=none:=by simpa [Out.fresh] using hf
 obtain⟨h1,h2⟩:=R.new hid (.map #[] 0) (.map []) ⟨some w.heap.size,0,aP⟩ rfl ⟨w.heap.size,rfl,R.size,nT R,alloc_heap_new _ _⟩
 refine⟨.value (.map (some w.heap.size)),_,w.alloc (.map #[] 0),_,?_,.inl rfl,h1,h2,?_⟩
 ·simp only[Instr.makeMap,Sem.run_bind,Result.andThen_ok,Sem.run_pure,run_newObj]
  rfl
 ·simp only[Out.res,VR]
  exact⟨w.heap.size,0,au _ _ _,fun o h=>by simp only[Out.heap] at h;rw[au] at h;cases h;rfl,rfl⟩
theorem xd (sub:∀ i o,Hh i=some o→H i=some o)(R:Rel μ S H B w0 w){t:TypeId}{x y:AV}{vx vy:Value}{out:Out}(hx:VR μ S H x vx)(hy:VR μ S H y vy)(h:gB P Hh t x y=some out) :
  bD P w w0 μ S H B (do pure (.value (← Instr.mapEntry t vx vy))) out:=by
 unfold gB at h
 split at h
 case h_2=>simp at h
 rename_i j k
 split at h
 case h_2=>simp at h
 rename_i es hH
 obtain⟨hii,rfl⟩:=ah h
 obtain⟨kt,et,inf,M⟩:=iq hii
 have hHj:=sub _ _ hH
 simp only[VR] at hx hy
 obtain⟨b,cp,hm,_,rfl⟩:=hx
 subst hy
 have hb:=R.map hHj hm
 have hg:(getObj b).run P w = .ok (.map (bl 0 es).toArray es.length) w:=MapKept.run_getObj_map hb
 have hck:(Instr.checkKey false 10000 kt (.int .i64 k)).run P w = .ok () w:=run_checkKey (d:=.int .i64) M.key (show IsKey (.int .i64) (.int .i64 k) from rfl) false 9999
 have hfk:=run_findKey (P:=P) (w:=w) (k:=.int .i64 k) M.key (qi k es 0 0)
 have hz:(zeroValue et).run P w = .ok (.int .i64 0) w:=jS M.info M.zero
 refine⟨.value (.tuple #[.int .i64 (fk es k),.int .i64 ((fC es k:Nat):Int)]),_,w.putObj b (.map (bl 0 (BH es k)).toArray (BH es k).length),μ,?_,.inl rfl,R.Bk hHj hm,Ext.map,?_⟩
 ·cases hh:kf es k with
  | true=>
   rw[hh] at hfk
   simp only[cond_true,Nat.zero_add] at hfk
   have hat:=rO hh
   have hget:(bl 0 es)[fC es k]? = some ⟨.int .i64 k,.int .i64 (fk es k),fC es k⟩:=by rw[nR,hat];simp
   have hme:BH es k=es:=by unfold BH;rw[hh];rfl
   have hks:(Instr.keyThatStays (.int .i64 k) (.int .i64 k)).run P w = .ok (.int .i64 k) w:=by simp[Instr.keyThatStays,Instr.sameBits]
   have hmod:(bl 0 es).toArray.modify (fC es k) (fun e=>{ e with key:=.int .i64 k })=(bl 0 es).toArray:=by
    apply Array.ext'
    rw[Array.toList_modify]
    apply List.ext_getElem?
    intro q
    rw[List.getElem?_modify]
    by_cases e:fC es k=q
    ·subst e;simp[hget]
    ·simp[e]
   simp only[Instr.mapEntry,Sem.run_bind,aF M.map,Result.andThen_ok,hg,hck,hfk,List.getElem?_toArray,hget,Option.map_some,Option.getD_some,hks,hmod,bp _ hb,Sem.run_pure,hme,goInt]
  | false=>
   rw[hh] at hfk
   simp only[cond_false] at hfk
   obtain⟨e1,e2⟩:=we hh
   have hme:BH es k=es++[(k,0)]:=by unfold BH;rw[hh];rfl
   have hpush:(bl 0 es).toArray.push ⟨.int .i64 k,.int .i64 0,es.length⟩=(bl 0 (es++[(k,0)])).toArray:=by
    apply Array.ext'
    rw[iz]
    simp
   simp only[Instr.mapEntry,Sem.run_bind,aF M.map,Result.andThen_ok,hg,hck,hfk,hz,hpush,bp _ hb,Sem.run_pure,hme,goInt,e1,e2,List.length_append,List.length_cons,List.length_nil]
 ·simp only[Out.res,VR,aE]
  exact⟨_,rfl,_,_,rfl,rfl,_,_,rfl,rfl,rfl⟩
theorem qH (sub:∀ i o,Hh i=some o→H i=some o)(R:Rel μ S H B w0 w){t:TypeId}{x y z:AV}{vx vy vz:Value}{out:Out}(hx:VR μ S H x vx)(hy:VR μ S H y vy)(hz:VR μ S H z vz)
  (h:ec Hh x y z=some out) (hk:out.ok=true) :
  bD P w w0 μ S H B (do Instr.entryStore t vx vy vz;pure .skip) out:=by
 unfold ec at h
 split at h
 case h_2=>simp at h
 rename_i j s v
 split at h
 case h_2=>simp at h
 rename_i es hH
 cases h
 simp only[Out.ok,Bool.and_eq_true,decide_eq_true_eq] at hk
 have hHj:=sub _ _ hH
 simp only[VR] at hx hy hz
 obtain⟨b,cp,hm,_,rfl⟩:=hx
 subst hy hz
 have hb:=R.map hHj hm
 have hg:(getObj b).run P w = .ok (.map (bl 0 es).toArray es.length) w:=MapKept.run_getObj_map hb
 have hs:s=((0+s.toNat:Nat):Int):=by omega
 have hfi:(bl 0 es).toArray.findIdx? (fun e=>(e.born:Int) == s)=some s.toNat:=by
  have:=DW es 0 s.toNat (by omega)
  rw[← hs] at this
  rw[List.findIdx?_toArray]
  exact this
 have hmod:(bl 0 es).toArray.modify s.toNat (fun e=>{ e with val:=.int .i64 v })=(bl 0 (pQ es s.toNat v)).toArray:=by
  apply Array.ext'
  rw[Array.toList_modify,uJ]
 refine⟨.skip,undef,w.putObj b (.map (bl 0 (pQ es s.toNat v)).toArray (pQ es s.toNat v).length),μ,?_,.inr ⟨rfl,rfl⟩,R.Bk hHj hm,Ext.map,by simp only[Out.res,VR]⟩
 rw[je]
 simp only[Instr.entryStore,Sem.run_bind,Result.andThen_ok,hg,asInt,asIntOf,Sem.run_map,Sem.run_pure,hfi,hmod,bp _ hb]
omit [aq] in
theorem nL {α β:Type}(f:α→β):∀ (l:List α) (i:Nat),(l.eraseIdx i).map f=(l.map f).eraseIdx i
 | [],_=>rfl
 | _::_,0=>rfl
 | a::l,i+1=>by simp only[List.eraseIdx_cons_succ,List.map_cons,nL f l i]
omit [aq] in
theorem iK {k:TypeId}(h:fZ P k=true):∃ (fs:Array Field) (f g q:Field),P.underlying k=some (.struct fs)∧P.stoodInHeld k=false∧fs.toList=[f,g,q]∧(f.name == "_")=false∧(g.name == "_")=false∧(q.name == "_")=false ∧
  (P.underlying f.type=some (.int .i64)∧P.underlying g.type=some (.int .i64)∧P.underlying q.type=some (.int .i64))∧((∃ i,P.info? f.type=some i)∧(∃ i,P.info? g.type=some i)∧∃ i,P.info? q.type=some i)∧f.offset=0∧g.offset=1∧q.offset=2:=by
 have i64:∀ t,eG P t=true→P.underlying t=some (.int .i64):=fun t ht=>by
  unfold eG at ht
  split at ht
  ·assumption
  ·simp at ht
 unfold fZ at h
 split at h
 case h_2=>simp at h
 rename_i fs hfs
 rw[Bool.and_eq_true] at h
 obtain⟨h1,h⟩:=h
 split at h
 case h_2=>simp at h
 rename_i f g q hl
 simp only[Bool.and_eq_true,Bool.not_eq_true',Option.isSome_iff_exists] at h
 obtain⟨⟨⟨⟨⟨⟨⟨⟨⟨⟨⟨a1,a2⟩,a3⟩,a4⟩,a5⟩,a6⟩,a7⟩,a8⟩,a9⟩,b1⟩,b2⟩,b3⟩:=h
 exact⟨fs,f,g,q,hfs,by simpa using h1,hl,a1,a2,a3,⟨i64 _ a4,i64 _ a5,i64 _ a6⟩,⟨a7,a8,a9⟩,Nat.eq_of_beq_eq_true b1,Nat.eq_of_beq_eq_true b2,Nat.eq_of_beq_eq_true b3⟩
abbrev a3 (x:K3):AV:=.agg [.lit (.int .i64 x.1),.lit (.int .i64 x.2.1),.lit (.int .i64 x.2.2)]
omit [aq] in
theorem M9 (μ:Mu)(S:ar)(H:Heap)(x:K3):VR μ S H (a3 x) (sD x):=by
 simp only[VR]
 exact⟨_,rfl,by simp[aE,VR]⟩
omit [aq] in
theorem Ke {x:K3}{v:Value}(h:VR μ S H (a3 x) v):v=sD x:=by
 simp only[VR] at h
 obtain⟨us,rfl,h2⟩:=h
 simp only[aE,VR] at h2
 unfold sD
 congr 1
 apply Array.ext'
 obtain⟨_,_,h3,rfl,_,_,h4,rfl,_,_,h5,rfl,h6⟩:=h2
 rw[h3,h4,h5,h6]
omit [aq] in
theorem UN {k:TypeId}(h:fZ P k=true)(x y:K3):KX P 2 k (a3 x) (a3 y)=some (k3 x y):=by
 obtain⟨fs,f,g,q,h1,h2,h3,n1,n2,n3,⟨u1,u2,u3⟩,⟨⟨i1,j1⟩,⟨i2,j2⟩,⟨i3,j3⟩⟩,o1,o2,o3⟩:=iK h
 have c1:∀ z:K3,cut P f.type [.lit (.int .i64 z.1),.lit (.int .i64 z.2.1),.lit (.int .i64 z.2.2)] f.offset=some (.lit (.int .i64 z.1)):=fun z=>by unfold cut;rw[u1,j1,o1];rfl
 have c2:∀ z:K3,cut P g.type [.lit (.int .i64 z.1),.lit (.int .i64 z.2.1),.lit (.int .i64 z.2.2)] g.offset=some (.lit (.int .i64 z.2.1)):=fun z=>by unfold cut;rw[u2,j2,o2];rfl
 have c3:∀ z:K3,cut P q.type [.lit (.int .i64 z.1),.lit (.int .i64 z.2.1),.lit (.int .i64 z.2.2)] q.offset=some (.lit (.int .i64 z.2.2)):=fun z=>by unfold cut;rw[u3,j3,o3];rfl
 have e:∀ (t:TypeId) (a b:Int),P.underlying t=some (.int .i64)→KX P 1 t (.lit (.int .i64 a)) (.lit (.int .i64 b))=some (decide (a=b)):=fun t a b ht=>by
  simp only[KX,RG,ht,decide_true,cond_true]
 show RG P (KX P 1) k _ _=_
 simp only[RG,h1,h2,cond_false,h3,Px,n1,n2,n3,c1,c2,c3,e _ _ _ u1,e _ _ _ u2,e _ _ _ u3]
 rfl
omit [aq] in
theorem KL {k:TypeId}(h:fZ P k=true)(x y:K3):(Op.equal k (sD x) (sD y)).run P w = .ok (k3 x y) w:=
 B5 (μ:=fun _=>none) (S:=fun _=>none) (H:=fun _=>none) 2 Op.maxDepth k _ _ _ _ _ (by decide) (UN h x y) (M9 _ _ _ x) (M9 _ _ _ y)
omit [aq] in
theorem KV {k:TypeId}(h:fZ P k=true)(x:K3)(e:Bool)(n:Nat):(Instr.checkKey e (n+1+1) k (sD x)).run P w = .ok () w:=by
 obtain⟨fs,f,g,q,h1,h2,h3,n1,n2,n3,⟨u1,u2,u3⟩,⟨⟨i1,j1⟩,⟨i2,j2⟩,⟨i3,j3⟩⟩,o1,o2,o3⟩:=iK h
 have pt:∀ (t:TypeId) (off:Nat) (n:Int),cut P t [.lit (.int .i64 x.1),.lit (.int .i64 x.2.1),.lit (.int .i64 x.2.2)] off=some (.lit (.int .i64 n))→(part t #[.int .i64 x.1,.int .i64 x.2.1,.int .i64 x.2.2] off).run P w = .ok (.int .i64 n) w:=fun t off n hc=>by
  obtain⟨u,k1,k2⟩:=iM (P:=P) (w:=w) (μ:=fun _=>none) (S:=fun _=>none) (H:=fun _=>none) (vs:=#[.int .i64 x.1,.int .i64 x.2.1,.int .i64 x.2.2]) (by simp[aE,VR]) hc
  simp only[VR] at k2
  rw[k1,k2]
 have c1:=pt f.type f.offset x.1 (by unfold cut;rw[u1,j1,o1];rfl)
 have c2:=pt g.type g.offset x.2.1 (by unfold cut;rw[u2,j2,o2];rfl)
 have c3:=pt q.type q.offset x.2.2 (by unfold cut;rw[u3,j3,o3];rfl)
 have ck:∀ (t:TypeId) (i:Int),P.underlying t=some (.int .i64)→(Instr.checkKey e (n+1) t (.int .i64 i)).run P w = .ok () w:=fun t i ht=>run_checkKey (d:=.int .i64) ht (show IsKey (.int .i64) (.int .i64 i) from rfl) e n
 have m1:f.name ≠ "_" := by simpa using n1
 have m2:g.name ≠ "_" := by simpa using n2
 have m3:q.name ≠ "_" := by simpa using n3
 show (Instr.checkKey e (n+1+1) k (.agg #[.int .i64 x.1,.int .i64 x.2.1,.int .i64 x.2.2])).run P w=_
 rw[Instr.checkKey]
 simp only[Sem.run_bind,aF h1,Result.andThen_ok]
 rw[← Array.forIn_toList,h3]
 simp only[List.forIn_cons,List.forIn_nil,if_pos m1,if_pos m2,if_pos m3,Sem.run_bind,c1,c2,c3,Result.andThen_ok,ck _ _ u1,ck _ _ u2,ck _ _ u3,Sem.run_pure]
omit [aq] in
theorem BV {k:TypeId}(h:fZ P k=true)(x:K3)(e:Bool):(Instr.checkKey e 10000 k (sD x)).run P w = .ok () w:=KV h x e 9998
omit [aq] in
theorem TM (x:K3):(Instr.keyThatStays (sD x) (sD x)).run P w = .ok (sD x) w:=by
 have hb:Instr.sameBits (9999+1) (sD x) (sD x)=true:=by
  simp[sD,Instr.sameBits]
 have hb:Instr.sameBits 10000 (sD x) (sD x)=true:=hb
 unfold Instr.keyThatStays
 rw[if_pos hb];rfl
def iR:List (K3×Int)→K3→Option Nat
 | [],_=>none
 | p::l,x=>cond (k3 x p.1) (some 0) ((iR l x).map (· + 1))
omit [aq] in
theorem pn {k:TypeId}(h:fZ P k=true)(x:K3):∀ (ents:List MapEntry) (es:List (K3×Int)) (i:Nat),ents.map (fun e=>(e.key,e.val))=es.map Kv →
  (Instr.findAsking k (sD x) ents i).run P w = .ok ((iR es x).map fun j=>(i+j,.int .i64 (bc es x))) w
 | [],[],i,_=>by simp[Instr.findAsking,iR]
 | e::ents,[],i,he=>by simp at he
 | [],p::es,i,he=>by simp at he
 | e::ents,p::es,i,he=>by
  simp only[List.map_cons,List.cons.injEq,Kv,Prod.mk.injEq] at he
  obtain⟨⟨e1,e2⟩,e3⟩:=he
  have ih:=pn h x ents es (i+1) e3
  unfold Instr.findAsking
  simp only[Sem.run_bind,e1,KL h x p.1,Result.andThen_ok]
  cases hk:k3 x p.1 with
  | true=>simp[iR,bc,hk,e2]
  | false=>
   simp only[Bool.false_eq_true,if_false,ih,iR,bc,hk,cond_false,Option.map_map]
   congr 2
   funext j
   simp only[Function.comp]
   rw[show i+1+j=i+(j+1) by omega]
omit [aq] in
theorem ri {k:TypeId}(h:fZ P k=true)(x:K3)(ents:List MapEntry)(es:List (K3×Int))(he:ents.map (fun e=>(e.key,e.val))=es.map Kv) :
  (Instr.findKey k (sD x) ents).run P w = .ok ((iR es x).map fun j=>(j,.int .i64 (bc es x))) w:=by
 obtain⟨fs,f,g,q,h1,_⟩:=iK h
 have ha:=pn (w:=w) h x ents es 0 he
 simp only[Nat.zero_add] at ha
 unfold Instr.findKey
 simp only[Sem.run_bind,aF h1,Result.andThen_ok]
 cases ents with
 | nil=>
  have:es=[]:=by simpa using he.symm
  subst this
  simp[Instr.findNow,iR]
 | cons e ents=>
  have hn:Instr.findNow (.struct fs) (sD x) (e::ents) 0=none:=by
   simp[Instr.findNow,Instr.sameNow]
  rw[hn];exact ha
omit [aq] in
theorem zh:∀ (es:List (K3×Int)) (x:K3),jm es x=(iR es x).isSome
 | [],_=>rfl
 | p::l,x=>by
  simp only[jm,iR]
  cases k3 x p.1 with
  | true=>rfl
  | false=>simp[zh l x]
omit [aq] in
theorem SA {x y:K3}(h:k3 x y=true):x=y:=by
 simp only[k3,Bool.and_eq_true,decide_eq_true_eq,and_true] at h
 exact Prod.ext h.1 (Prod.ext h.2.1 h.2.2)
omit [aq] in
theorem oy:∀ {es:List (K3×Int)} {x:K3} {j:Nat},iR es x=some j→es[j]? = some (x,bc es x)∧(∀ v,jV es x v=es.set j (x,v))∧j0 es x=es.eraseIdx j
 | [],_,_,h=>by simp[iR] at h
 | p::l,x,j,h=>by
  simp only[iR] at h
  cases hk:k3 x p.1 with
  | true=>
   rw[hk] at h
   simp only[cond_true,Option.some.injEq] at h
   subst h
   have:=SA hk
   refine⟨?_,fun v=>?_,?_⟩
   ·simp only[bc,hk,cond_true,List.getElem?_cons_zero]
    rw[this]
   ·simp only[jV,hk,cond_true,List.set_cons_zero]
   ·simp only[j0,hk,cond_true,List.eraseIdx_cons_zero]
  | false=>
   rw[hk] at h
   simp only[cond_false,Option.map_eq_some_iff] at h
   obtain⟨i,hi,rfl⟩:=h
   obtain⟨a,b,c⟩:=oy hi
   refine⟨?_,fun v=>?_,?_⟩
   ·simp only[bc,hk,cond_false,List.getElem?_cons_succ];exact a
   ·simp only[jV,hk,cond_false,List.set_cons_succ,b v]
   ·simp only[j0,hk,cond_false,List.eraseIdx_cons_succ,c]
omit [aq] in
theorem jJ:∀ {es:List (K3×Int)} {x:K3},iR es x=none→(∀ v,jV es x v=es++[(x,v)])∧j0 es x=es∧bc es x=0
 | [],_,_=>⟨fun _=>rfl,rfl,rfl⟩
 | p::l,x,h=>by
  simp only[iR] at h
  cases hk:k3 x p.1 with
  | true=>rw[hk] at h;simp at h
  | false=>
   rw[hk] at h
   simp only[cond_false,Option.map_eq_none_iff] at h
   obtain⟨a,b,c⟩:=jJ h
   refine⟨fun v=>?_,?_,?_⟩
   ·simp only[jV,hk,cond_false,a v,List.cons_append]
   ·simp only[j0,hk,cond_false,b]
   ·simp only[bc,hk,cond_false,c]
omit [aq] in
theorem jd {t:TypeId}(h:iE P t=true):∃ k e i,P.underlying t=some (.map k e)∧fZ P k=true∧P.info? e=some i∧i.zero=some (.int .i64 0):=by
 unfold iE at h
 split at h
 case h_2=>simp at h
 rename_i k e ht
 simp only[Bool.and_eq_true] at h
 obtain⟨⟨h1,h2⟩,h3⟩:=h
 split at h3
 case h_2=>simp at h3
 rename_i i hi
 split at h3
 case h_2=>simp at h3
 rename_i hz
 exact⟨k,e,i,ht,h1,hi,hz⟩
omit [aq] in
theorem Ext.cg {i:Nat}{es:List (K3×Int)}:Ext μ S H μ S (aM H i (some (.cg es))):=Ext.still' rfl
theorem Rel.cg (R:Rel μ S H B w0 w){i b cp:Nat}{es:List (K3×Int)}(h:H i=some (.cg es))(hm:μ i=some ⟨some b,cp,aP⟩) :
  ∃ ents ck,w.heap[b]? = some (.map ents ck)∧ents.toList.map (fun e=>(e.key,e.val))=es.map Kv:=by
 obtain⟨l,h1,h2⟩:=R.obj i _ h
 rw[hm] at h1;cases h1
 obtain⟨b',ents,ck,q1,q2,q3,q4,q5⟩:=h2
 cases q1
 exact⟨ents,ck,q4,q5⟩
theorem Rel.qh (R:Rel μ S H B w0 w){i b cp:Nat}{es fs:List (K3×Int)}(h:H i=some (.cg es))(hm:μ i=some ⟨some b,cp,aP⟩){ents:Array MapEntry}{ck:Nat}(he:ents.toList.map (fun e=>(e.key,e.val))=fs.map Kv) :
  Rel μ S (aM H i (some (.cg fs))) B w0 (w.putObj b (.map ents ck)):=by
 obtain⟨l,h1,h2⟩:=R.obj i _ h
 rw[hm] at h1;cases h1
 obtain⟨b',_,_,q1,q2,q3,q4,q5⟩:=h2
 cases q1
 exact R.wr hm (.inl rfl) _ (jI (Nat.le_refl _) _) (by simp) (fun k hk=>World.putObj_heap_other hk) Ext.cg ⟨b,ents,ck,rfl,q2,q3,World.putObj_heap_same (R.lt hm rfl),he⟩ (.inl rfl)
theorem sx (sub:∀ i o,Hh i=some o→H i=some o)(R:Rel μ S H B w0 w){t:TypeId}{j:Nat}{x y z v:Int}{vx vy vz:Value}{out:Out}(hx:VR μ S H (.mp j) vx)(hy:VR μ S H (.agg [.lit (.int .i64 x),.lit (.int .i64 y),.lit (.int .i64 z)]) vy)(hz:VR μ S H (.lit (.int .i64 v)) vz)
  (h:(match Hh j with
   | some (.cg es)=>cond (iE P t) (some (.wr true j (.cg (jV es (x,(y,z)) v)) (.lit undef))) none
   | _=>none)=some out) :
  bD P w w0 μ S H B (do Instr.mapUpdate t vx vy vz;pure .skip) out:=by
 split at h
 case h_2=>simp at h
 rename_i es hH
 obtain⟨hii,rfl⟩:=ah h
 obtain⟨kt,et,inf,m1,m2,m3,m4⟩:=jd hii
 have hHj:=sub _ _ hH
 have hy:=Ke (x:=(x,(y,z))) hy
 simp only[VR] at hx hz
 obtain⟨b,cp,hm,_,rfl⟩:=hx
 subst hy hz
 obtain⟨ents,ck,hb,he⟩:=R.cg hHj hm
 have hg:(getObj b).run P w = .ok (.map ents ck) w:=MapKept.run_getObj_map hb
 have hck:=BV (w:=w) m2 (x,(y,z)) false
 have hfk:=ri (w:=w) m2 (x,(y,z)) ents.toList es he
 cases ha:iR es (x,(y,z)) with
 | some i=>
  rw[ha] at hfk
  obtain⟨s1,s2,s3⟩:=oy ha
  have hget:(ents.toList.map fun e=>(e.key,e.val))[i]? = some (Kv ((x,(y,z)),bc es (x,(y,z)))):=by rw[he,List.getElem?_map,s1];rfl
  rw[List.getElem?_map] at hget
  obtain⟨e0,he0,he1⟩:=Option.map_eq_some_iff.1 hget
  simp only[Kv,Prod.mk.injEq] at he1
  have hget':ents[i]? = some e0:=by rw[← Array.getElem?_toList];exact he0
  have hks:=TM (P:=P) (w:=w) (x,(y,z))
  have hil:i<ents.toList.length:=(List.getElem?_eq_some_iff.1 he0).1
  refine⟨.skip,undef,w.putObj b (.map (ents.modify i fun e=>{ e with key:=sD (x,(y,z)),val:=.int .i64 v }) ck),μ,?_,.inr ⟨rfl,rfl⟩,R.qh hHj hm ?_,Ext.cg,by simp only[Out.res,VR]⟩
  ·simp only[Instr.mapUpdate,Sem.run_bind,aF m1,Result.andThen_ok,hg,hck,hfk,Option.map_some,hget',Option.getD_some,he1.1,hks,bp _ hb,Sem.run_pure]
  ·rw[s2,Array.toList_modify]
   apply List.ext_getElem?
   intro n
   rw[List.getElem?_map,List.getElem?_modify,List.getElem?_map,List.getElem?_set]
   have hn:(ents.toList.map fun e=>(e.key,e.val))[n]? = (es.map Kv)[n]?:=by rw[he]
   rw[List.getElem?_map,List.getElem?_map] at hn
   by_cases hin:i=n
   ·subst hin
    rw[he0]
    have hlt:i<es.length:=(List.getElem?_eq_some_iff.1 s1).1
    simp[hlt,Kv]
   ·simp only[hin,if_false]
    simpa using hn
 | none=>
  rw[ha] at hfk
  obtain⟨s1,s2,s3⟩:=jJ ha
  refine⟨.skip,undef,w.putObj b (.map (ents.push ⟨sD (x,(y,z)),.int .i64 v,ck⟩) (ck+1)),μ,?_,.inr ⟨rfl,rfl⟩,R.qh hHj hm ?_,Ext.cg,by simp only[Out.res,VR]⟩
  ·simp only[Instr.mapUpdate,Sem.run_bind,aF m1,Result.andThen_ok,hg,hck,hfk,Option.map_none,bp _ hb,Sem.run_pure]
  ·rw[s1,Array.toList_push,List.map_append,List.map_append,he]
   rfl
theorem ze (sub:∀ i o,Hh i=some o→H i=some o)(R:Rel μ S H B w0 w){t:TypeId}{ok:Bool}{j:Nat}{x y z:Int}{vx vy:Value}{out:Out}(hx:VR μ S H (.mp j) vx)(hy:VR μ S H (.agg [.lit (.int .i64 x),.lit (.int .i64 y),.lit (.int .i64 z)]) vy)
  (h:(match Hh j with
   | some (.cg es)=>cond (iE P t) (some (.val true (cond ok (.pI [.lit (.int .i64 (bc es (x,(y,z)))),.lit (.bool (jm es (x,(y,z))))]) (.lit (.int .i64 (bc es (x,(y,z)))))))) none
   | _=>none)=some out) :
  bD P w w0 μ S H B (do pure (.value (← Instr.lookup t vx vy ok))) out:=by
 split at h
 case h_2=>simp at h
 rename_i es hH
 obtain⟨hii,rfl⟩:=ah h
 obtain⟨kt,et,inf,m1,m2,m3,m4⟩:=jd hii
 have hHj:=sub _ _ hH
 have hy:=Ke (x:=(x,(y,z))) hy
 simp only[VR] at hx
 obtain⟨b,cp,hm,_,rfl⟩:=hx
 subst hy
 obtain⟨ents,ck,hb,he⟩:=R.cg hHj hm
 have hg:(getObj b).run P w = .ok (.map ents ck) w:=MapKept.run_getObj_map hb
 have hck:=BV (w:=w) m2 (x,(y,z)) ents.isEmpty
 have hfk:=ri (w:=w) m2 (x,(y,z)) ents.toList es he
 have hz:(zeroValue et).run P w = .ok (.int .i64 0) w:=jS m3 m4
 have hh:=zh es (x,(y,z))
 have key:(Instr.lookup t (.map (some b)) (sD (x,(y,z))) ok).run P w = .ok (if ok then .tuple #[.int .i64 (bc es (x,(y,z))),.bool (jm es (x,(y,z)))] else .int .i64 (bc es (x,(y,z)))) w:=by
  cases ha:iR es (x,(y,z)) with
  | some i=>
   rw[ha] at hfk hh
   simp only[Instr.lookup,Sem.run_bind,aF m1,Result.andThen_ok,hg,hck,hfk,Option.map_some,Sem.run_pure,hh,Option.isSome_some]
  | none=>
   rw[ha] at hfk hh
   obtain⟨_,_,s3⟩:=jJ ha
   simp only[Instr.lookup,Sem.run_bind,aF m1,Result.andThen_ok,hg,hck,hfk,Option.map_none,hz,Sem.run_pure,hh,Option.isSome_none,s3]
 cases ok with
 | true=>
  refine aC R (u:=.tuple #[.int .i64 (bc es (x,(y,z))),.bool (jm es (x,(y,z)))]) (by rw[key];rfl) ?_
  simp only[Out.res,cond_true,VR,aE]
  exact⟨_,rfl,_,_,rfl,rfl,_,_,rfl,rfl,rfl⟩
 | false=>
  refine aC R (u:=.int .i64 (bc es (x,(y,z)))) (by rw[key];rfl) ?_
  simp only[Out.res,cond_false,VR]
theorem AE (sub:∀ i o,Hh i=some o→H i=some o)(R:Rel μ S H B w0 w){t t2 ty:TypeId}{x y:AV}{vx vy:Value}{out:Out}(hx:VR μ S H x vx)(hy:VR μ S H y vy)(h:mR P Hh t x y=some out) :
  bD P w w0 μ S H B (do pure (.value (← Builtin.delete_ #[t,t2] ty #[vx,vy]))) out:=by
 unfold mR at h
 split at h
 case h_2=>simp at h
 rename_i j x y z
 split at h
 case h_2=>simp at h
 rename_i es hH
 obtain⟨hii,rfl⟩:=ah h
 obtain⟨kt,et,inf,m1,m2,m3,m4⟩:=jd hii
 have hHj:=sub _ _ hH
 have hy:=Ke (x:=(x,(y,z))) hy
 simp only[VR] at hx
 obtain⟨b,cp,hm,_,rfl⟩:=hx
 subst hy
 obtain⟨ents,ck,hb,he⟩:=R.cg hHj hm
 have hg:(getObj b).run P w = .ok (.map ents ck) w:=MapKept.run_getObj_map hb
 have hck:=BV (w:=w) m2 (x,(y,z)) ents.isEmpty
 have hfk:=ri (w:=w) m2 (x,(y,z)) ents.toList es he
 cases ha:iR es (x,(y,z)) with
 | some i=>
  rw[ha] at hfk
  obtain⟨s1,s2,s3⟩:=oy ha
  refine⟨.value (.tuple #[]),_,w.putObj b (.map (ents.eraseIdxIfInBounds i) ck),μ,?_,.inl rfl,R.qh hHj hm ?_,Ext.cg,by simp only[Out.res,VR]⟩
  ·simp[Builtin.delete_,Sem.run_bind,aF m1,Result.andThen_ok,hg,hck,hfk,bp _ hb]
  ·have hil:i<ents.size:=by
    have hlt:i<es.length:=(List.getElem?_eq_some_iff.1 s1).1
    have:=congrArg List.length he
    simp only[List.length_map,Array.length_toList] at this
    omega
   rw[s3,Array.eraseIdxIfInBounds,dif_pos hil,Array.toList_eraseIdx,nL,nL,he]
 | none=>
  rw[ha] at hfk
  obtain⟨s1,s2,s3⟩:=jJ ha
  refine⟨.value (.tuple #[]),_,w.putObj b (.map ents ck),μ,?_,.inl rfl,R.qh hHj hm ?_,Ext.cg,by simp only[Out.res,VR]⟩
  ·simp[Builtin.delete_,Sem.run_bind,aF m1,Result.andThen_ok,hg,hck,hfk,bp _ hb]
  ·rw[s2];exact he
theorem sQ (sub:∀ i o,Hh i=some o→H i=some o)(R:Rel μ S H B w0 w){t:TypeId}{x y z:AV}{vx vy vz:Value}{out:Out}(hx:VR μ S H x vx)(hy:VR μ S H y vy)(hz:VR μ S H z vz)(h:fw P Hh t x y z=some out) :
  bD P w w0 μ S H B (do Instr.mapUpdate t vx vy vz;pure .skip) out:=by
 unfold fw at h
 split at h
 case h_3=>simp at h
 case h_2=>exact sx sub R hx hy hz h
 rename_i j k v
 split at h
 case h_2=>simp at h
 rename_i es hH
 obtain⟨hii,rfl⟩:=ah h
 obtain⟨kt,et,inf,M⟩:=iq hii
 have hHj:=sub _ _ hH
 simp only[VR] at hx hy hz
 obtain⟨b,cp,hm,_,rfl⟩:=hx
 subst hy hz
 have hb:=R.map hHj hm
 have hg:(getObj b).run P w = .ok (.map (bl 0 es).toArray es.length) w:=MapKept.run_getObj_map hb
 have hck:(Instr.checkKey false 10000 kt (.int .i64 k)).run P w = .ok () w:=run_checkKey (d:=.int .i64) M.key (show IsKey (.int .i64) (.int .i64 k) from rfl) false 9999
 have hfk:=run_findKey (P:=P) (w:=w) (k:=.int .i64 k) M.key (qi k es 0 0)
 refine⟨.skip,undef,w.putObj b (.map (bl 0 (oL es k v)).toArray (oL es k v).length),μ,?_,.inr ⟨rfl,rfl⟩,R.Bk hHj hm,Ext.map,by simp only[Out.res,VR]⟩
 cases hh:kf es k with
 | true=>
  rw[hh] at hfk
  simp only[cond_true,Nat.zero_add] at hfk
  have hat:=rO hh
  have hget:(bl 0 es)[fC es k]? = some ⟨.int .i64 k,.int .i64 (fk es k),fC es k⟩:=by rw[nR,hat];simp
  have hme:oL es k v=pQ es (fC es k) v:=by unfold oL;rw[hh];rfl
  have hks:(Instr.keyThatStays (.int .i64 k) (.int .i64 k)).run P w = .ok (.int .i64 k) w:=by simp[Instr.keyThatStays,Instr.sameBits]
  have hmod:(bl 0 es).toArray.modify (fC es k) (fun e=>{ e with key:=.int .i64 k,val:=.int .i64 v })=(bl 0 (pQ es (fC es k) v)).toArray:=by
   apply Array.ext'
   rw[Array.toList_modify,← uJ]
   apply List.ext_getElem?
   intro q
   rw[List.getElem?_modify,List.getElem?_modify]
   by_cases e:fC es k=q
   ·subst e;simp[hget]
   ·simp[e]
  simp only[Instr.mapUpdate,Sem.run_bind,aF M.map,Result.andThen_ok,hg,hck,hfk,List.getElem?_toArray,hget,Option.map_some,Option.getD_some,hks,hmod,bp _ hb,Sem.run_pure,hme,je]
 | false=>
  rw[hh] at hfk
  simp only[cond_false] at hfk
  have hme:oL es k v=es++[(k,v)]:=by unfold oL;rw[hh];rfl
  have hpush:(bl 0 es).toArray.push ⟨.int .i64 k,.int .i64 v,es.length⟩=(bl 0 (es++[(k,v)])).toArray:=by
   apply Array.ext'
   rw[iz]
   simp
  simp only[Instr.mapUpdate,Sem.run_bind,aF M.map,Result.andThen_ok,hg,hck,hfk,hpush,bp _ hb,Sem.run_pure,hme,List.length_append,List.length_cons,List.length_nil]
theorem CB (sub:∀ i o,Hh i=some o→H i=some o)(R:Rel μ S H B w0 w){t:TypeId}{ok:Bool}{x y:AV}{vx vy:Value}{out:Out}(hx:VR μ S H x vx)(hy:VR μ S H y vy)(h:nu P Hh t ok x y=some out) :
  bD P w w0 μ S H B (do pure (.value (← Instr.lookup t vx vy ok))) out:=by
 unfold nu at h
 split at h
 case h_3=>simp at h
 case h_2=>exact ze sub R hx hy h
 rename_i j k
 split at h
 case h_2=>simp at h
 rename_i es hH
 obtain⟨hii,rfl⟩:=ah h
 obtain⟨kt,et,inf,M⟩:=iq hii
 have hHj:=sub _ _ hH
 simp only[VR] at hx hy
 obtain⟨b,cp,hm,_,rfl⟩:=hx
 subst hy
 have hb:=R.map hHj hm
 have hg:(getObj b).run P w = .ok (.map (bl 0 es).toArray es.length) w:=MapKept.run_getObj_map hb
 have hck:∀ e,(Instr.checkKey e 10000 kt (.int .i64 k)).run P w = .ok () w:=fun e=>run_checkKey (d:=.int .i64) M.key (show IsKey (.int .i64) (.int .i64 k) from rfl) e 9999
 have hfk:=run_findKey (P:=P) (w:=w) (k:=.int .i64 k) M.key (qi k es 0 0)
 have hz:(zeroValue et).run P w = .ok (.int .i64 0) w:=jS M.info M.zero
 refine aC R (u:=if ok then .tuple #[.int .i64 (fk es k),.bool (kf es k)] else .int .i64 (fk es k)) ?_ ?_
 ·cases hh:kf es k with
  | true=>
   rw[hh] at hfk
   simp only[cond_true] at hfk
   simp only[Instr.lookup,Sem.run_bind,aF M.map,Result.andThen_ok,hg,hck,hfk,Sem.run_pure]
  | false=>
   rw[hh] at hfk
   simp only[cond_false] at hfk
   obtain⟨e1,e2⟩:=we hh
   simp only[Instr.lookup,Sem.run_bind,aF M.map,Result.andThen_ok,hg,hck,hfk,hz,Sem.run_pure,e2]
 ·cases ok with
  | true=>
   simp only[cond_true,if_true,VR,aE]
   exact⟨_,rfl,_,_,rfl,rfl,_,_,rfl,rfl,rfl⟩
  | false=>simp only[cond_false,Bool.false_eq_true,if_false,VR]
end
open Go Go.RowKit
section
variable [aq]{P:Program}{w w0:World}{μ:Mu}{S:ar}{H Hh:Heap}{B:Nat}
theorem pY (sub:∀ i o,Hh i=some o→H i=some o)(R:Rel μ S H B w0 w){t ty:TypeId}{x:AV}{v:Value}{out:Out}(hx:VR μ S H x v)(h:FL P Hh t x=some out) :
  bD P w w0 μ S H B (do pure (.value (← Builtin.len_ #[t] ty #[v]))) out:=by
 unfold FL at h
 split at h
 ·simp only[VR] at hx;subst hx
  split at h
  ·rename_i ht;cases h
   exact aC R (by simp[Builtin.len_,aF ht,goInt];rfl) (by simp only[Out.res,VR])
  ·simp at h
 ·rename_i e xs
  simp only[VR,Rd] at hx
  obtain⟨ao,cap,e1,h2,h3⟩:=hx
  cases e1
  split at h
  ·rename_i _ ht;cases h
   exact aC R (by simp[Builtin.len_,aF ht,goInt];rfl) (by simp only[Out.res,VR])
  ·simp at h
 ·rename_i j g
  split at h
  ·rename_i _ _ t' e g' xs ht hH
   obtain⟨hg,rfl⟩:=ah h
   have hgg:=Nat.eq_of_beq_eq_true hg
   simp only[VR] at hx
   obtain⟨_,l,hm,h2⟩:=hx
   have hv:=(h2 _ _ _ _ (sub _ _ hH)).2 hgg
   subst hv
   exact aC R (by simp[Builtin.len_,aF ht,goInt];rfl) (by simp only[Out.res,VR])
  ·simp at h
 ·simp only[VR] at hx;subst hx
  split at h
  ·rename_i _ ht;cases h
   exact aC R (by simp[Builtin.len_,aF ht,goInt];rfl) (by simp only[Out.res,VR])
  ·simp at h
 ·simp at h
omit [aq] in
theorem pU {ρa:Operand→AV}{ρ:Operand→Value}(hρ:∀ x,VR μ S H (ρa x) (ρ x)):∀ (l:List Operand),aE μ S H (l.map ρa) (l.map ρ)
 | []=>by simp[aE]
 | x::l=>by simp only[List.map_cons,aE];exact⟨ρ x,_,rfl,hρ x,pU hρ l⟩
def Fh (P:Program)(μ:Mu)(w:World):Callee→Array Value→Result Next→Prop
 | .fn k,us,r=>r = .ok (.enter k us) w
 | .fG i,us,r=>∃ b c,μ i=some ⟨some b,c,aP⟩∧r=(Instr.yield b us).run P w
omit [aq] in
theorem IZ {f:AV}{fv:Value}{args:List AV}{vs:List Value}{k:Callee}{as:List AV}{ty:TypeId}(hf:VR μ S H f fv)(ha:aE μ S H args vs)
  (h:tI P f args=some (.call k as)) :
  ∃ us:Array Value,Fh P μ w k us ((do let d ← Deferred.ofValue fv vs.toArray;invoke d.target d.args:Sem Next).run P w)∧aE μ S H as us.toList:=by
 unfold tI at h
 split at h
 ·rename_i k' first caps
  split at h
  ·rename_i fn hfn
   split at h
   ·rename_i b hb
    cases hn:fn.name == "runtime.NumGoroutine" with
    | true=>rw[hn] at h;simp at h
    | false=>
     rw[hn] at h
     simp only[cond_false,Option.some.injEq,Out.call.injEq] at h
     obtain⟨rfl,rfl⟩:=h
     simp only[VR] at hf
     obtain⟨x,y,rfl,h1,h2⟩:=hf
     refine⟨x++vs.toArray++y,?_,?_⟩
     ·show _=_
      simp only[Deferred.ofValue,Sem.run_bind,Sem.run_pure,Result.andThen_ok,invoke,callFunc,run_program,hfn,hn,Bool.false_eq_true,if_false,hb,Option.isNone_some]
     ·simp only[Array.toList_append]
      exact bQ (bQ h1 ha) h2
   ·simp at h
  ·simp at h
 ·simp only[Option.some.injEq,Out.call.injEq] at h
  obtain⟨rfl,rfl⟩:=h
  simp only[VR] at hf
  obtain⟨b,c,h1,_,rfl⟩:=hf
  refine⟨vs.toArray,⟨b,c,h1,?_⟩,by simpa using ha⟩
  simp[Deferred.ofValue,invoke]
 ·simp at h
theorem qP (sub:∀ i o,Hh i=some o→H i=some o)(R:Rel μ S H B w0 w){ρa:Operand→AV}{ρ:Operand→Value}(hρ:∀ x,VR μ S H (ρa x) (ρ x))
  {id:Nat} {o:Oper} {out:Out} (h:sem P Hh id o ρa=some out) (hk:out.ok=true) (hf:out.fresh H=true) :
  bD P w w0 μ S H B (execOp ρ o) out:=by
 obtain⟨dst,op,ty,pos,af,gd⟩:=o
 unfold sem at h
 cases op<;>simp only[reduceCtorEq] at h
 case move x=>cases h;exact⟨_,_,w,μ,rfl,.inl rfl,R,Ext.refl,hρ x⟩
 case assign x=>cases h;exact⟨_,_,w,μ,rfl,.inl rfl,R,Ext.refl,hρ x⟩
 case pick c a b=>
  split at h
  ·rename_i t hc
   cases h
   have hcv:=hρ c
   rw[hc] at hcv
   simp only[VR] at hcv
   refine⟨.value (if t then ρ a else ρ b),_,w,μ,?_,.inl rfl,R,Ext.refl,?_⟩
   ·simp only[execOp,hcv,asBool,Sem.run_bind,Sem.run_pure,Result.andThen_ok]
   ·cases t
    ·exact hρ b
    ·exact hρ a
  ·simp at h
 case alloc t=>exact FK R h hf
 case box t x=>exact Ma R (hρ x) h hf
 case load t a=>exact JD sub R (hρ a) h hk
 case store t a x=>exact EP sub R (hρ a) (hρ x) h hk
 case fieldAddr s x f=>exact FC sub R (hρ x) h
 case field s x f=>exact H6 R (hρ x) h
 case nilCheck x=>exact KO sub R (hρ x) h
 case binOp op t x y yt=>exact KB R (hρ x) (hρ y) h hk
 case unOp op t x=>exact Pm R (hρ x) h
 case makeInterface t x=>exact L9 R (hρ x) h
 case typeAssert x s t ok=>exact Dg R (hρ x) h
 case convert s d x=>
  have hx:=hρ x
  split at h
  ·rename_i v hv
   rw[hv] at hx
   exact JM R hx h
  ·exact K6 sub R hx h
 case build t parts=>
  have e:parts.map (fun (i,x)=>(i,ρ x))=(parts.toList.map fun p=>(p.1,ρ p.2)).toArray:=by apply Array.ext';simp
  have:=EZ R hρ h
  rw[← e] at this
  exact this
 case buildSlice t n parts=>
  have e:parts.map (fun (i,x)=>(i,ρ x))=(parts.toList.map fun p=>(p.1,ρ p.2)).toArray:=by apply Array.ext';simp
  have:=qA R hρ h hf
  rw[← e] at this
  exact this
 case makeSlice t l c=>exact Jn R (hρ l) (hρ c) h hk hf
 case slice t x lo hi mx=>exact Bg sub R hρ h hk
 case range t x=>exact Fz R (hρ x) h hf
 case next x s=>exact G7 sub R (hρ x) h
 case extract t i=>exact Mh R (hρ t) h
 case index t x i=>exact Fx R (hρ x) (hρ i) h hk
 case makeMap t r=>
  cases r with
  | none=>exact zi R h hf
  | some _=>simp at h
 case mapEntry t m k=>exact xd sub R (hρ m) (hρ k) h
 case mapUpdate t m k x=>exact sQ sub R (hρ m) (hρ k) (hρ x) h
 case entryStore t m s x=>exact qH sub R (hρ m) (hρ s) (hρ x) h hk
 case lookup t x k ok=>exact CB sub R (hρ x) (hρ k) h
 case indexAddr t x i=>exact K9 sub R (hρ x) (hρ i) h hk
 case makeFunc fn first caps=>
  cases h
  refine⟨.value (.func fn (first.map ρ) (caps.map ρ)),_,w,μ,rfl,.inl rfl,R,Ext.refl,?_⟩
  simp only[Out.res,Out.heap,VR]
  exact⟨_,_,rfl,by simpa using pU hρ first.toList,by simpa using pU hρ caps.toList⟩
 case call c=>
  obtain⟨callee,args,argTypes⟩:=c
  simp only at h
  split at h
  ·split at h
   ·rename_i t x ht hx
    have e1:argTypes = #[t]:=by apply Array.ext';simpa using ht
    have e2:args = #[x]:=by apply Array.ext';simpa using hx
    subst e1 e2
    obtain⟨n,u,w',μ',k1,k2⟩:=H9 (ty:=ty) (pY:=fun hx h=>pY sub R hx h) sub R (hρ x) h
    refine⟨n,u,w',μ',?_,k2⟩
    rw[← k1]
    have e:(#[x]:Array Operand).map ρ = #[ρ x]:=by simp
    simp only[execOp,resolve,e,Sem.run_bind,Sem.run_pure,Result.andThen_ok,invoke,builtin]
   ·simp at h
  ·split at h
   ·rename_i t x ht hx
    have e1:argTypes = #[t]:=by apply Array.ext';simpa using ht
    have e2:args = #[x]:=by apply Array.ext';simpa using hx
    subst e1 e2
    obtain⟨n,u,w',μ',k1,k2⟩:=EI (P:=P) (ty:=ty) sub R (hρ x) h
    refine⟨n,u,w',μ',?_,k2⟩
    rw[← k1]
    have e:(#[x]:Array Operand).map ρ = #[ρ x]:=by simp
    simp only[execOp,resolve,e,Sem.run_bind,Sem.run_pure,Result.andThen_ok,invoke,builtin]
   ·simp at h
  ·split at h
   ·rename_i t t2 x y ht hx
    have e1:argTypes = #[t,t2]:=by apply Array.ext';simpa using ht
    have e2:args = #[x,y]:=by apply Array.ext';simpa using hx
    subst e1 e2
    obtain⟨n,u,w',μ',k1,k2⟩:=AE (P:=P) (t2:=t2) (ty:=ty) sub R (hρ x) (hρ y) h
    refine⟨n,u,w',μ',?_,k2⟩
    rw[← k1]
    have e:(#[x,y]:Array Operand).map ρ = #[ρ x,ρ y]:=by simp
    simp only[execOp,resolve,e,Sem.run_bind,Sem.run_pure,Result.andThen_ok,invoke,builtin]
   ·simp at h
  ·split at h
   ·rename_i t u x y ht hx
    obtain⟨htu,h2⟩:=az h
    have htu:=Nat.eq_of_beq_eq_true htu
    subst htu
    have e1:argTypes = #[t,t]:=by apply Array.ext';simpa using ht
    have e2:args = #[x,y]:=by apply Array.ext';simpa using hx
    subst e1 e2
    obtain⟨n,u,w',μ',k1,k2⟩:=zC (P:=P) (ty:=ty) sub R (hρ x) (hρ y) h2 hk hf
    refine⟨n,u,w',μ',?_,k2⟩
    rw[← k1]
    have e:(#[x,y]:Array Operand).map ρ = #[ρ x,ρ y]:=by simp
    simp only[execOp,resolve,e,Sem.run_bind,Sem.run_pure,Result.andThen_ok,invoke,builtin]
   ·simp at h
  ·split at h
   ·rename_i x y hx
    have e2:args = #[x,y]:=by apply Array.ext';simpa using hx
    subst e2
    have hx:=hρ x
    have hy:=hρ y
    unfold Lw at h
    split at h
    ·rename_i k a k' b ha hb
     rw[ha] at hx
     rw[hb] at hy
     simp only[VR] at hx hy
     obtain⟨hk',rfl⟩:=ah h
     refine⟨.value (.int k (pT a b)),_,w,μ,?_,.inl rfl,R,Ext.refl,by simp only[Out.res,VR]⟩
     have e:(#[x,y]:Array Operand).map ρ = #[ρ x,ρ y]:=by simp
     simp only[execOp,resolve,e,hx,hy,Sem.run_bind,Sem.run_pure,Result.andThen_ok,invoke,builtin,Builtin.min_,List.foldlM_cons,List.foldlM_nil,Builtin.min2]
     by_cases hlt:b<a<;>simp[pT,hlt]
    ·simp at h
   ·simp at h
  ·split at h
   ·rename_i x y hx
    have e2:args = #[x,y]:=by apply Array.ext';simpa using hx
    subst e2
    have hx:=hρ x
    have hy:=hρ y
    unfold Lu at h
    split at h
    ·rename_i k a k' b ha hb
     rw[ha] at hx
     rw[hb] at hy
     simp only[VR] at hx hy
     obtain⟨hk',rfl⟩:=ah h
     refine⟨.value (.int k (US a b)),_,w,μ,?_,.inl rfl,R,Ext.refl,by simp only[Out.res,VR]⟩
     have e:(#[x,y]:Array Operand).map ρ = #[ρ x,ρ y]:=by simp
     simp only[execOp,resolve,e,hx,hy,Sem.run_bind,Sem.run_pure,Result.andThen_ok,invoke,builtin,Builtin.max_,List.foldlM_cons,List.foldlM_nil,Builtin.max2]
     by_cases hlt:a<b<;>simp[US,hlt]
    ·simp at h
   ·simp at h
  ·unfold tI at h
   split at h
   ·split at h
    ·split at h
     ·rename_i fn _ _ _ _
      cases hn:fn.name == "runtime.NumGoroutine" with
      | true=>rw[hn] at h;simp at h
      | false=>rw[hn] at h;simp only[cond_false,Option.some.injEq] at h;subst h;simp[Out.ok] at hk
     ·simp at h
    ·simp at h
   ·simp only[Option.some.injEq] at h;subst h;simp[Out.ok] at hk
   ·simp at h
  ·simp at h
omit [aq] in
theorem lH {id t n:Nat}{parts:List (Nat×AV)}{k:Callee}{as:List AV}{Q:Prop}(h:cR P id t n parts=some (.call k as)):Q:=by
 unfold cR at h
 split at h
 case h_2=>simp at h
 split at h
 case h_3=>simp at h
 case h_1=>
  split at h
  case h_2=>simp at h
  split at h
  case h_2=>simp at h
  have h:=(az h).2
  split at h
  case h_2=>simp at h
  split at h<;>simp at h
 case h_2=>
  split at h
  case h_2=>simp at h
  split at h
  case h_2=>simp at h
  have h:=(az h).2
  split at h<;>simp at h
omit [aq] in
theorem sI {id t:Nat}{s x:AV}{k:Callee}{as:List AV}{Q:Prop}(h:fN P Hh id t s x=some (.call k as)):Q:=by
 unfold fN at h
 split at h
 case h_2=>simp at h
 split at h
 case h_2=>simp at h
 split at h
 case h_2=>simp at h
 split at h
 case h_2=>simp at h
 have h:=(az h).2
 (repeat' split at h)<;>first|(simp at h;done)|(have:=(ah h).2;simp at this)
omit [aq] in
theorem xo {t:TypeId}{a:AV}{k:Callee}{as:List AV}{Q:Prop}(h:gG P Hh t a=some (.call k as)):Q:=by
 unfold gG at h
 split at h
 ·(repeat' split at h)<;>simp at h
 ·split at h
  ·have h:=(az h).2
   split at h<;>simp at h
  ·simp at h
 ·simp at h
omit [aq] in
theorem sH {t:TypeId}{a x:AV}{k:Callee}{as:List AV}{Q:Prop}(h:gO P Hh t a x=some (.call k as)):Q:=by
 unfold gO at h
 (repeat' split at h)<;>first|(simp at h;done)|(have:=(ah h).2;simp at this)
omit [aq] in
theorem zj {t i q m a b:Nat}{lo hi mx:Option AV}{k:Callee}{as:List AV}{Q:Prop}(h:rK P Hh t i q m a b lo hi mx=some (.call k as)):Q:=by
 unfold rK at h
 (repeat' split at h)<;>first|(simp at h;done)|(have:=(ah h).2;simp at this)
omit [aq] in
theorem x7 {t i q m a b:Nat}{hi:AV}{k:Callee}{as:List AV}{Q:Prop}(h:sr P Hh t i q m a b hi=some (.call k as)):Q:=by
 unfold sr at h
 (repeat' split at h)<;>first|(simp at h;done)|(have:=(ah h).2;simp at this)
omit [aq] in
theorem qX {t i q m a b:Nat}{x:AV}{k:Callee}{as:List AV}{Q:Prop}(h:eX P Hh t i q m a b x=some (.call k as)):Q:=by
 unfold eX at h
 (repeat' split at h)<;>first|(simp at h;done)|(have:=(ah h).2;simp at this)
omit [aq] in
theorem rp {id t:Nat}{s x:AV}{k:Callee}{as:List AV}{Q:Prop}(h:ed P Hh id t s x=some (.call k as)):Q:=by
 unfold ed at h
 split at h
 case h_3=>exact sI h
 case h_2=>exact qX h
 (repeat' split at h)<;>first|(simp at h;done)|(have:=(ah h).2;simp at this)
omit [aq] in
theorem l6 {ρa:Operand→AV}{ρ:Operand→Value}(hρ:∀ x,VR μ S H (ρa x) (ρ x))
  {id:Nat} {o:Oper} {k:Callee} {as:List AV} (h:sem P Hh id o ρa=some (.call k as)) :
  ∃ us:Array Value,Fh P μ w k us ((execOp ρ o).run P w)∧aE μ S H as us.toList:=by
 obtain⟨dst,op,ty,pos,af,gd⟩:=o
 unfold sem at h
 cases op<;>simp only[reduceCtorEq,Option.some.injEq] at h
 case pick c a b=>split at h<;>simp at h
 case alloc t=>unfold rL at h;(repeat' split at h)<;>simp at h
 case box t x=>unfold Hg at h;(repeat' split at h)<;>simp at h
 case load t a=>
  unfold tD at h;(repeat' split at h)<;>first|(simp at h;done)|exact xo h|skip
  all_goals (rename_i g _ _ _ _ _ _ _;have:=(ah h).2;simp at this)
 case store t a x=>
  unfold j7 at h;(repeat' split at h)<;>first|(simp at h;done)|exact sH h|(have:=(ah h).2;simp at this)
 case build t parts=>exact absurd h (by unfold rq;(repeat' split)<;>simp)
 case buildSlice t n parts=>exact lH h
 case makeSlice t l c=>unfold yd at h;(repeat' split at h)<;>first|(simp at h;done)|(have:=(ah h).2;simp at this)
 case slice t x lo hi mx=>
  unfold lK ES lu oC at h
  (repeat' split at h)<;>first|(simp at h;done)|exact x7 h|exact zj h|(have:=(ah h).2;simp at this)
 case range t x=>unfold sA at h;(repeat' split at h)<;>simp at h
 case next x s=>unfold yY at h;(repeat' split at h)<;>simp at h
 case fieldAddr s x f=>
  unfold ki at h
  split at h
  ·split at h
   ·split at h
    ·rename_i ti _
     cases h0:Nat.beq ti.size 0<;>rw[h0] at h<;>simp at h
     split at h<;>first|(simp at h;done)|skip
     all_goals (split at h<;>first|(simp at h;done)|(have:=(ah h).2;simp at this))
    ·simp at h
   ·simp at h
  ·simp at h
 case field s x f=>unfold tL at h;(repeat' split at h)<;>simp at h
 case nilCheck x=>unfold EC at h;(repeat' split at h)<;>first|(simp at h;done)|(have:=(ah h).2;simp at this)
 case binOp op t x y yt=>
  unfold E9 at h;split at h
  ·split at h<;>simp at h
  ·have h:=(bS h).2
   (repeat' split at h)<;>simp at h
  ·(repeat' split at h)<;>simp at h
  ·simp at h
 case unOp op t x=>unfold Rj at h;(repeat' split at h)<;>simp at h
 case makeInterface t x=>unfold Jg at h;have:=(ah h).2;simp at this
 case typeAssert x s t ok=>unfold mw at h;(repeat' split at h)<;>first|(simp at h;done)|(have:=(ah h).2;simp at this)
 case convert s d x=>
  split at h
  ·unfold x4 at h;(repeat' split at h)<;>simp at h
  ·unfold Fa at h;(repeat' split at h)<;>simp at h
 case extract t i=>unfold FI at h;(repeat' split at h)<;>simp at h
 case index t x i=>unfold oH at h;(repeat' split at h)<;>simp at h
 case makeMap t r=>
  cases r with
  | none=>
   unfold jt at h
   cases hc:eP P t<;>cases hc3:iE P t<;>rw[hc] at h<;>(try rw[hc3] at h)<;>simp at h
  | some _=>simp at h
 case mapEntry t m k=>unfold gB at h;(repeat' split at h)<;>first|(simp at h;done)|(have:=(ah h).2;simp at this)
 case mapUpdate t m k x=>unfold fw at h;(repeat' split at h)<;>first|(simp at h;done)|(have:=(ah h).2;simp at this)
 case entryStore t m s x=>unfold ec at h;(repeat' split at h)<;>simp at h
 case lookup t x k ok=>unfold nu at h;(repeat' split at h)<;>first|(simp at h;done)|(have:=(ah h).2;simp at this)
 case indexAddr t x i=>unfold yT Ri at h;(repeat' split at h)<;>first|(simp at h;done)|(have:=(ah h).2;simp at this)
 case call c=>
  obtain⟨callee,args,argTypes⟩:=c
  simp only at h
  split at h
  ·split at h
   ·unfold An FL at h;(repeat' split at h)<;>first|(simp at h;done)|(have:=(ah h).2;simp at this)
   ·simp at h
  ·split at h
   ·unfold sy at h;(repeat' split at h)<;>first|(simp at h;done)|(have:=(ah h).2;simp at this)
   ·simp at h
  ·split at h
   ·unfold mR at h;(repeat' split at h)<;>first|(simp at h;done)|(have:=(ah h).2;simp at this)
   ·simp at h
  ·split at h
   ·exact rp (az h).2
   ·simp at h
  ·unfold Lw at h;(repeat' split at h)<;>first|(simp at h;done)|(have:=(ah h).2;simp at this)
  ·unfold Lu at h;(repeat' split at h)<;>first|(simp at h;done)|(have:=(ah h).2;simp at this)
  ·rename_i f
   have:=IZ (w:=w) (ty:=ty) (hρ f) (pU hρ args.toList) h
   obtain⟨us,h1,h2⟩:=this
   refine⟨us,?_,h2⟩
   have e:(args.toList.map ρ).toArray=args.map ρ:=by apply Array.ext';simp
   rw[e] at h1
   exact h1
  ·simp at h
end
@[reducible] def KR:Bool→eO
 | true=>.eW 0
 | false=>.own
inductive cO where
 | val (t:Ty)
 | own (te:TypeId) (e:Ty)
 | pair (a b:cO)
 | one (a:cO)
 | any
 | deep (te ti:TypeId) (ln:Bool)
@[reducible] def cO.T:cO→Type
 | .val t=>t.T
 | .own _ e=>List e.T
 | .pair a b=>a.T×b.T
 | .one a=>a.T
 | .any=>Unit
 | .deep _ _ _=>List FT
@[reducible] def cC:List Ty→Type
 | []=>Unit
 | t::ts=>t.T×cC ts
@[reducible] def tg:List cO→Type
 | []=>Unit
 | t::ts=>t.T×tg ts
def cO.isAgg:cO→Bool
 | .val t=>t.isAgg
 | .own _ _=>false
 | .any=>false
 | .deep _ _ _=>false
 | _=>true
def Ty.flat:Ty→Bool
 | .row _=>false
 | .pair a b=>a.flat&&b.flat
 | .one a=>a.flat
 | _=>true
def cO.flat:cO→Bool
 | .val t=>t.flat
 | .own _ e=>e.flat
 | .any=>true
 | .deep _ _ ln=>!ln
 | .pair a b=>a.flat&&b.flat
 | .one a=>a.flat
def yE:List cO→Bool
 | []=>true
 | t::ts=>t.flat&&yE ts
inductive uC where
 | row (te:TypeId) (e:Ty) (xs:List e.T)
 | deep (te ti:TypeId) (ln:Bool) (xs:List FT)
def uC.H:uC→aO
 | .row te e xs=>.row te e 0 xs
 | .deep te ti ln xs=>.aL te ti 0 xs (KR ln)
def uC.flat:uC→Bool
 | .row _ e _=>e.flat
 | .deep _ _ ln _=>!ln
structure dH where
 loc:Lc
 o:uC
def FV (S:ar)(t:Ty)(x:t.T)(v:Value):Prop:=
 if t.isAgg then ∃ cs,v = .agg cs∧Rd S t x cs.toList else Rd S t x [v]
def eZ (S:ar):(ps:List Ty)→cC ps→List Value→Prop
 | [],_,vs=>vs=[]
 | t::ts,x,vs=>∃ v r,vs=v::r∧FV S t x.1 v∧eZ S ts x.2 r
def FR (S:ar):(t:cO)→t.T→List Value→List dH→Prop
 | .val t,x,cs,os=>Rd S t x cs∧os=[]
 | .own te e,xs,cs,os=>∃ l:Lc,cs=[.slice l.addr (List.length xs) l.cap]∧os=[⟨l,.row te e xs⟩]
 | .pair a b,x,cs,os=>∃ c d o p,cs=c++d∧os=o++p∧FR S a x.1 c o∧FR S b x.2 d p
 | .one a,x,cs,os=>FR S a x cs os
 | .any,_,cs,os=>(∃ v,cs=[v]∧v.oneCell'=true)∧os=[]
 | .deep te ti ln,xs,cs,os=>∃ l:Lc,cs=[.slice l.addr (List.length xs) l.cap]∧os=[⟨l,.deep te ti ln xs⟩]
def iv (S:ar)(t:cO)(x:t.T)(v:Value)(os:List dH):Prop:=
 if t.isAgg then ∃ cs,v = .agg cs∧FR S t x cs.toList os else FR S t x [v] os
def zV (S:ar):(rs:List cO)→tg rs→List Value→List dH→Prop
 | [],_,vs,os=>vs=[]∧os=[]
 | t::ts,x,vs,os=>∃ v r o p,vs=v::r∧os=o++p∧iv S t x.1 v o∧zV S ts x.2 r p
def en (S:ar)(w:World)(B:Nat)(o:dH):Prop:=
 match o.o with
 | .row te e xs=>o.loc.b7=aP∧fq S w B o.loc te e xs
 | .deep te ti ln xs=>cu S w B o.loc te ti xs (KR ln)
def wF (o p:dH):Prop:=∀ b,o.loc.has b→¬ p.loc.has b
def fP:List Value→Value
 | [v]=>v
 | vs=>.tuple vs.toArray
structure aT where
 ps:List Ty
 rs:List cO
 f:cC ps→Option (tg rs)
def aT.OK [aq](P:Program)(k:FuncId)(c:aT):Prop:=
 ∀ x y,c.f x=some y→∀ (S:ar) (w:World) (vs:List Value),(∀ b o,S b=some o→w.heap[b]? = some o)→aq.pre S→eZ S c.ps x vs →
  Calls P k vs.toArray w fun e w'=>∃ us S' os,e = .returned (fP us)∧Below w.heap.size w w'∧(∀ b o,S b=some o→S' b=some o) ∧
   (∀ b o,S' b=some o→w'.heap[b]? = some o)∧(∀ b,S' b≠none→S b≠none∨w.heap.size≤b)∧zV S' c.rs y us os ∧
   (∀ o∈os,en S' w' w.heap.size o)∧os.Pairwise wF
def OG (H:Heap)(t:Ty)(a:AV):Option t.T:=cond (t.isAgg == a.isAgg) (kO H t a.inside) none
def bU (H:Heap):(ps:List Ty)→List AV→Option (cC ps)
 | [],[]=>some ()
 | t::ts,a::as=>match OG H t a with
  | some x=>match bU H ts as with
   | some y=>some (x,y)
   | none=>none
  | none=>none
 | _,_=>none
section
variable [aq]{P:Program}{w w' w0:World}{μ:Mu}{S S':ar}{H Hh:Heap}{B:Nat}
def jP (w:World):ar:=fun b=>w.heap[b]?
omit [aq] in
theorem gw (hst:∀ b o,S b=some o→S' b=some o){l:Lc}{t:TypeId}{e:Ty}{xs:List e.T}(hne:∀ b,l.blk=some b→S' b=w.heap[b]?)(h2:fq S w B l t e xs):Rd S' (.row e) xs [.slice l.addr xs.length l.cap]:=by
 refine⟨l.addr,l.cap,rfl,⟨h2.1.1,fun ha=>?_⟩,fun j x hj=>?_⟩
 ·rcases h2.2 with h3|⟨b,cs,e1,_⟩
  ·exact h3.2
  ·simp[Lc.addr,e1] at ha
 rcases h2.2 with h3|⟨b,cs,e1,_,_,h4,_,h6⟩
 ·have hlt:j<xs.length:=by
   rcases Nat.lt_or_ge j xs.length with h|h
   ·exact h
   ·rw[List.getElem?_eq_none h] at hj;simp at hj
  have:=h2.1.1;omega
 ·obtain⟨c,k1,k2⟩:=h6 j x hj
  refine⟨⟨b,0,none⟩,c,by simp[Lc.addr,e1],cG hst _ _ _ k1,fun m v hv=>?_⟩
  rw[aK,Nat.zero_add]
  have hb:S' b=some (.cells cs t (0,0)):=by rw[hne b e1];exact h4
  simp only[cellS,hb,Option.isSome_none,Bool.false_eq_true,if_false]
  exact k2 m v hv
omit [aq] in
theorem ol (hst:∀ b o,S b=some o→S' b=some o){l:Lc}{t ti:TypeId}{xs:List FT}(hne:∀ b,l.has b→S' b=w.heap[b]?)(D:cu S w B l t ti xs .own):Rd S' (.row cl) xs [.slice l.addr xs.length l.cap]:=by
 refine⟨l.addr,l.cap,rfl,⟨D.len.1,fun ha=>?_⟩,fun j x hj=>?_⟩
 ·rcases D.xM with h3|⟨b,cs,e1,_⟩
  ·exact h3.2
  ·simp[Lc.addr,e1] at ha
 rcases D.xM with h3|⟨b,cs,e1,_,_,h4,_,h6⟩
 ·have hlt:j<xs.length:=(List.getElem?_eq_some_iff.1 hj).1
  have:=D.len;omega
 ·obtain⟨f0,f2,v,f1,_,f4⟩:=h6 j x hj
  have f4:=f4.1 trivial
  subst f4
  refine⟨⟨b,0,none⟩,[.int .i64 x.1,.slice (l.at j).addr x.2.1.length (l.at j).cap,.int .i64 x.2.2],by simp[Lc.addr,e1],⟨[_],[_,_],rfl,rfl,[_],[_],rfl,gw hst (fun b hb=>hne b (Lc.fV hb)) (D.row j x hj trivial),rfl⟩,fun m v hv=>?_⟩
  rw[aK,Nat.zero_add]
  have hb:S' b=some (.cells cs t (0,0)):=by rw[hne b (.inl e1)];exact h4
  simp only[cellS,hb,Option.isSome_none,Bool.false_eq_true,if_false]
  match m,hv with
  | 0,hv=>cases hv;exact f0
  | 1,hv=>cases hv;exact f1
  | 2,hv=>cases hv;exact f2
omit [aq] in
theorem LP (hst:∀ b o,S b=some o→w.heap[b]? = some o){l:Lc}{t:TypeId}{e:Ty}{xs:List e.T}(h2:fq S w B l t e xs):Rd (jP w) (.row e) xs [.slice l.addr xs.length l.cap]:=gw hst (fun _ _=>rfl) h2
omit [aq] in
theorem Kb (hst:∀ b o,S b=some o→w.heap[b]? = some o){l:Lc}{t ti:TypeId}{xs:List FT}(D:cu S w B l t ti xs .own):Rd (jP w) (.row cl) xs [.slice l.addr xs.length l.cap]:=ol hst (fun _ _=>rfl) D
theorem Qk (R:Rel μ S H B w0 w){i:Nat}{t:TypeId}{e:Ty}{g:Nat}{xs:List e.T}(hi:H i=some (.row t e g xs)){l:Lc}(hm:μ i=some l) :
  Rd (jP w) (.row e) xs [.slice l.addr xs.length l.cap]:=by
 obtain⟨l',h1,h2⟩:=R.obj i _ hi
 have:l'=l:=Option.some.inj (h1.symm.trans hm)
 subst this
 exact LP R.st h2
theorem LA (R:Rel μ S H B w0 w)(sub:∀ i o,Hh i=some o→H i=some o):cK μ (jP w) Hh:=
 ⟨fun i t e g xs l h hm=>Qk R (sub _ _ h) hm,fun i t ti q xs l h hm=>by
  obtain⟨l',h1,h2⟩:=R.obj i _ (sub _ _ h)
  have:l'=l:=Option.some.inj (h1.symm.trans hm)
  subst this
  exact Kb R.st h2⟩
omit [aq] in
theorem Mk (hS:∀ b o,S b=some o→S' b=some o)
  (hrow:cK μ S' Hh)
  (sub:∀ i o,Hh i=some o→H i=some o) {t:Ty} {a:AV} {v:Value} {x:t.T} (hv:VR μ S H a v) (h:OG Hh t a=some x):FV S' t x v:=by
 unfold OG at h
 cases hb:(t.isAgg == a.isAgg) with
 | false=>rw[hb] at h;simp at h
 | true=>
  rw[hb] at h
  simp only[cond_true] at h
  have hta:t.isAgg=a.isAgg:=by simpa using hb
  unfold kO at h
  split at h
  ·rename_i y hd
   cases h
   unfold FV
   rw[hta]
   have base:a.isAgg=false→aE μ S H a.inside [v]:=by
    intro ha
    cases a<;>first|(simp[AV.isAgg] at ha;done)|(simp only[AV.inside,aE];exact⟨v,[],rfl,hv,rfl⟩)
   cases ha:a.isAgg with
   | true=>
    rw[if_pos rfl]
    cases a<;>simp only[AV.isAgg,reduceCtorEq] at ha
    simp only[VR] at hv
    obtain⟨vs,rfl,hvs⟩:=hv
    obtain⟨c,u,e1,k1,k2⟩:=kH hS hrow sub t _ vs.toList _ [] hvs hd
    simp only[aE] at k2
    subst k2
    rw[List.append_nil] at e1
    exact⟨vs,rfl,by rw[e1];exact k1⟩
   | false=>
    rw[if_neg (by simp)]
    obtain⟨c,u,e1,k1,k2⟩:=kH hS hrow sub t _ [v] _ [] (base ha) hd
    simp only[aE] at k2
    subst k2
    rw[List.append_nil] at e1
    rw[e1];exact k1
  ·simp at h
omit [aq] in
theorem eV (hS:∀ b o,S b=some o→S' b=some o)
  (hrow:cK μ S' Hh)
  (sub:∀ i o,Hh i=some o→H i=some o):∀ {ps:List Ty} {as:List AV} {vs:List Value} {x:cC ps},aE μ S H as vs→bU Hh ps as=some x→eZ S' ps x vs
 | [],[],vs,x,hv,h=>by simp only[aE] at hv;exact hv
 | [],_::_,vs,x,hv,h=>by simp[bU] at h
 | t::ts,[],vs,x,hv,h=>by simp[bU] at h
 | t::ts,a::as,vs,x,hv,h=>by
  simp only[bU] at h
  split at h
  ·rename_i y hy
   split at h
   ·rename_i z hz
    cases h
    simp only[aE] at hv
    obtain⟨v,r,rfl,h1,h2⟩:=hv
    exact⟨v,r,rfl,Mk hS hrow sub h1 hy,eV hS hrow sub h2 hz⟩
   ·simp at h
  ·simp at h
end
def pM:cO→Nat
 | .val _=>0
 | .own _ _=>1
 | .pair a b=>pM a+pM b
 | .one a=>pM a
 | .any=>0
 | .deep _ _ _=>1
def sN:(t:cO)→t.T→Nat→List AV
 | .val t,x,_=>enc t x
 | .own _ _,_,i=>[.sl i 0]
 | .pair a b,x,i=>sN a x.1 i++sN b x.2 (i+pM a)
 | .one a,x,i=>sN a x i
 | .any,_,_=>[.xM]
 | .deep _ _ _,_,i=>[.uz i]
def AB:(t:cO)→t.T→Nat→List (Nat×aO)
 | .val _,_,_=>[]
 | .own te e,xs,i=>[(i,.row te e 0 xs)]
 | .pair a b,x,i=>AB a x.1 i++AB b x.2 (i+pM a)
 | .one a,x,i=>AB a x i
 | .any,_,_=>[]
 | .deep te ti ln,xs,i=>[(i,.aL te ti 0 xs (KR ln))]
def IP:List AV→AV
 | [a]=>a
 | _=>.ak
def JL (t:cO)(x:t.T)(i:Nat):AV:=cond t.isAgg (.agg (sN t x i)) (IP (sN t x i))
def nB:(rs:List cO)→tg rs→Nat→List AV
 | [],_,_=>[]
 | t::ts,x,i=>JL t x.1 i::nB ts x.2 (i+pM t)
def fz:(rs:List cO)→tg rs→Nat→List (Nat×aO)
 | [],_,_=>[]
 | t::ts,x,i=>AB t x.1 i++fz ts x.2 (i+pM t)
def eA:List AV→AV
 | [a]=>a
 | vs=>.pI vs
def aY (H:Heap):List (Nat×aO)→Heap
 | []=>H
 | (i,o)::l=>aY (aM H i (some o)) l
def bf (H:Heap):List (Nat×aO)→Bool
 | []=>true
 | (i,o)::l=>(H i).isNone&&bf (aM H i (some o)) l
def rowsOf:List dH→Nat→List (Nat×aO)
 | [],_=>[]
 | o::os,i=>(i,o.o.H)::rowsOf os (i+1)
structure Carry (B:Nat)(μ:Mu)(S:ar)(H:Heap)(μ':Mu)(S':ar)(H':Heap):Prop where
 vr:∀ a v,VR μ S H a v→VR μ' S' H' a v
 st:∀ b,S' b≠none→S b≠none∨B≤b
 sub:∀ b o,S b=some o→S' b=some o
section
variable [aq]{P:Program}{w w' w0:World}{μ μ':Mu}{S S':ar}{H Hh H':Heap}{B:Nat}
omit [aq] in
theorem Carry.of (h:Ext μ S H μ' S H'):Carry B μ S H μ' S H':=⟨fun a v=>cJ h a v,fun _ h=>.inl h,fun _ _ h=>h⟩
omit [aq] in
theorem Carry.refl:Carry B μ S H μ S H:=⟨fun _ _ h=>h,fun _ h=>.inl h,fun _ _ h=>h⟩
omit [aq] in
theorem Carry.trans {μ'':Mu}{S'':ar}{H'':Heap}(h:Carry B μ S H μ' S' H')(k:Carry B μ' S' H' μ'' S'' H''):Carry B μ S H μ'' S'' H'':=
 ⟨fun a v x=>k.vr a v (h.vr a v x),fun b hb=>(k.st b hb).elim (fun x=>h.st b x) .inr,fun b o x=>k.sub b o (h.sub b o x)⟩
omit [aq] in
theorem Carry.list (h:Carry B μ S H μ' S' H'):∀ {as:List AV} {vs:List Value},aE μ S H as vs→aE μ' S' H' as vs
 | [],vs,hr=>by simp only[aE] at hr ⊢;exact hr
 | a::as,vs,hr=>by
  simp only[aE] at hr ⊢
  obtain⟨v,r,h1,h2,h3⟩:=hr
  exact⟨v,r,h1,h.vr a v h2,Carry.list h h3⟩
omit [aq] in
theorem fR:∀ (o p:List dH) (i:Nat),rowsOf (o++p) i=rowsOf o i++rowsOf p (i+o.length)
 | [],p,i=>by simp[rowsOf]
 | a::o,p,i=>by simp[rowsOf,fR o p (i+1),Nat.add_comm,Nat.add_left_comm]
omit [aq] in
theorem iN:∀ (t:cO) (x:t.T) (cs:List Value) (os:List dH) (i:Nat),FR S t x cs os →
  pM t=os.length∧AB t x i=rowsOf os i ∧
  ((∀ (j:Nat) (o:dH),os[j]? = some o→μ (i+j)=some o.loc∧H (i+j)=some o.o.H)→aE μ S H (sN t x i) cs)
 | .val t,x,cs,os,i,h=>by
  obtain⟨h1,rfl⟩:=h
  exact⟨rfl,rfl,fun _=>eN t x cs h1⟩
 | .own te e,xs,cs,os,i,h=>by
  obtain⟨l,rfl,rfl⟩:=h
  refine⟨rfl,rfl,fun hj=>?_⟩
  obtain⟨h1,h2⟩:=hj 0 _ rfl
  simp only[Nat.add_zero] at h1 h2
  simp only[sN,aE,VR]
  refine⟨_,[],rfl,⟨⟨_,_,_,rfl⟩,l,h1,fun t1 e1 g1 xs1 hH=>?_⟩,rfl⟩
  rw[h2] at hH
  simp only[uC.H] at hH
  injection hH with hH
  injection hH with k1 k2 k3 k4
  subst k2 k3
  cases k4
  exact⟨Nat.le_refl _,fun _=>rfl⟩
 | .pair a b,x,cs,os,i,h=>by
  obtain⟨c,d,o,p,rfl,rfl,h1,h2⟩:=h
  obtain⟨a1,a2,a3⟩:=iN a x.1 c o i h1
  obtain⟨b1,b2,b3⟩:=iN b x.2 d p (i+pM a) h2
  refine⟨by simp[pM,a1,b1],by rw[AB,a2,b2,fR,a1],fun hj=>?_⟩
  refine bQ (a3 fun j q hq=>hj j q ?_) (b3 fun j q hq=>?_)
  ·rw[List.getElem?_append_left (by
    rcases Nat.lt_or_ge j o.length with h|h
    ·exact h
    ·rw[List.getElem?_eq_none h] at hq;simp at hq)];exact hq
  ·have:=hj (o.length+j) q (by rw[List.getElem?_append_right (by omega)];simpa using hq)
   rw[a1,Nat.add_assoc];exact this
 | .one a,x,cs,os,i,h=>iN a x cs os i h
 | .any,x,cs,os,i,h=>by
  obtain⟨⟨v,rfl,hv⟩,rfl⟩:=h
  exact⟨rfl,rfl,fun _=>by simp only[sN,aE,VR];exact⟨v,[],rfl,hv,rfl⟩⟩
 | .deep te ti ln,xs,cs,os,i,h=>by
  obtain⟨l,rfl,rfl⟩:=h
  refine⟨rfl,rfl,fun hj=>?_⟩
  obtain⟨h1,h2⟩:=hj 0 _ rfl
  simp only[Nat.add_zero] at h1 h2
  simp only[sN,aE,VR]
  refine⟨_,[],rfl,⟨⟨_,_,_,rfl⟩,l,h1,fun t1 ti1 q1 xs1 st1 hH=>?_⟩,rfl⟩
  rw[h2] at hH
  cases hH
  rfl
omit [aq] in
theorem Gj {t:cO}{x:t.T}{v:Value}{os:List dH}{i:Nat}(h:iv S t x v os) :
  pM t=os.length∧AB t x i=rowsOf os i ∧
  ((∀ (j:Nat) (o:dH),os[j]? = some o→μ (i+j)=some o.loc∧H (i+j)=some o.o.H)→VR μ S H (JL t x i) v):=by
 unfold iv at h
 unfold JL
 cases ha:t.isAgg with
 | true=>
  rw[ha,if_pos rfl] at h
  obtain⟨cs,rfl,h⟩:=h
  obtain⟨h1,h2,h3⟩:=iN (μ:=μ) (H:=H) t x _ os i h
  exact⟨h1,h2,fun hj=>by simp only[cond_true,VR];exact⟨cs,rfl,h3 hj⟩⟩
 | false=>
  rw[ha,if_neg (by simp)] at h
  obtain⟨h1,h2,h3⟩:=iN (μ:=μ) (H:=H) t x _ os i h
  refine⟨h1,h2,fun hj=>?_⟩
  have:=h3 hj
  simp only[cond_false]
  have hl:=aQ this
  match he:sN t x i,this,hl with
  | [a],this,_=>simp only[aE] at this;obtain⟨_,_,e,k,_⟩:=this;cases e;exact k
  | [],_,hl=>simp at hl
  | _::_::_,_,hl=>simp at hl
omit [aq] in
theorem gm:∀ (rs:List cO) (y:tg rs) (us:List Value) (os:List dH) (i:Nat),zV S rs y us os →
  fz rs y i=rowsOf os i ∧
  ((∀ (j:Nat) (o:dH),os[j]? = some o→μ (i+j)=some o.loc∧H (i+j)=some o.o.H)→aE μ S H (nB rs y i) us)
 | [],y,us,os,i,h=>by obtain⟨rfl,rfl⟩:=h;exact⟨rfl,fun _=>by simp[nB,aE]⟩
 | t::ts,y,us,os,i,h=>by
  obtain⟨v,r,o,p,rfl,rfl,h1,h2⟩:=h
  obtain⟨a1,a2,a3⟩:=Gj (μ:=μ) (H:=H) (i:=i) h1
  obtain⟨b2,b3⟩:=gm ts y.2 r p (i+pM t) h2
  refine⟨by rw[fz,a2,b2,fR,a1],fun hj=>?_⟩
  simp only[nB,aE]
  refine⟨v,r,rfl,a3 fun j q hq=>hj j q ?_,b3 fun j q hq=>?_⟩
  ·rw[List.getElem?_append_left (by
    rcases Nat.lt_or_ge j o.length with h|h
    ·exact h
    ·rw[List.getElem?_eq_none h] at hq;simp at hq)];exact hq
  ·have:=hj (o.length+j) q (by rw[List.getElem?_append_right (by omega)];simpa using hq)
   rw[a1,Nat.add_assoc];exact this
omit [aq] in
theorem qC:∀ {as:List AV} {vs:List Value},aE μ S H as vs→VR μ S H (eA as) (fP vs)
 | [],vs,h=>by simp only[aE] at h;subst h;simp only[eA,fP,VR];exact⟨_,rfl,by simp[aE]⟩
 | [a],vs,h=>by
  simp only[aE] at h
  obtain⟨v,r,rfl,h1,rfl⟩:=h
  exact h1
 | a::b::as,vs,h=>by
  have h':=h
  simp only[aE] at h
  obtain⟨v,r,rfl,h1,u,r',rfl,h2,h3⟩:=h
  simp only[eA,fP,VR]
  exact⟨_,rfl,by simpa using h'⟩
theorem Rel.DQ (R:Rel μ S H B w0 w):Rel μ S H B w0 w.drew:=⟨R.below.drew,R.size,R.st,R.dom,fun i o ho=>by
 obtain⟨l,h1,h2⟩:=R.obj i o ho
 exact⟨l,h1,bw (w:=w) (w':=w.drew) Ext.refl (fun _ _=>rfl) (fun b hb=>(R.xL h1 hb).2) h2⟩,R.sep,R.b7,R.pre⟩
theorem Rel.grow (R:Rel μ S H B w0 w)(hb:Below w.heap.size w w')(h1:∀ b o,S b=some o→S' b=some o)(h2:∀ b o,S' b=some o→w'.heap[b]? = some o)
  (h3:∀ b,S' b≠none→S b≠none∨w.heap.size≤b):Rel μ S' H B w0 w'∧Ext μ S H μ S' H:=by
 have E:Ext μ S H μ S' H:=⟨fun _ _ h=>.inl h,h1,fun _ t _ g xs _ h=>⟨t,g,xs,h,Nat.le_refl _,fun _=>rfl⟩,fun _ t ti q xs st _ h=>⟨t,ti,q,xs,st,h,Nat.le_refl _,rfl,fun _ _ h=>h⟩⟩
 refine⟨⟨R.below.trans (hb.mono R.size),Nat.le_trans R.size hb.size,h2,R.dom,fun i o ho=>?_,R.sep,R.b7,aq.mono _ _ h1 R.pre⟩,E⟩
 obtain⟨l,k1,k2⟩:=R.obj i o ho
 refine⟨l,k1,bw E (fun b hb'=>hb.block b (R.zO k1 hb')) (fun b hb'=>?_) k2⟩
 cases hs:S' b with
 | none=>rfl
 | some o'=>
  rcases h3 b (by rw[hs];simp) with h|h
  ·exact absurd (R.xL k1 hb').2 h
  ·have:=R.zO k1 hb';omega
theorem Rel.add (R:Rel μ S H B w0 w){i:Nat}(hi:H i=none)(ho:aO)(l:Lc)(hsep:∀ j lj b,μ j=some lj→l.has b→¬ lj.has b)
  (hO:jO (aM μ i (some l)) S (aM H i (some ho)) w B l ho) (hin:l.b7=aP∨∃ t ti q xs st,ho = .aL t ti q xs st) :
  Rel (aM μ i (some l)) S (aM H i (some ho)) B w0 w∧Ext μ S H (aM μ i (some l)) S (aM H i (some ho)):=by
 have hm:μ i=none:=by
  have:=R.dom i;rw[hi] at this
  cases h:μ i with
  | none=>rfl
  | some _=>rw[h] at this;simp at this
 have E:Ext μ S H (aM μ i (some l)) S (aM H i (some ho)):=Ext.new hm
 refine⟨⟨R.below,R.size,R.st,fun j=>?_,fun j o' hj=>?_,?_,fun j lj hj=>?_,R.pre⟩,E⟩
 ·by_cases e:j=i
  ·subst e;rw[au,au];rfl
  ·rw[ax _ _ e,ax _ _ e];exact R.dom j
 ·by_cases e:j=i
  ·subst e;rw[au] at hj;cases hj;exact⟨l,au _ _ _,hO⟩
  ·rw[ax _ _ e] at hj
   obtain⟨l',h1,h2⟩:=R.obj j o' hj
   exact⟨l',by rw[ax _ _ e];exact h1,bw E (fun _ _=>rfl) (fun b hb=>(R.xL h1 hb).2) h2⟩
 ·intro j k lj lk b hjk hj hk hb
  by_cases e:j=i
  ·subst e
   rw[au] at hj;cases hj
   rw[ax _ _ (Ne.symm hjk)] at hk
   exact hsep k lk b hk hb
  ·rw[ax _ _ e] at hj
   by_cases e2:k=i
   ·subst e2
    rw[au] at hk;cases hk
    intro hb'
    exact hsep j lj b hj hb' hb
   ·rw[ax _ _ e2] at hk
    exact R.sep j k lj lk b hjk hj hk hb
 ·by_cases e:j=i
  ·subst e;rw[au] at hj;cases hj
   rw[au]
   exact hin.imp id fun⟨t,ti,q,xs,st,h⟩=>⟨t,ti,q,xs,st,by rw[h]⟩
  ·rw[ax _ _ e] at hj;rw[ax _ _ e];exact R.b7 j lj hj
theorem DY {μ:Mu}{S:ar}{H:Heap}{o:dH}(h:en S w B o):jO μ S H w B o.loc o.o.H∧(o.loc.b7=aP∨∃ t ti q xs st,o.o.H = .aL t ti q xs st):=by
 obtain⟨l,o⟩:=o
 cases o with
 | row te e xs=>exact⟨h.2,.inl h.1⟩
 | deep te ti ln xs=>exact⟨h,.inr ⟨_,_,_,_,_,rfl⟩⟩
omit [aq] in
theorem Jj {o:dH}(h:en S w B o){b:Nat}(hb:o.loc.has b):b<w.heap.size∧B≤b∧S b=none:=by
 obtain⟨l,o⟩:=o
 cases o with
 | row te e xs=>exact dX h.2 ((Lc.dy h.1).1 hb)
 | deep te ti ln xs=>exact Ad h hb
theorem Rel.B6:∀ (os:List dH) (i:Nat) (μ:Mu) (H:Heap),Rel μ S H B w0 w→bf H (rowsOf os i)=true→(∀ o∈os,en S w B o)→os.Pairwise wF →
  (∀ o∈os,∀ j lj b,μ j=some lj→o.loc.has b→¬ lj.has b) →
  ∃ μ',Rel μ' S (aY H (rowsOf os i)) B w0 w∧Carry B μ S H μ' S (aY H (rowsOf os i)) ∧
   (∀ k l,μ k=some l→μ' k=some l)∧(∀ k o,H k=some o→aY H (rowsOf os i) k=some o) ∧
   (∀ (j:Nat) (o:dH),os[j]? = some o→μ' (i+j)=some o.loc∧aY H (rowsOf os i) (i+j)=some o.o.H)
 | [],i,μ,H,R,_,_,_,_=>⟨μ,R,Carry.refl,fun _ _ h=>h,fun _ _ h=>h,fun j o hj=>by simp at hj⟩
 | o::os,i,μ,H,R,hf,hO,hA,hsep=>by
  simp only[rowsOf,bf,Bool.and_eq_true,Option.isNone_iff_eq_none] at hf
  obtain⟨hi,hf⟩:=hf
  have hO0:=hO o (by simp)
  obtain⟨R1,E1⟩:=R.add hi o.o.H o.loc (hsep o (by simp)) (DY hO0).1 (DY (μ:=μ) (H:=H) hO0).2
  have hm:μ i=none:=by
   have:=R.dom i;rw[hi] at this
   cases h:μ i with
   | none=>rfl
   | some _=>rw[h] at this;simp at this
  have hA':=List.pairwise_cons.1 hA
  obtain⟨μ',R2,C2,M2,H2,G2⟩:=Rel.B6 os (i+1) _ _ R1 hf (fun p hp=>hO p (by simp[hp])) hA'.2 (fun p hp j lj b hj hb=>by
   by_cases e:j=i
   ·subst e;rw[au] at hj;cases hj
    intro hb'
    exact hA'.1 p hp b hb' hb
   ·rw[ax _ _ e] at hj
    exact hsep p (by simp[hp]) j lj b hj hb)
  refine⟨μ',R2,(Carry.of E1).trans C2,fun k l hk=>M2 k l ?_,fun k o' hk=>H2 k o' ?_,fun j p hj=>?_⟩
  ·rw[ax _ _ (fun e=>by subst e;rw[hm] at hk;simp at hk)];exact hk
  ·rw[ax _ _ (fun e=>by subst e;rw[hi] at hk;simp at hk)];exact hk
  ·cases j with
   | zero=>
    simp at hj;subst hj
    exact⟨M2 i _ (au _ _ _),H2 i _ (au _ _ _)⟩
   | succ j=>
    simp at hj
    have:=G2 j p hj
    rw[show i+1+j=i+(j+1) from by omega] at this
    exact this
omit [aq] in
theorem jE:∀ (t:Ty) (x:t.T) (cs:List Value),t.flat=true→Rd S t x cs→Rd S' t x cs
 | .int _,_,_,_,h=>h
 | .bool,_,_,_,h=>h
 | .str,_,_,_,h=>h
 | .row e,_,_,hf,_=>by simp[Ty.flat] at hf
 | .pair a b,x,cs,hf,h=>by
  simp only[Ty.flat,Bool.and_eq_true] at hf
  obtain⟨c,d,h1,h2,h3⟩:=h
  exact⟨c,d,h1,jE a _ _ hf.1 h2,jE b _ _ hf.2 h3⟩
 | .one a,x,cs,hf,h=>jE a x cs hf h
 | .xI _,_,_,_,h=>h
 | .nil,_,_,_,h=>h
omit [aq] in
theorem jw:∀ (t:cO) (x:t.T) (cs:List Value) (os:List dH),t.flat=true→FR S t x cs os→FR S' t x cs os∧∀ o∈os,o.o.flat=true
 | .val t,x,cs,os,hf,h=>⟨⟨jE t x cs hf h.1,h.2⟩,by rw[h.2];simp⟩
 | .own te e,xs,cs,os,hf,h=>⟨h,by obtain⟨l,_,rfl⟩:=h;simpa [cO.flat,uC.flat] using hf⟩
 | .pair a b,x,cs,os,hf,h=>by
  simp only[cO.flat,Bool.and_eq_true] at hf
  obtain⟨c,d,o,p,h1,h2,h3,h4⟩:=h
  obtain⟨a1,a2⟩:=jw a _ _ _ hf.1 h3
  obtain⟨b1,b2⟩:=jw b _ _ _ hf.2 h4
  exact⟨⟨c,d,o,p,h1,h2,a1,b1⟩,by rw[h2];intro q hq;rcases List.mem_append.1 hq with h|h;exact a2 q h;exact b2 q h⟩
 | .one a,x,cs,os,hf,h=>jw a x cs os hf h
 | .any,x,cs,os,hf,h=>⟨h,by rw[h.2];simp⟩
 | .deep te ti ln,xs,cs,os,hf,h=>⟨h,by obtain⟨l,_,rfl⟩:=h;simpa [cO.flat,uC.flat] using hf⟩
omit [aq] in
theorem uc:∀ (rs:List cO) (y:tg rs) (us:List Value) (os:List dH),yE rs=true→zV S rs y us os→zV S' rs y us os∧∀ o∈os,o.o.flat=true
 | [],y,us,os,_,h=>⟨h,by rw[h.2];simp⟩
 | t::ts,y,us,os,hf,h=>by
  simp only[yE,Bool.and_eq_true] at hf
  obtain⟨v,r,o,p,h1,h2,h3,h4⟩:=h
  obtain⟨b1,b2⟩:=uc ts _ _ _ hf.2 h4
  have:iv S' t y.1 v o∧∀ q∈o,q.o.flat=true:=by
   unfold iv at h3 ⊢
   split at h3
   ·rename_i ha
    obtain⟨cs,k1,k2⟩:=h3
    obtain⟨m1,m2⟩:=jw t _ _ _ hf.1 k2
    exact⟨by rw[if_pos ha];exact⟨cs,k1,m1⟩,m2⟩
   ·rename_i ha
    obtain⟨m1,m2⟩:=jw t _ _ _ hf.1 h3
    exact⟨by rw[if_neg ha];exact m1,m2⟩
  exact⟨⟨v,r,o,p,h1,h2,this.1,b1⟩,by rw[h2];intro q hq;rcases List.mem_append.1 hq with h|h;exact this.2 q h;exact b2 q h⟩
omit [aq] in
theorem Ey {B':Nat}{l:Lc}{t:TypeId}{e:Ty}{xs:List e.T}(hb:B≤B')(h:fq S w B' l t e xs):fq S w B l t e xs:=
 ⟨h.1,h.2.imp id fun⟨b,cs,q1,q2,q⟩=>⟨b,cs,q1,Nat.le_trans hb q2,q⟩⟩
omit [aq] in
theorem Pj {B':Nat}{o:dH}(hb:B≤B')(h:en S w B' o):en S w B o:=by
 obtain⟨l,o⟩:=o
 cases o with
 | row te e xs=>exact⟨h.1,Ey hb h.2⟩
 | deep te ti ln xs=>
  have h:cu S w B' l te ti xs (KR ln):=h
  exact⟨h.len,h.out,fun k x hx hm=>Ey hb (h.row k x hx hm),h.one,h.off,h.xM.imp id fun⟨b,cs,q1,q2,q⟩=>⟨b,cs,q1,Nat.le_trans hb q2,q⟩⟩
omit [aq] in
theorem nW {B':Nat}{l:Lc}{t:TypeId}{e:Ty}{xs:List e.T}(hf:e.flat=true)(hb:B≤B')(hs:∀ b,S b≠none→b<B')(h:fq S' w B' l t e xs):fq S w B l t e xs:=
 ⟨h.1,h.2.imp id fun⟨b,cs,q1,q2,q3,q4,q5,q6⟩=>⟨b,cs,q1,Nat.le_trans hb q2,by
  cases hS:S b with
  | none=>rfl
  | some o=>have:=hs b (by rw[hS];simp);omega,q4,q5,fun j z hj=>by
  obtain⟨d,m1,m2⟩:=q6 j z hj
  exact⟨d,jE _ _ _ hf m1,m2⟩⟩⟩
omit [aq] in
theorem Hj {B':Nat}{o:dH}(hf:o.o.flat=true)(hb:B≤B')(hs:∀ b,S b≠none→b<B')(h:en S' w B' o):en S w B o:=by
 obtain⟨l,o⟩:=o
 cases o with
 | row te e xs=>exact⟨h.1,nW hf hb hs h.2⟩
 | deep te ti ln xs=>
  cases ln with
  | true=>simp[uC.flat] at hf
  | false=>
  have h:cu S' w B' l te ti xs .own:=h
  refine (⟨h.len,h.out,fun k x hx hm=>nW rfl hb hs (h.row k x hx hm),h.one,h.off,h.xM.imp id fun⟨b,cs,q1,q2,q3,q4,q5,q6⟩=>⟨b,cs,q1,Nat.le_trans hb q2,?_,q4,q5,fun k x hx=>?_⟩⟩:cu S w B l te ti xs .own)
  ·cases hS:S b with
   | none=>rfl
   | some o=>have:=hs b (by rw[hS];simp);omega
  ·obtain⟨f0,f2,v,f1,f3,f4,_⟩:=q6 k x hx
   exact⟨f0,f2,v,f1,f3,f4,fun h=>absurd trivial h⟩
def fA (c:aT)(H:Heap):Heap:=cond (yE c.rs) H (fun _=>none)
theorem F7 {k:FuncId}{c:aT}(hc:c.OK P k)(sub:∀ i o,Hh i=some o→H i=some o)(R:Rel μ S H B w0 w){as:List AV}{us:Array Value}(hv:aE μ S H as us.toList)
  {x:cC c.ps} {y:tg c.rs} (hd:bU (fA c Hh) c.ps as=some x) (hf:c.f x=some y) {id:Nat} (hfr:bf H (fz c.rs y id)=true) :
  Calls P k us w fun e w'=>∃ v μ' S',e = .returned v∧VR μ' S' (aY H (fz c.rs y id)) (eA (nB c.rs y id)) v ∧
   Rel μ' S' (aY H (fz c.rs y id)) B w0 w'∧Carry B μ S H μ' S' (aY H (fz c.rs y id)):=by
 cases hfl:yE c.rs with
 | true=>
  have hd':bU Hh c.ps as=some x:=by unfold fA at hd;rw[hfl] at hd;exact hd
  have ha:=eV (S':=jP w) (fun b o h=>R.st b o h) (LA R sub) sub hv hd'
  have:=hc x y hf (jP w) w us.toList (fun b o h=>h) (aq.mono _ _ R.st R.pre) ha
  rw[Array.toArray_toList] at this
  refine this.mono ?_
  rintro e w' ⟨vs,S',os,rfl,hb,h1,h2,h3,h4,h5,h6⟩
  obtain⟨R1,E1⟩:=R.grow (S':=S) hb (fun _ _ h=>h) (fun b o h=>by rw[hb.block b (R.gf h)];exact R.st b o h) (fun b h=>.inl h)
  obtain⟨f1,f2⟩:=uc (S':=S) c.rs y vs os hfl h4
  obtain⟨e1,e2⟩:=gm (μ:=μ) (H:=H) c.rs y vs os id f1
  rw[e1] at hfr ⊢
  have hO:∀ o∈os,en S w' B o:=fun o ho=>Hj (f2 o ho) R.size (fun b hs=>by
   cases hs2:S b with
   | none=>exact absurd hs2 hs
   | some o'=>exact R.gf hs2) (h5 o ho)
  obtain⟨μ',R2,C2,M2,H2,G2⟩:=Rel.B6 os id μ H R1 hfr hO h6 (fun o ho j lj b hj hb' hb2=>by
   have h1:=(Jj (h5 o ho) hb').2.1
   have:=R.zO hj hb2;omega)
  obtain⟨_,e3⟩:=gm (μ:=μ') (H:=aY H (rowsOf os id)) c.rs y vs os id f1
  exact⟨_,μ',S,rfl,qC (e3 G2),R2,(Carry.of E1).trans C2⟩
 | false=>
  have hd':bU (fun _=>none) c.ps as=some x:=by unfold fA at hd;rw[hfl] at hd;exact hd
  have ha:=eV (S':=S) (H:=H) (Hh:=fun _=>none) (fun b o h=>h) cK.no (fun i o h=>by simp at h) hv hd'
  have:=hc x y hf S w us.toList R.st R.pre ha
  rw[Array.toArray_toList] at this
  refine this.mono ?_
  rintro e w' ⟨vs,S',os,rfl,hb,h1,h2,h3,h4,h5,h6⟩
  obtain⟨R1,E1⟩:=R.grow (S':=S') hb h1 h2 h3
  obtain⟨e1,e2⟩:=gm (μ:=μ) (H:=H) c.rs y vs os id h4
  rw[e1] at hfr ⊢
  have hO:∀ o∈os,en S' w' B o:=fun o ho=>Pj R.size (h5 o ho)
  obtain⟨μ',R2,C2,M2,H2,G2⟩:=Rel.B6 os id μ H R1 hfr hO h6 (fun o ho j lj b hj hb' hb2=>by
   have h1:=(Jj (h5 o ho) hb').2.1
   have:=R.zO hj hb2;omega)
  obtain⟨_,e3⟩:=gm (μ:=μ') (H:=aY H (rowsOf os id)) c.rs y vs os id h4
  exact⟨_,μ',S',rfl,qC (e3 G2),R2,Carry.trans ⟨fun a v=>cJ E1 a v,fun b hb=>(h3 b hb).elim .inl (fun x=>.inr (Nat.le_trans R.size x)),h1⟩ C2⟩
end
structure bF where
 te:TypeId
 e:Ty
 ps:List Ty
 keep:Bool
 f:List e.T→cC ps→Option (List e.T)
def Ty.notNil:Ty→Bool
 | .nil=>false
 | _=>true
def bF.AS [aq](P:Program)(k:FuncId):bF→Prop
 | ⟨te,.nil,[.row (.int .u8)],true,f⟩=>∀ (xs:List Int) (r:List Unit),f [] (xs,())=some r→∀ (S:ar) (w:World) (v:Value),(∀ b o,S b=some o→w.heap[b]? = some o)→aq.pre S→FV S (.row (.int .u8)) xs v →
   Calls P k #[v] w fun e w'=>∃ l:Lc,e = .returned (.slice l.addr xs.length l.cap)∧Below w.heap.size w w'∧fq S w' w.heap.size l te (.int .u8) xs
 | _=>True
def bF.QJ [aq](P:Program)(k:FuncId)(u:bF):Prop:=
 ∀ (zs:List u.e.T) (x:cC u.ps) (ys:List u.e.T),u.f zs x=some ys→∀ (S:ar) (w:World) (B:Nat) (v0:Value) (cs0 vs:List Value),(∀ b o,S b=some o→w.heap[b]? = some o)→aq.pre S→eZ S u.ps x vs →
  e9 S u.e zs cs0→w.ownsRow B u.te u.e.size v0 zs.length cs0→(∀ b,v0.ownBlock=some b→S b=none)→B≤w.heap.size →
  Calls P k (v0::vs).toArray w fun e w'=>∃ v cs,e = .returned (cond u.keep (.tuple #[]) v)∧(u.keep=true→v=v0∧ys.length=zs.length)∧e9 S u.e ys cs∧w'.ownsRow B u.te u.e.size v ys.length cs ∧
   (∀ b,v.ownBlock=some b→v0.ownBlock=some b∨w.heap.size≤b)∧w.grownBy w' v0.ownBlock
def bF.OK [aq](P:Program)(k:FuncId)(u:bF):Prop:=(u.e.notNil=true→u.QJ P k)∧u.AS P k
def fX (u:bF)(Hh:Heap)(i g:Nat)(part:Option Nat)(rest:List AV):Option (aO×AV):=
 match Hh i with
 | some (.row te e g' xs)=>match eB (e:=e) (e':=u.e) (match part with
   | none=>xs
   | some b=>xs.take b) with
  | some zs=>match bU (cond u.e.flat (fun q=>cond (Nat.beq q i) none (Hh q)) (fun _=>none)) u.ps rest with
   | some x=>match u.f zs x with
    | some ys=>cond (Nat.beq g g'&&Nat.beq te u.te&&u.e.notNil) (match u.keep with
      | true=>cond (Nat.beq (List.length ys) (List.length zs)&&part.isNone) (some (.row te u.e g ys,.lit (.tuple #[]))) none
      | false=>some (.row te u.e (g+1) ys,.sl i (g+1))) none
    | none=>none
   | none=>none
  | none=>none
 | _=>none
def kr (u:bF)(Hh:Heap)(i:Nat)(zs:List Int):Option (aO×AV):=
 match u with
 | ⟨te,.nil,[.row (.int .u8)],true,f⟩=>match Hh i with
  | some (.aL t ti q xs (.eW m))=>match f [] (zs,()) with
   | some _=>cond (Nat.beq te ti) (cond (decide (m<xs.length)) (some (.aL t ti q (xs.set m ((rd cl xs m).1,(zs,(rd cl xs m).2.2))) (.late m),.b7 i q m 0 zs.length)) none) none
   | none=>none
  | _=>none
 | _=>none
def fQ (u:bF)(Hh:Heap):List AV→Option (Nat×aO×AV)
 | [.DS i zs]=>match kr u Hh i zs with
  | some (o,v)=>some (i,o,v)
  | none=>none
 | .sl i g::rest=>match fX u Hh i g none rest with
  | some (o,v)=>some (i,o,v)
  | none=>none
 | .sub i g a b::rest=>cond (Nat.beq a 0) (match fX u Hh i g (some b) rest with
  | some (o,v)=>some (i,o,v)
  | none=>none) none
 | _=>none
section
variable [aq]{P:Program}{w w' w0:World}{μ μ':Mu}{S S':ar}{H Hh H':Heap}{B:Nat}
omit [aq] in
theorem jl {e:Ty}(hf:e.flat=true):∀ {xs:List e.T} {cs:List Value},e9 S e xs cs→e9 S' e xs cs
 | [],_,h=>h
 | x::xs,cs,h=>by
  obtain⟨c,d,h1,h2,h3⟩:=h
  exact⟨c,d,h1,jE _ _ _ hf h2,jl hf h3⟩
theorem s4 {l:Lc}{te:TypeId}{e:Ty}{g:Nat}{xs:List e.T}(b:Nat)(h:jO μ S H w B l (.row te e g xs)):jO μ S H w B l (.row te e g (xs.take b)):=by
 obtain⟨⟨h1,h2⟩,h3⟩:=h
 refine⟨⟨by rw[List.length_take];omega,h2⟩,?_⟩
 rcases h3 with h3|⟨b',cs,e1,q1,q2,q3,q4,q5⟩
 ·exact .inl h3
 ·refine .inr ⟨b',cs,e1,q1,q2,q3,q4,fun j x hj=>q5 j x ?_⟩
  rw[List.getElem?_take] at hj
  split at hj
  ·exact hj
  ·simp at hj
omit [aq] in
theorem FY {l l':Lc}(h:l.addr=l'.addr):l.blk=l'.blk:=by
 obtain⟨b,c,n⟩:=l
 obtain⟨b',c',n'⟩:=l'
 cases b<;>cases b'<;>simp_all [Lc.addr]
omit [aq] in
theorem iO (l:Lc)(n c:Nat):Value.ownBlock (.slice l.addr n c)=l.blk:=by
 obtain⟨b,c,n⟩:=l
 cases b<;>rfl
theorem B4 (R:Rel μ S H B w0 w){i:Nat}{l:Lc}{te:TypeId}{e:Ty}{g g':Nat}{xs ys:List e.T}{cs:List Value}{v:Value}(hm:μ i=some l)(hi:H i=some (.row te e g xs))(hlt:g<g')
  (hR:e9 S e ys cs) (hown:w'.ownsRow B te e.size v ys.length cs) (hv:∀ b,v.ownBlock=some b→l.blk=some b∨w.heap.size≤b) (hg:w.grownBy w' l.blk) :
  ∃ μ',Rel μ' S (aM H i (some (.row te e g' ys))) B w0 w'∧Ext μ S H μ' S (aM H i (some (.row te e g' ys)))∧VR μ' S (aM H i (some (.row te e g' ys))) (.sl i g') v:=by
 have hS:∀ b,v.ownBlock=some b→S b=none:=by
  intro b hb
  rcases hv b hb with h|h
  ·exact (R.ge hm h).2
  ·cases hs:S b with
   | none=>rfl
   | some o=>have:=R.gf hs;omega
 obtain⟨l',rfl,h1,hno,hO⟩:=gz (μ:=μ) (H:=H) (g:=g') hR hS hown
 have E:Ext μ S H (aM μ i (some l')) S (aM H i (some (.row te e g' ys))):=Ext.Mx hm hi hlt
 refine⟨aM μ i (some l'),R.put (fun b hb=>?_) (fun b hb=>⟨l,hm,hb⟩) hg E (bw E (fun _ _=>rfl) (fun b hb=>hS b (by rw[h1];exact (Lc.dy hno).1 hb)) hO) hno,E,HE⟩
 rcases hv b (by rw[h1];exact hb) with h|h
 ·exact .inl ⟨l,hm,h⟩
 ·exact .inr h
theorem HN (R:Rel μ S H B w0 w){i:Nat}{l:Lc}{te:TypeId}{e:Ty}{g:Nat}{xs ys:List e.T}{cs:List Value}(hm:μ i=some l)(hi:H i=some (.row te e g xs))(hl:ys.length=xs.length)
  (hR:e9 S e ys cs) (hown:w'.ownsRow B te e.size (.slice l.addr xs.length l.cap) ys.length cs) (hg:w.grownBy w' l.blk) :
  Rel μ S (aM H i (some (.row te e g ys))) B w0 w'∧Ext μ S H μ S (aM H i (some (.row te e g ys))):=by
 have hS:∀ b,Value.ownBlock (.slice l.addr xs.length l.cap)=some b→S b=none:=by
  intro b hb
  rw[iO] at hb
  exact (R.ge hm hb).2
 obtain⟨l',he,h1,hno,hO⟩:=gz (μ:=μ) (H:=H) (g:=g) hR hS hown
 have hnl:=R.fM hm hi
 simp only[Value.slice.injEq] at he
 have hll:l'=l:=by
  obtain⟨b,c,n⟩:=l
  obtain⟨b',c',n'⟩:=l'
  have e1:=FY he.1
  have e2:=he.2.2
  simp only at e1 e2 hno hnl
  rw[e1,e2,hno,hnl]
 subst hll
 have E:Ext μ S H μ S (aM H i (some (.row te e g ys))):=Ext.iP hi hl.symm
 have hmu:aM μ i (some l')=μ:=by
  funext q
  by_cases e1:q=i
  ·subst e1;rw[au,hm]
  ·rw[ax _ _ e1]
 have:=R.put (w':=w') (i:=i) (l:=l') (ho:=.row te e g ys) (fun b hb=>.inl ⟨l',hm,hb⟩) (fun b hb=>⟨l',hm,hb⟩) hg (by rw[hmu];exact E) (by rw[hmu];exact bw E (fun _ _=>rfl) (fun b hb=>(R.xL hm hb).2) hO) hnl
 rw[hmu] at this
 exact⟨this,E⟩
theorem s9 {k:FuncId}{u:bF}(hu:u.OK P k)(sub:∀ i o,Hh i=some o→H i=some o)(R:Rel μ S H B w0 w){i g:Nat}{part:Option Nat}{rest:List AV}{v0:Value}{us:List Value}{l:Lc}(hm:μ i=some l)
  (hv0:∀ te e xs,H i=some (.row te e g xs)→v0 = .slice l.addr (match part with
   | none=>xs.length
   | some b=>b) l.cap∧∀ b,part=some b→b≤xs.length)
  (hv:aE μ S H rest us) {o:aO} {v:AV} (h:fX u Hh i g part rest=some (o,v)) :
  Calls P k (v0::us).toArray w fun x w'=>∃ r μ',x = .returned r∧VR μ' S (aM H i (some o)) v r∧Rel μ' S (aM H i (some o)) B w0 w'∧Carry B μ S H μ' S (aM H i (some o)):=by
 unfold fX at h
 split at h
 case h_2=>simp at h
 rename_i te e g' xs hHh
 have hH:=sub _ _ hHh
 split at h
 case h_2=>simp at h
 rename_i zs hzs
 split at h
 case h_2=>simp at h
 rename_i x hx
 split at h
 case h_2=>simp at h
 rename_i ys hys
 obtain⟨hc,h5⟩:=az h
 clear h
 simp only[Bool.and_eq_true] at hc
 obtain⟨⟨c1,c2⟩,c3⟩:=hc
 have c1:=Nat.eq_of_beq_eq_true c1
 have c2:=Nat.eq_of_beq_eq_true c2
 subst c1 c2
 have hu:=hu.1 c3
 obtain⟨he,hz⟩:=bN hzs
 obtain⟨l0,hm0,hO⟩:=R.obj i _ hH
 have:l0=l:=Option.some.inj (hm0.symm.trans hm)
 subst this
 obtain⟨k1,k2⟩:=hv0 _ _ _ hH
 obtain⟨ute,ue,ups,uk,uf⟩:=u
 simp only at he zs x ys hzs hx hys h5 hu
 subst he
 simp only at hz
 have hO':jO μ S H w B l0 (.row ute e g zs):=by
  rw[hz]
  cases part with
  | none=>exact hO
  | some b=>exact s4 b hO
 have hlen:v0 = .slice l0.addr zs.length l0.cap:=by
  rw[k1,hz]
  cases part with
  | none=>rfl
  | some b=>have:=k2 b rfl;simp only[List.length_take];rw[Nat.min_eq_left this]
 obtain⟨cs0,r1,r2⟩:=jk hO'
 have r1:e9 S e zs cs0:=r1
 have hnl:=R.fM hm hH
 have key:∃ S1:ar,(∀ b o,S b=some o→S1 b=some o)∧(∀ b o,S1 b=some o→w.heap[b]? = some o)∧eZ S1 ups x us∧(∀ b,l0.blk=some b→S1 b=none) ∧
   (∀ xs cs,e9 S e xs cs→e9 S1 e xs cs)∧(∀ xs cs,e9 S1 e xs cs→e9 S e xs cs):=by
  cases hfl:e.flat with
  | false=>
   rw[hfl] at hx
   exact⟨S,fun _ _ h=>h,R.st,eV (S':=S) (H:=H) (Hh:=fun _=>none) (fun b o h=>h) cK.no (fun i o h=>by simp at h) hv hx,fun b hb=>(R.ge hm hb).2,fun _ _ h=>h,fun _ _ h=>h⟩
  | true=>
  rw[hfl] at hx
  have hx:bU (fun q=>cond (Nat.beq q i) none (Hh q)) ups rest=some x:=hx
  let S1:ar:=fun b=>if l0.blk=some b then none else w.heap[b]?
  have hS1:∀ b o,S b=some o→S1 b=some o:=by
   intro b o hb
   show (if l0.blk=some b then none else w.heap[b]?)=some o
   rw[if_neg (fun hq=>by rw[(R.ge hm hq).2] at hb;simp at hb)]
   exact R.st b o hb
  have hS1w:∀ b o,S1 b=some o→w.heap[b]? = some o:=by
   intro b o hb
   have hb:(if l0.blk=some b then none else w.heap[b]?)=some o:=hb
   split at hb
   ·simp at hb
   ·exact hb
  have hsub:∀ j o,(fun q=>cond (Nat.beq q i) none (Hh q)) j=some o→j≠i∧Hh j=some o:=by
   intro j o hj
   simp only at hj
   cases hb:Nat.beq j i with
   | true=>rw[hb] at hj;simp at hj
   | false=>
    rw[hb] at hj
    refine⟨fun hq=>?_,hj⟩
    subst hq
    simp[Nat.beq_refl] at hb
  have hrow:cK μ S1 (fun q=>cond (Nat.beq q i) none (Hh q)):=by
   refine⟨fun j t e g xs l hj hmj=>?_,fun j t ti q xs l hj hmj=>?_⟩
   ·obtain⟨hji,hHj⟩:=hsub j _ hj
    obtain⟨lj,m1,m2⟩:=R.obj j _ (sub _ _ hHj)
    have:lj=l:=Option.some.inj (m1.symm.trans hmj)
    subst this
    have hne:∀ b,lj.blk=some b→S1 b=w.heap[b]?:=fun b hb=>if_neg (fun hq=>R.UF i j l0 lj b (Ne.symm hji) hm m1 hq hb)
    exact gw hS1 hne m2
   ·obtain⟨hji,hHj⟩:=hsub j _ hj
    obtain⟨lj,m1,m2⟩:=R.obj j _ (sub _ _ hHj)
    have:lj=l:=Option.some.inj (m1.symm.trans hmj)
    subst this
    have hne:∀ b,lj.has b→S1 b=w.heap[b]?:=fun b hb=>if_neg (fun hq=>R.sep i j l0 lj b (Ne.symm hji) hm m1 (.inl hq) hb)
    exact ol hS1 hne m2
  exact⟨S1,hS1,hS1w,eV (S':=S1) (H:=H) hS1 hrow (fun j o hj=>sub _ _ (hsub j o hj).2) hv hx,fun b hb=>if_pos hb,fun _ _ h=>jl hfl h,fun _ _ h=>jl hfl h⟩
 obtain⟨S1,hS1,hS1w,ha,hSn,toS1,ofS1⟩:=key
 have hcall:=hu zs x ys hys S1 w B v0 cs0 us hS1w (aq.mono _ _ hS1 R.pre) ha (toS1 _ _ r1) (by rw[hlen];exact r2) (fun b hb=>by
  rw[hlen,iO] at hb
  exact hSn b hb) R.size
 refine hcall.mono ?_
 rintro q w' ⟨r,cs,rfl,q1,q2,q3,q4,q5⟩
 rw[hlen,iO] at q4 q5
 have q2':e9 S e ys cs:=ofS1 _ _ q2
 cases hk:uk with
 | true=>
  rw[hk] at h5
  simp only at h5
  obtain⟨hc2,h6⟩:=ah h5
  cases h6
  simp only[Bool.and_eq_true] at hc2
  have hpn:part=none:=by simpa using hc2.2
  subst hpn
  obtain⟨rfl,ql⟩:=q1 hk
  have hz':zs=xs:=hz
  subst hz'
  rw[hlen] at q3
  obtain⟨R',E⟩:=HN R hm hH ql q2' q3 q5
  refine⟨.tuple #[],μ,by simp,by simp only[VR],R',Carry.of E⟩
 | false=>
  rw[hk] at h5
  simp only[Option.some.injEq,Prod.mk.injEq] at h5
  obtain⟨rfl,rfl⟩:=h5
  obtain⟨μ',R',E,hVR⟩:=B4 R hm hH (Nat.lt_succ_self g) q2' q3 q4 q5
  exact⟨r,μ',by simp,hVR,R',Carry.of E⟩
theorem QM {k:FuncId}{u:bF}(hu:u.OK P k)(sub:∀ i o,Hh i=some o→H i=some o)(R:Rel μ S H B w0 w){i:Nat}{zs:List Int}{v0:Value}(hv:VR μ S H (.DS i zs) v0){o:aO}{v:AV}
  (h:kr u Hh i zs=some (o,v)) :
  Calls P k #[v0] w fun x w'=>∃ r μ',x = .returned r∧VR μ' S (aM H i (some o)) v r∧Rel μ' S (aM H i (some o)) B w0 w'∧Carry B μ S H μ' S (aM H i (some o)):=by
 unfold kr at h
 split at h
 case h_2=>simp at h
 rename_i te f
 split at h
 case h_2=>simp at h
 rename_i t ti q xs m hHh
 split at h
 case h_2=>simp at h
 rename_i r hf
 obtain⟨c1,h⟩:=az h
 have c1:=Nat.eq_of_beq_eq_true c1
 subst c1
 obtain⟨c2,h⟩:=az h
 simp only[decide_eq_true_eq] at c2
 cases h
 have hi:=sub _ _ hHh
 obtain⟨l,hm,hO⟩:=R.obj i _ hi
 have D:cu S w B l t te xs (.eW m):=hO
 simp only[VR] at hv
 have hout:=D.out m (.inr (by simp only[eO.mine];omega))
 have hat:(l.at m).blk=none:=by
  show (l.b7 m).1=none
  rw[hout]
 refine (hu.2 zs r hf S w v0 R.st R.pre (by unfold FV;simpa only [Ty.isAgg,Bool.false_eq_true,if_false] using hv)).mono ?_
 rintro e w' ⟨l2,rfl,hbel,hrow⟩
 have hrow':fq S w' B l2 te (.int .u8) zs:=⟨hrow.1,hrow.2.imp id fun⟨b,cs,q1,q2,q3⟩=>⟨b,cs,q1,Nat.le_trans R.size q2,q3⟩⟩
 obtain⟨cs,k1,k2⟩:=jk (μ:=μ) (H:=H) (g:=0) (e:=.int .u8) hrow'
 obtain⟨μ',R',E,hV⟩:=kR (q':=q) (st':=.late m) (zs:=zs) R hm hi (fun j hj=>by simp only[eO.mine];omega) (Nat.le_refl m) (fun j _ h=>h) (fun h=>Nat.lt_irrefl _ h) c2 (.inr ⟨rfl,by simp only[eO.mine];omega⟩) k1 k2
  (fun b hb=>.inr (by
   rw[iO] at hb
   rcases hrow.2 with h|⟨b',_,h,hge,_⟩
   ·rw[h.1] at hb;cases hb
   ·rw[h] at hb;cases hb;exact hge))
  ⟨hbel.os,hbel.tape,hbel.output,hbel.size,fun j hj _=>hbel.block j hj⟩
 exact⟨_,μ',rfl,hV,R',Carry.of E⟩
omit [aq] in
theorem Ed [aq]{P:Program}{k:FuncId}{te:TypeId}{e:Ty}{ps:List Ty}{f:List e.T→cC ps→Option (List e.T)}:(⟨te,e,ps,false,f⟩:bF).AS P k:=by
 unfold bF.AS
 split
 ·rename_i h;cases h
 ·trivial
theorem HQ {k:FuncId}{u:bF}(hu:u.OK P k)(sub:∀ i o,Hh i=some o→H i=some o)(R:Rel μ S H B w0 w){as:List AV}{us:Array Value}(hv:aE μ S H as us.toList){i:Nat}{o:aO}{v:AV}(h:fQ u Hh as=some (i,o,v)) :
  Calls P k us w fun x w'=>∃ r μ',x = .returned r∧VR μ' S (aM H i (some o)) v r∧Rel μ' S (aM H i (some o)) B w0 w'∧Carry B μ S H μ' S (aM H i (some o)):=by
 unfold fQ at h
 split at h
 ·rename_i i' zs
  split at h
  case h_2=>simp at h
  rename_i o' v' hr
  cases h
  simp only[aE] at hv
  obtain⟨v0,r,hus,h1,h2⟩:=hv
  subst h2
  have hus':us = #[v0]:=by apply Array.ext';simpa using hus
  subst hus'
  exact QM hu sub R h1 hr
 ·rename_i i' g rest
  split at h
  case h_2=>simp at h
  rename_i o' v' hr
  cases h
  simp only[aE] at hv
  obtain⟨v0,r,hus,h1,h2⟩:=hv
  have hus':us=(v0::r).toArray:=by apply Array.ext';simpa using hus
  subst hus'
  simp only[VR] at h1
  obtain⟨_,l,hm,h3⟩:=h1
  exact s9 hu sub R hm (fun te e xs hH=>⟨(h3 _ _ _ _ hH).2 rfl,fun b hb=>by simp at hb⟩) h2 hr
 ·rename_i i' g a b rest
  obtain⟨ha,h⟩:=az h
  have ha:=Nat.eq_of_beq_eq_true ha
  subst ha
  split at h
  case h_2=>simp at h
  rename_i o' v' hr
  cases h
  simp only[aE] at hv
  obtain⟨v0,r,hus,h1,h2⟩:=hv
  have hus':us=(v0::r).toArray:=by apply Array.ext';simpa using hus
  subst hus'
  simp only[VR] at h1
  obtain⟨_,l,hm,h3⟩:=h1
  refine s9 hu sub R hm (fun te e xs hH=>?_) h2 hr
  obtain⟨p1,p2,ad,rfl,p3,_⟩:=(h3 _ _ _ _ hH).2 rfl
  have had:=p3 (by simp)
  have had':ad=l.addr:=by
   rw[had]
   cases l.addr with
   | none=>rfl
   | some q=>simp[add_zero]
  subst had'
  exact⟨rfl,fun b' hb'=>by cases hb';exact p2⟩
 ·simp at h
end
end Go.Sy
