/- Sym9, Sym10, Sym11, Sym11b, Sym11c. -/
import Derived.Test.YtckgffnmfgjehaaGreatFA2
import Derived.OrdersIn
import Derived.LoopNIn
import Derived.RangeFuncIn
namespace Go.Sy
open Go Go.RowKit
set_option linter.unusedSimpArgs false
set_option linter.unusedVariables false
def St.put (σ:St)(dst:Option Tmp)(v:AV):Option St:=
 match dst with
 | none=>some σ
 | some d=>cond (kY d σ.nt) (some ⟨σ.nt,aM σ.tmps d v,σ.heap,σ.ids⟩) none
def St.with (σ:St)(H:Heap):St:=⟨σ.nt,σ.tmps,H,σ.ids⟩
def St.ay (σ:St)(l:List Nat):St:=⟨σ.nt,σ.tmps,σ.heap,σ.ids++l⟩
def Bd (σ:St):Prop:=∀ q,σ.heap q≠none→q∈σ.ids
structure Vj where
 kG:FuncId→Option aT
 aM:FuncId→Option bF
 FO:List Nat
abbrev Cons:=Vj
def bB:Code→Option Nat
 | .region id _ _=>some id
 | .seq x y=>match bB x with
  | some i=>some i
  | none=>bB y
 | .cond _ x y=>match bB x with
  | some i=>some i
  | none=>bB y
 | .block _ x=>bB x
 | .loop x=>bB x
 | .scope x=>bB x
 | _=>none
abbrev b6:=Array Tmp×Code×Code
def aV:Code→List b6
 | .seq x y=>aV x++aV y
 | .cond _ x y=>aV x++aV y
 | .block _ x=>aV x
 | .loop x=>aV x
 | .scope x=>aV x
 | .rangeFunc _ ps asn body=>[(ps,asn,body)]
 | _=>[]
def b6.is (x:b6)(r:Nat):Bool:=match bB x.2.2 with
 | some q=>Nat.beq q r
 | none=>false
def rN (r:Nat):List b6→Option b6
 | []=>none
 | x::l=>cond (b6.is x r) (cond (l.any fun y=>b6.is y r) none (some x)) (rN r l)
theorem sX {r:Nat}:∀ {l:List b6} {x y:b6},rN r l=some y→x∈l→b6.is x r=true→y=x
 | [],x,y,h,hx,_=>by simp at hx
 | z::l,x,y,h,hx,hr=>by
  simp only[rN] at h
  rcases List.mem_cons.1 hx with rfl|hx
  ·rw[hr] at h
   simp only[cond_true] at h
   cases hb:(l.any fun y=>b6.is y r) with
   | true=>rw[hb] at h;simp at h
   | false=>rw[hb] at h;simpa using h.symm
  ·cases hz:b6.is z r with
   | true=>
    rw[hz] at h
    have:(l.any fun y=>b6.is y r)=true:=List.any_eq_true.2 ⟨x,hx,hr⟩
    rw[this] at h;simp at h
   | false=>rw[hz] at h;exact sX h hx hr
def cI (P:Program)(k r:Nat):Option b6:=
 match P.funcs[k]? with
 | some fn=>match fn.body with
  | some c=>rN r (aV c)
  | none=>none
 | none=>none
def bI [aq](P:Program)(C:Cons):Prop:=
 (∀ k c,C.kG k=some c→c.OK P k)∧(∀ k u,C.aM k=some u→u.OK P k)∧∀ k r,aq.Ug k r=cI P k r
def sS (C:Cons)(o:Oper)(k:FuncId):Option bF:=
 match o.op with
 | .call c=>match c.callee with
  | .value (.func k')=>cond (Nat.beq k' k) (C.aM k) none
  | _=>none
 | _=>none
def xT (C:Cons)(o:Oper):Bool:=
 match o.op with
 | .call c=>match c.callee with
  | .value (.func k)=>(C.aM k).isSome
  | _=>false
 | _=>false
theorem o9 {C:Cons}{o:Oper}{k:FuncId}{u:bF}(h:sS C o k=some u):xT C o=true∧C.aM k=some u:=by
 unfold sS at h
 unfold xT
 split at h
 ·rename_i c hc
  split at h
  ·rename_i k' hk
   obtain⟨h1,h2⟩:=(show Nat.beq k' k=true∧C.aM k=some u by
    cases hb:Nat.beq k' k with
    | true=>rw[hb] at h;exact⟨rfl,h⟩
    | false=>rw[hb] at h;simp at h)
   have:=Nat.eq_of_beq_eq_true h1
   subst this
   exact⟨by rw[h2];rfl,h2⟩
  ·simp at h
 ·simp at h
def ov (C:Cons):Callee→Option aT
 | .fn k=>C.kG k
 | .fG _=>none
def fy (C:Cons)(o:Oper):Callee→Option bF
 | .fn k=>sS C o k
 | .fG _=>none
theorem wJ {C:Cons}{o:Oper}{k:Callee}{u:bF}(h:fy C o k=some u):xT C o=true:=by
 cases k with
 | fn k=>exact (o9 h).1
 | fG i=>simp[fy] at h
abbrev gv:=Nat→Callee→List AV→Heap→List Nat→Option (AV×Heap×List Nat)
def AV.cT:AV→Bool
 | .dB _=>true
 | _=>false
abbrev zW (u:Value):List PanicEntry:=[{ v:=u,recovered:=false }]
def cZ (μ:Mu)(S:ar)(H:Heap)(v:AV)(e:Ending):Prop:=
 match v with
 | .dB x=>∃ u,e = .panicked (zW u)∧VR μ S H x u
 | v=>∃ u,e = .returned u∧VR μ S H v u
theorem cZ.ret {μ:Mu}{S:ar}{H:Heap}{v:AV}{u:Value}(h:VR μ S H v u):cZ μ S H v (.returned u):=by
 cases v<;>first|exact⟨u,rfl,h⟩|(simp only[VR] at h)
theorem cZ.val {μ:Mu}{S:ar}{H:Heap}{v:AV}{e:Ending}(h:cZ μ S H v e)(hp:v.cT=false):∃ u,e = .returned u∧VR μ S H v u:=by
 cases v<;>first|exact h|(simp[AV.cT] at hp)
structure AM where
 sets:List (Nat×aO)
 new:Bool
 v:AV
def cV (id:Nat):List (Nat×aO)→Bool
 | []=>true
 | (i,_)::l=>Nat.ble id i&&kY i (id+16)&&cV id l
def xF (P:Program)(o:Oper):Bool:=
 match o.op with
 | .move _=>false
 | .assign _=>false
 | .pick _ _ _=>false
 | .alloc _=>false
 | .box _ _=>false
 | .field _ _ _=>false
 | .binOp _ _ _ _ _=>false
 | .unOp _ _ _=>false
 | .convert s _ _=>match P.underlying s with
  | some (.slice _)=>true
  | _=>false
 | .extract _ _=>false
 | .index _ _ _=>false
 | .makeFunc _ _ _=>false
 | _=>true
def rC (c:aT)(Hh:Heap)(id:Nat)(as:List AV):Option AM:=
 match bU (fA c Hh) c.ps as with
 | some x=>match c.f x with
  | some y=>some ⟨fz c.rs y id,true,eA (nB c.rs y id)⟩
  | none=>none
 | none=>none
mutual
def AV.pure:AV→Bool
 | .lit _=>true
 | .cont _ _=>true
 | .Aq _ _ _=>true
 | .agg l=>mS l
 | .pI l=>mS l
 | _=>false
def mS:List AV→Bool
 | []=>true
 | a::l=>a.pure&&mS l
end
def rR (a:AV):AV:=cond a.pure a .ak
def i7 (C:Cons)(id:Nat)(o:Oper):Bool:=C.FO.any (Nat.beq id)&&(match o.op with
 | .buildSlice _ _ _=>true
 | .call c=>match c.callee with
  | .builtin .append=>true
  | _=>false
 | _=>false)
def jh (P:Program)(id:Nat)(o:Oper)(ρ:Operand→AV):Option (Bool×AV):=
 match sem P ey id o (fun x=>rR (ρ x)) with
 | some (.new c i (.row _ e g xs) (.sl j g'))=>cond (Nat.beq i j&&Nat.beq g g') (some (c,.cont e xs)) none
 | _=>none
def bA (P:Program)(C:Cons)(Hh:Heap)(id:Nat)(o:Oper)(ρ:Operand→AV):Option AM:=
 match sem P Hh id o ρ with
 | some (.val c v)=>cond c (some ⟨[],false,v⟩) none
 | some (.new c i ob v)=>cond c (some ⟨[(i,ob)],true,v⟩) none
 | some (.wr c i ob v)=>cond c (some ⟨[(i,ob)],false,v⟩) none
 | some (.Kw c i ob v u)=>cond c (some ⟨[(i,ob)],false,v⟩) (some ⟨[],false,u⟩)
 | some (.call k as)=>match fy C o k with
  | some u=>match fQ u Hh as with
   | some (i,ob,v)=>some ⟨[(i,ob)],false,v⟩
   | none=>none
  | none=>match xF P o,ov C k with
   | true,some kG=>rC kG Hh id as
   | _,_=>none
 | none=>none
def bz (P:Program)(C:Cons)(Hh:Heap)(id:Nat)(o:Oper)(ρ:Operand→AV):Option AM:=
 cond (i7 C id o) (match jh P id o ρ with
  | some (c,v)=>cond c (some ⟨[],false,v⟩) none
  | none=>none) (bA P C Hh id o ρ)
def St.zA (σ:St)(id:Nat)(dst:Option Tmp)(e:AM):Option St:=
 cond (e.new && !(bf σ.heap e.sets&&cV id e.sets)) none ((σ.with (aY σ.heap e.sets)).put dst e.v)
def dn (P:Program)(C:Cons)(F:gv)(Hh:Heap)(id:Nat)(o:Oper)(ρ:Operand→AV)(H:Heap)(L:List Nat):Option (AV×Heap×List Nat):=
 match sem P Hh id o ρ with
 | some (.call k as)=>match ov C k with
  | some _=>none
  | none=>F id k as H L
 | _=>none
def want (ops:Array Oper)(σ:St)(o:Oper):Option Bool:=
 match o.guard with
 | none=>some true
 | some (j,b)=>match ops[j]? with
  | some g=>match g.dst with
   | some d=>match σ.val (.tmp d) with
    | .lit (.bool c)=>some (c == b)
    | .lit (.tuple _)=>some false
    | _=>none
   | none=>some false
  | none=>some false
inductive Ex where
 | cL
 | exit (id:Nat)
 | goto (l:Nat)
 | ret
 | dB (v:AV)
def ez (P:Program)(C:Cons)(F:gv)(ops:Array Oper)(hide:Heap→Heap)(id i:Nat)(σ:St):Option St:=
 match ops[i]? with
 | none=>some σ
 | some o=>match want ops σ o with
  | some true=>match bz P C (hide σ.heap) id o σ.val with
   | some e=>σ.zA id o.dst e
   | none=>match dn P C F (hide σ.heap) id o σ.val σ.heap σ.ids with
    | some (v,H',L')=>cond v.cT none ((⟨σ.nt,σ.tmps,H',L'⟩:St).put o.dst v)
    | none=>none
  | some false=>σ.put o.dst (.lit undef)
  | none=>none
def dA (P:Program)(C:Cons)(F:gv)(ops:Array Oper)(hide:Heap→Heap)(id i:Nat)(σ:St):Option (AV×Heap×List Nat):=
 match ops[i]? with
 | none=>none
 | some o=>match want ops σ o with
  | some true=>match o.op with
   | .panic x=>match σ.val x with
    | .wL t v=>some (.wL t v,σ.heap,σ.ids)
    | _=>none
   | _=>match bz P C (hide σ.heap) id o σ.val with
    | some _=>none
    | none=>match dn P C F (hide σ.heap) id o σ.val σ.heap σ.ids with
     | some (.dB x,H',L')=>some (x,H',L')
     | _=>none
  | _=>none
def cU (P:Program)(C:Cons)(ops:Array Oper)(Hh:Heap)(id i:Nat)(σ:St):List Nat:=
 match ops[i]? with
 | none=>[]
 | some o=>match want ops σ o with
  | some true=>match bz P C Hh id o σ.val with
   | some e=>cond e.new (e.sets.map (·.1)) []
   | none=>[]
  | _=>[]
def cW:gv:=fun _ _ _ _ _=>none
def pN (P:Program)(μ:Mu)(c:Callee)(us:Array Value)(w:World)(R:Ending→World→Prop):Prop:=
 match c with
 | .fn k=>Calls P k us w R
 | .fG i=>∀ b cp,μ i=some ⟨some b,cp,aP⟩→∃ f tmps asn body,(Instr.yield b us).run P w = .ok (.round b f tmps asn body) w∧RoundIn Fence.wide 0 P b f tmps asn body w R
theorem pN.mono {P:Program}{μ:Mu}{c:Callee}{us:Array Value}{w:World}{R R':Ending→World→Prop}(h:pN P μ c us w R)(hR:∀ e w',R e w'→R' e w'):pN P μ c us w R':=by
 cases c with
 | fn k=>exact Calls.mono h hR
 | fG i=>
  intro b cp hm
  obtain⟨f,tmps,asn,body,h1,h2,h3⟩:=h b cp hm
  refine⟨f,tmps,asn,body,h1,h2,fun c cs hr=>?_⟩
  obtain⟨e,w',q1,q2⟩:=h3 c cs hr
  exact⟨e,w',hR e w' q1,q2⟩
abbrev WF (r:Option Nat):Fence:={ Fence.wide with round:=r }
theorem e7 {r:Option Nat}{n:Nat}{P:Program}{f:FuncId}{args:Array Value}{w:World}{R:Ending→World→Prop}:CallsIn (WF r) n P f args w R↔Calls P f args w R:=callsIn_wide
theorem Cm {r:Option Nat}{P:Program}{o:Oper}{a:Act}{next:Act→World→Prop}{Q:Exit→Act→World→Prop}{μ:Mu}{k:Callee}{us:Array Value}{w:World}{res:Result Next}
  (h:Fh P μ w k us res) (hc:pN P μ k us w fun e w'=>(∃ v,e = .returned v∧next (a.put o.dst v) w')∨∃ u,e = .panicked (zW u)∧Q (.panic (zW u)) a w'):o.uponIn (WF r) 0 P a next Q res:=by
 cases k with
 | fn k=>
  simp only[Fh] at h
  subst h
  rw[Oper.uponIn_enter]
  refine⟨fun h=>(by cases h),e7.2 (Calls.mono hc ?_)⟩
  rintro e w' (⟨v,rfl,h⟩|⟨u,rfl,h⟩)
  ·exact h
  ·exact h
 | fG i=>
  obtain⟨b,c,hm,rfl⟩:=h
  obtain⟨f,tmps,asn,body,h1,h2,h3⟩:=hc b c hm
  rw[h1,Oper.uponIn_round]
  refine⟨fun h=>(by cases h),h2,fun c cs hr=>?_⟩
  obtain⟨e,w',q1,q2⟩:=h3 c cs hr
  rcases q1 with⟨v,rfl,q1⟩|⟨u,rfl,q1⟩
  ·exact⟨.returned v,w',q1,q2⟩
  ·exact⟨.panicked (zW u),w',q1,q2⟩
theorem dh {P:Program}{Hh:Heap}{id:Nat}{o:Oper}{ρa:Operand→AV}{out:Out}{r:Option Nat}{ρ:Operand→Value}(h:sem P Hh id o ρa=some out):o.semAt r ρ=execOp ρ o:=by
 refine Oper.semAt_eq r ρ o fun c hc=>?_
 unfold sem at h
 rw[hc] at h
 simp at h
theorem oA {r:Option Nat}{P:Program}{o:Oper}{a:Act}{next:Act→World→Prop}{Q:Exit→Act→World→Prop}{μ:Mu}{k:Callee}{us:Array Value}{w:World}{res:Result Next}
  (h:Fh P μ w k us res) (hc:pN P μ k us w fun e w'=>∃ v,e = .returned v∧next (a.put o.dst v) w'):o.uponIn (WF r) 0 P a next Q res:=by
 cases k with
 | fn k=>
  simp only[Fh] at h
  subst h
  rw[Oper.uponIn_enter]
  refine⟨fun h=>(by cases h),e7.2 (Calls.mono hc ?_)⟩
  rintro e w' ⟨v,rfl,h⟩
  exact h
 | fG i=>
  obtain⟨b,c,hm,rfl⟩:=h
  obtain⟨f,tmps,asn,body,h1,h2,h3⟩:=hc b c hm
  rw[h1,Oper.uponIn_round]
  refine⟨fun h=>(by cases h),h2,fun c cs hr=>?_⟩
  obtain⟨e,w',⟨v,rfl,q1⟩,q2⟩:=h3 c cs hr
  exact⟨.returned v,w',q1,q2⟩
def cy [aq](P:Program)(F:gv):Prop:=
 ∀ id k as H L v H' L',F id k as H L=some (v,H',L')→(∀ q,H q≠none→q∈L)→(∀ q,H' q≠none→q∈L')∧∀ (μ:Mu) (S:ar) (B:Nat) (w0 w:World) (us:Array Value),Rel μ S H B w0 w→aE μ S H as us.toList →
  pN P μ k us w fun e w'=>∃ μ' S',cZ μ' S' H' v e∧Rel μ' S' H' B w0 w'∧Carry B μ S H μ' S' H'
section
variable [aq]{P:Program}{C:Cons}{F:gv}{r:Option Nat}{N:ar}{Dt:Bool×List Deferred}{w w0:World}{μ μ':Mu}{S S':ar}{B:Nat}{σ σ':St}{a:Act}{H':Heap}{L':List Nat}{Q:Exit→Act→World→Prop}{K:Act→World→Prop}
omit [aq] in
theorem AR.put {B:Nat}(A:AR N Dt μ S σ a)(hc:Carry B μ S σ.heap μ' S' H'){v:AV}{u:Value}(hv:VR μ' S' H' v u){dst:Option Tmp}(h:(⟨σ.nt,σ.tmps,H',L'⟩:St).put dst v=some σ') :
  AR N Dt μ' S' σ' (a.put dst u)∧σ'.heap=H':=by
 have mk_defers:∃ ms:List Nat,a.defers=ms.map (fun D=>⟨.collected D,#[]⟩)++Dt.2∧Mark S' N ms∧(Dt.1=true→ms=[]):=by
  obtain⟨ms,h1,⟨h2,h3⟩,h4⟩:=A.defers
  exact⟨ms,h1,⟨h2,fun D hD=>⟨(h3 D hD).1,hc.sub _ _ (h3 D hD).2⟩⟩,h4⟩
 cases dst with
 | none=>
  simp only[St.put,Option.some.injEq] at h;subst h
  exact⟨⟨mk_defers,A.size,fun t ht=>hc.vr _ _ (A.tmp t ht)⟩,rfl⟩
 | some d=>
  obtain⟨hd,rfl⟩:=ah h
  have hd:=cq hd
  refine⟨⟨mk_defers,by simp only[Act.put,Array.size_setIfInBounds];exact A.size,fun t ht=>?_⟩,rfl⟩
  simp only at hd ht ⊢
  by_cases e:t=d
  ·subst e
   rw[au]
   simp only[Act.put]
   have:t<a.tmps.size:=by rw[A.size];exact hd
   simpa [Array.getD_eq_getD_getElem?,this] using hv
  ·rw[ax _ _ e]
   simp only[Act.put]
   have:=hc.vr _ _ (A.tmp t ht)
   rw[Array.getD_eq_getD_getElem?] at this ⊢
   rw[Array.getElem?_setIfInBounds_ne (Ne.symm e)];exact this
omit [aq] in
theorem vf (A:AR N Dt μ S σ a){ops:Array Oper}{o:Oper}{b:Bool}(h:want ops σ o=some b):Region.wanted o (yielded ops a.tmps)=b:=by
 unfold want at h
 unfold Region.wanted
 split at h
 ·rename_i hg;rw[hg];simpa using h
 ·rename_i j bb hg
  rw[hg]
  simp only[yielded]
  split at h
  ·rename_i g hj
   rw[hj]
   simp only[Option.bind_some]
   split at h
   ·rename_i d hd
    rw[hd]
    simp only[Option.bind_some]
    have hv:∀ {x:AV},σ.val (.tmp d)=x→x ≠ .ak→∃ u,a.tmps[d]? = some u∧VR μ S σ.heap x u:=by
     intro x hx hx2
     simp only[St.val] at hx
     cases hl:kY d σ.nt with
     | false=>rw[hl] at hx;exact absurd hx.symm hx2
     | true=>
      rw[hl] at hx
      have:=A.tmp d (cq hl)
      simp only[cond_true] at hx
      rw[hx] at this
      have hs:d<a.tmps.size:=by rw[A.size];exact cq hl
      refine⟨a.tmps[d],by simp[hs],?_⟩
      simpa [Array.getD_eq_getD_getElem?,hs] using this
    split at h
    ·rename_i c hx
     obtain⟨u,h1,h2⟩:=hv hx (by simp)
     simp only[VR] at h2;subst h2
     rw[h1]
     simp only[Option.some.injEq] at h
     rw[← h];cases c<;>cases bb<;>rfl
    ·rename_i vs hx
     obtain⟨u,h1,h2⟩:=hv hx (by simp)
     simp only[VR] at h2;subst h2
     rw[h1]
     simp only[Option.some.injEq] at h
     rw[← h];rfl
    ·simp at h
   ·rename_i hd
    rw[hd]
    simp only[Option.some.injEq] at h
    rw[← h];rfl
  ·rename_i hj
   rw[hj]
   simp only[Option.some.injEq] at h
   rw[← h];rfl
omit [aq] in
mutual
theorem D2 {μ':Mu}{H H':Heap}:∀ (a:AV) (v:Value),a.pure=true→VR μ S H a v→VR μ' S H' a v
 | .lit _,v,_,h=>by simp only[VR] at h ⊢;exact h
 | .cont _ _,v,_,h=>by simp only[VR] at h ⊢;exact h
 | .Aq _ _ _,v,_,h=>by simp only[VR] at h ⊢;exact h
 | .agg l,v,hp,h=>by
  simp only[VR] at h ⊢
  obtain⟨x,h1,h2⟩:=h
  exact⟨x,h1,jo l _ hp h2⟩
 | .pI l,v,hp,h=>by
  simp only[VR] at h ⊢
  obtain⟨x,h1,h2⟩:=h
  exact⟨x,h1,jo l _ hp h2⟩
theorem jo {μ':Mu}{H H':Heap}:∀ (l:List AV) (vs:List Value),mS l=true→aE μ S H l vs→aE μ' S H' l vs
 | [],vs,_,h=>by simp only[aE] at h ⊢;exact h
 | a::l,vs,hp,h=>by
  simp only[mS,Bool.and_eq_true] at hp
  simp only[aE] at h ⊢
  obtain⟨v,r,h1,h2,h3⟩:=h
  exact⟨v,r,h1,D2 a v hp.1 h2,jo l r hp.2 h3⟩
end
omit [aq] in
theorem Fc {μ':Mu}{H H':Heap}{a:AV}{v:Value}(h:VR μ S H a v):VR μ' S H' (rR a) v:=by
 unfold rR
 cases hp:a.pure with
 | true=>exact D2 a v hp h
 | false=>simp only[cond_false,VR]
theorem Qe {id:Nat}{o:Oper}{v:AV}(h:jh P id o σ.val=some (true,v))(A:AR N Dt μ S σ a)(R:Rel μ S σ.heap B w0 w) :
  o.semAt r a.eval=execOp a.eval o∧∃ n u w' S',(execOp a.eval o).run P w = .ok n w'∧Mw n u∧Rel μ S' σ.heap B w0 w'∧Carry B μ S σ.heap μ S' σ.heap∧VR μ S' σ.heap v u:=by
 unfold jh at h
 split at h
 case h_2=>simp at h
 rename_i c i te e g xs j g' hsem
 obtain⟨hb,h3⟩:=ah h
 clear h
 simp only[Bool.and_eq_true] at hb
 have h1:=Nat.eq_of_beq_eq_true hb.1
 have h2:=Nat.eq_of_beq_eq_true hb.2
 subst h1 h2
 cases h3
 have R0:Rel (fun _=>none) S ey w.heap.size w w:=⟨Below.refl _ _,Nat.le_refl _,R.st,fun _=>rfl,fun _ _ h=>by simp[ey] at h,fun _ _ _ _ _ _ h=>by simp at h,fun _ _ h=>by simp at h,R.pre⟩
 obtain⟨n,u,w',μ',k1,k2,k3,k4,k5⟩:=qP (Hh:=ey) (fun _ _ h=>h) R0 (fun x=>Fc (μ':=fun _=>none) (H':=ey) (A.val x)) hsem rfl rfl
 refine⟨dh hsem,n,u,w',?_⟩
 simp only[Out.res,Out.heap] at k3 k5
 obtain⟨l,m1,m2⟩:=k3.obj i _ (au _ _ _)
 have m2:fq S w' w.heap.size l te e xs:=m2
 simp only[VR] at k5
 obtain⟨_,l',m3,m4⟩:=k5
 cases m1.symm.trans m3
 have hu:=(m4 _ _ _ _ (au _ _ _)).2 rfl
 subst hu
 let S':ar:=fun b=>if l.blk=some b then w'.heap[b]? else S b
 have e1:∀ b,l.blk=some b→S' b=w'.heap[b]?:=fun b hb=>if_pos hb
 have e2:∀ b,l.blk≠some b→S' b=S b:=fun b hb=>if_neg hb
 have hsub:∀ b o,S b=some o→S' b=some o:=fun b o' hs=>by
  rw[e2 b (fun hb=>by rw[(dX m2 hb).2.2] at hs;simp at hs)];exact hs
 obtain⟨R',E⟩:=R.grow (S':=S') k3.below hsub (fun b o' hs=>by
  by_cases hb:l.blk=some b
  ·rw[← e1 b hb];exact hs
  ·rw[e2 b hb] at hs;exact k3.st b o' hs) (fun b hs=>by
  by_cases hb:l.blk=some b
  ·exact .inr (dX m2 hb).2.1
  ·rw[e2 b hb] at hs;exact .inl hs)
 refine⟨S',k1,k2,R',⟨fun a v=>cJ E a v,fun b hs=>?_,hsub⟩,?_⟩
 ·by_cases hb:l.blk=some b
  ·exact .inr (Nat.le_trans R.size (dX m2 hb).2.1)
  ·rw[e2 b hb] at hs;exact .inl hs
 ·simp only[VR]
  exact gw hsub (fun b hb=>e1 b hb) m2
theorem eM (hC:bI P C)(hF:cy P F){ops:Array Oper}{hide:Heap→Heap}(hs:∀ H i o,hide H i=some o→H i=some o){id i:Nat}
  (h:ez P C F ops hide id i σ=some σ') (hBd:Bd σ∨F=cW) (A:AR N Dt μ S σ a) (R:Rel μ S σ.heap B w0 w)
  (hK:∀ a' w' μ' S',AR N Dt μ' S' σ' a'→Rel μ' S' σ'.heap B w0 w'→Carry B μ S σ.heap μ' S' σ'.heap→K a' w'):wpOpIn (WF r) 0 P ops Q i K a w:=by
 unfold ez at h
 unfold wpOpIn
 split at h
 ·rename_i ho
  rw[ho];cases h
  exact hK a w μ S A R Carry.refl
 ·rename_i o ho
  rw[ho]
  split at h
  ·rename_i hw
   simp only[vf A hw,if_true]
   unfold Oper.wpIn
   refine⟨fun _ _=>trivial,?_⟩
   have sub:=hs σ.heap
   split at h
   ·rename_i e he
    unfold bz at he
    cases hz:i7 C id o with
    | true=>
     rw[hz] at he
     simp only[cond_true] at he
     split at he
     case h_2=>simp at he
     rename_i c v hv
     obtain⟨hc,rfl⟩:=ah he
     subst hc
     obtain⟨g1,n,u,w',S',k1,k2,k3,k4,k5⟩:=Qe hv A R (r:=r)
     rw[g1,k1]
     have h':(σ.with σ.heap).put o.dst v=some σ':=h
     obtain⟨A',e'⟩:=A.put k4 k5 h'
     have fin:=hK _ w' μ S' A' (by rw[e'];exact k3) (by rw[e'];exact k4)
     rcases k2 with rfl|⟨rfl,rfl⟩<;>exact fin
    | false=>
    rw[hz] at he
    simp only[cond_false] at he
    unfold bA at he
    split at he
    ·rename_i c v hsem
     obtain⟨hc,rfl⟩:=ah he
     obtain⟨n,u,w',μ',k1,k2,k3,k4,k5⟩:=qP sub R (fun x=>A.val x) hsem hc rfl
     rw[dh hsem,k1]
     have h':(σ.with σ.heap).put o.dst v=some σ':=h
     obtain⟨A',e'⟩:=A.put (Carry.of (B:=B) k4) k5 h'
     have fin:=hK _ w' μ' S A' (by rw[e'];exact k3) (by rw[e'];exact Carry.of k4)
     rcases k2 with rfl|⟨rfl,rfl⟩<;>exact fin
    ·rename_i c i' ob v hsem
     obtain⟨hc,rfl⟩:=ah he
     have h2:(bf σ.heap [(i',ob)]&&cV id [(i',ob)])=true∧(σ.with (aY σ.heap [(i',ob)])).put o.dst v=some σ':=by
      unfold St.zA at h
      cases hb:(bf σ.heap [(i',ob)]&&cV id [(i',ob)]) with
      | false=>rw[hb] at h;simp at h
      | true=>rw[hb] at h;exact⟨rfl,h⟩
     obtain⟨h2,h'⟩:=h2
     have hfr:(Out.new c i' ob v).fresh σ.heap=true:=by
      simp only[Bool.and_eq_true,bf] at h2
      exact h2.1.1
     obtain⟨n,u,w',μ',k1,k2,k3,k4,k5⟩:=qP sub R (fun x=>A.val x) hsem hc hfr
     rw[dh hsem,k1]
     obtain⟨A',e'⟩:=A.put (Carry.of (B:=B) k4) k5 h'
     have fin:=hK _ w' μ' S A' (by rw[e'];exact k3) (by rw[e'];exact Carry.of k4)
     rcases k2 with rfl|⟨rfl,rfl⟩<;>exact fin
    ·rename_i c i' ob v hsem
     obtain⟨hc,rfl⟩:=ah he
     obtain⟨n,u,w',μ',k1,k2,k3,k4,k5⟩:=qP sub R (fun x=>A.val x) hsem hc rfl
     rw[dh hsem,k1]
     have h':(σ.with (aY σ.heap [(i',ob)])).put o.dst v=some σ':=h
     obtain⟨A',e'⟩:=A.put (Carry.of (B:=B) k4) k5 h'
     have fin:=hK _ w' μ' S A' (by rw[e'];exact k3) (by rw[e'];exact Carry.of k4)
     rcases k2 with rfl|⟨rfl,rfl⟩<;>exact fin
    ·rename_i c i' ob v u' hsem
     obtain⟨n,u,w',μ',k1,k2,k3,k4,k5⟩:=qP sub R (fun x=>A.val x) hsem rfl rfl
     rw[dh hsem,k1]
     cases c with
     | true=>
      simp only[cond_true,Option.some.injEq] at he;subst he
      have h':(σ.with (aY σ.heap [(i',ob)])).put o.dst v=some σ':=h
      obtain⟨A',e'⟩:=A.put (Carry.of (B:=B) k4) k5 h'
      have fin:=hK _ w' μ' S A' (by rw[e'];exact k3) (by rw[e'];exact Carry.of k4)
      rcases k2 with rfl|⟨rfl,rfl⟩<;>exact fin
     | false=>
      simp only[cond_false,Option.some.injEq] at he;subst he
      have h':(σ.with σ.heap).put o.dst u'=some σ':=h
      obtain⟨A',e'⟩:=A.put (Carry.of (B:=B) k4) k5 h'
      have fin:=hK _ w' μ' S A' (by rw[e'];exact k3) (by rw[e'];exact Carry.of k4)
      rcases k2 with rfl|⟨rfl,rfl⟩<;>exact fin
    ·rename_i k as hsem
     split at he
     ·rename_i u hupd
      split at he
      ·rename_i i' ob v hout
       cases he
       obtain⟨us,k1,k2⟩:=l6 (w:=w) (fun x=>A.val x) hsem
       rw[dh hsem]
       cases k with
       | fG _=>simp[fy] at hupd
       | fn k=>
       refine oA k1 (pN.mono (c:=.fn k) (HQ (hC.2.1 _ _ (o9 hupd).2) sub R k2 hout) ?_)
       rintro e w' ⟨v,μ',rfl,q1,q2,q3⟩
       refine⟨_,rfl,?_⟩
       have h':(σ.with (aM σ.heap i' (some ob))).put o.dst _=some σ':=h
       obtain⟨A',e'⟩:=A.put q3 q1 h'
       exact hK _ w' μ' S A' (by rw[e'];exact q2) (by rw[e'];exact q3)
      ·simp at he
     split at he
     ·rename_i kG _ hcon
      unfold rC at he
      split at he
      ·rename_i x hx
       split at he
       ·rename_i y hy
        cases he
        have h2:(bf σ.heap (fz kG.rs y id)&&cV id (fz kG.rs y id))=true∧(σ.with (aY σ.heap (fz kG.rs y id))).put o.dst (eA (nB kG.rs y id))=some σ':=by
         unfold St.zA at h
         cases hb:(bf σ.heap (fz kG.rs y id)&&cV id (fz kG.rs y id)) with
         | false=>rw[hb] at h;simp at h
         | true=>rw[hb] at h;exact⟨rfl,h⟩
        obtain⟨h2,h'⟩:=h2
        simp only[Bool.and_eq_true] at h2
        obtain⟨us,k1,k2⟩:=l6 (w:=w) (fun x=>A.val x) hsem
        rw[dh hsem]
        cases k with
        | fG _=>simp[ov] at hcon
        | fn k=>
        refine oA k1 (pN.mono (c:=.fn k) (F7 (hC.1 _ _ hcon) sub R k2 hx hy h2.1) ?_)
        rintro e w' ⟨v,μ',S',rfl,q1,q2,q3⟩
        refine⟨_,rfl,?_⟩
        obtain⟨A',e'⟩:=A.put q3 q1 h'
        exact hK _ w' μ' S' A' (by rw[e'];exact q2) (by rw[e'];exact q3)
       ·simp at he
      ·simp at he
     ·simp at he
    ·simp at he
   ·split at h
    ·rename_i v H' L' hi
     unfold dn at hi
     split at hi
     ·rename_i k as hsem
      split at hi
      ·simp at hi
      ·obtain⟨us,k1,k2⟩:=l6 (w:=w) (fun x=>A.val x) hsem
       rw[dh hsem]
       have hBd:Bd σ:=by
        rcases hBd with h|h
        ·exact h
        ·subst h;simp[cW] at hi
       obtain⟨hnp,h⟩:=bS h
       refine oA k1 (((hF _ _ _ _ _ _ _ _ hi hBd).2 μ S B w0 w us R k2).mono ?_)
       rintro e w' ⟨μ',S',q0,q2,q3⟩
       obtain⟨u,rfl,q1⟩:=q0.val hnp
       refine⟨_,rfl,?_⟩
       obtain⟨A',e'⟩:=A.put q3 q1 h
       exact hK _ w' μ' S' A' (by rw[e'];exact q2) (by rw[e'];exact q3)
     ·simp at hi
    ·simp at h
  ·rename_i hw
   simp only[vf A hw,Bool.false_eq_true,if_false]
   have h':(σ.with σ.heap).put o.dst (.lit undef)=some σ':=h
   obtain⟨A',e'⟩:=A.put (Carry.refl (B:=B) (H:=σ.heap)) (v:=.lit undef) (u:=undef) (by simp only[VR]) h'
   exact⟨fun _ _=>trivial,hK _ w μ S A' (by rw[e'];exact R) (by rw[e'];exact Carry.refl)⟩
  ·simp at h
theorem iT (hF:cy P F){ops:Array Oper}{hide:Heap→Heap}{id i:Nat}{x:AV}(h:dA P C F ops hide id i σ=some (x,H',L'))(hBd:Bd σ)(A:AR N Dt μ S σ a)(R:Rel μ S σ.heap B w0 w)
  (hK:∀ w' μ' S' u,AR N Dt μ' S' ⟨σ.nt,σ.tmps,H',L'⟩ a→Rel μ' S' H' B w0 w'→Carry B μ S σ.heap μ' S' H'→VR μ' S' H' x u→Q (.panic (zW u)) a w'):wpOpIn (WF r) 0 P ops Q i K a w:=by
 unfold dA at h
 unfold wpOpIn
 split at h
 case h_1=>simp at h
 rename_i o ho
 rw[ho]
 split at h
 case h_2=>simp at h
 rename_i hw
 simp only[vf A hw,if_true]
 unfold Oper.wpIn
 refine⟨fun _ _=>trivial,?_⟩
 have keep:∀ {μ' S' w'} {H':Heap} {L':List Nat},Rel μ' S' H' B w0 w'→Carry B μ S σ.heap μ' S' H'→AR N Dt μ' S' ⟨σ.nt,σ.tmps,H',L'⟩ a:=fun {μ' S' w' H' L'} R' C'=>
  (A.put (σ':=⟨σ.nt,σ.tmps,H',L'⟩) (H':=H') (L':=L') C' (v:=.lit undef) (u:=undef) (by simp only[VR]) (dst:=none) rfl).1
 split at h
 ·rename_i y hop
  split at h
  case h_2=>simp at h
  rename_i t v hv
  cases h
  have hx:=A.val y
  rw[hv] at hx
  have hx':=hx
  simp only[VR] at hx
  obtain⟨u,he,hu⟩:=hx
  have hs:(o.semAt r a.eval).run P w = .halt (.panic (.iface t u)) w:=by
   rw[Oper.semAt_eq r a.eval o (by rw[hop];simp)]
   unfold execOp
   rw[hop]
   simp only[he]
   rfl
  rw[hs]
  rw[Oper.uponIn_panic]
  rw[he] at hx'
  exact hK w μ S (.iface t u) A R Carry.refl hx'
 ·split at h
  ·simp at h
  split at h
  case h_2=>simp at h
  rename_i y H1 L1 hi
  cases h
  unfold dn at hi
  split at hi
  case h_2=>simp at hi
  rename_i k as hsem
  split at hi
  ·simp at hi
  ·obtain⟨us,k1,k2⟩:=l6 (w:=w) (fun x=>A.val x) hsem
   rw[dh hsem]
   refine Cm k1 (((hF _ _ _ _ _ _ _ _ hi hBd).2 μ S B w0 w us R k2).mono ?_)
   rintro e w' ⟨μ',S',q0,q2,q3⟩
   obtain⟨u,rfl,q1⟩:=q0
   exact .inr ⟨u,rfl,hK w' μ' S' u (keep q2 q3) q2 q3 q1⟩
theorem nA (hF:cy P F){ops:Array Oper}{hide:Heap→Heap}{id i:Nat}{x:AV}(h:dA P C F ops hide id i σ=some (x,H',L'))(hBd:Bd σ):∀ q,H' q≠none→q∈L':=by
 unfold dA at h
 split at h
 case h_1=>simp at h
 split at h
 case h_2=>simp at h
 split at h
 ·split at h
  case h_2=>simp at h
  cases h
  exact hBd
 ·split at h
  ·simp at h
  split at h
  case h_2=>simp at h
  rename_i hi
  cases h
  unfold dn at hi
  split at hi
  case h_2=>simp at hi
  split at hi
  ·simp at hi
  ·exact (hF _ _ _ _ _ _ _ _ hi hBd).1
omit [aq] in
theorem sV:∀ (l:List (Nat×aO)) (H:Heap) (q:Nat),aY H l q≠none→q∈l.map (·.1)∨H q≠none
 | [],H,q,h=>.inr h
 | (i,o)::l,H,q,h=>by
  rcases sV l _ q h with h|h
  ·exact .inl (by simp only[List.map_cons,List.mem_cons];exact .inr h)
  ·by_cases e:q=i
   ·subst e;exact .inl (by simp)
   ·rw[ax _ _ e] at h;exact .inr h
omit [aq] in
theorem gj {σ σ':St}{dst:Option Tmp}{v:AV}(h:σ.put dst v=some σ'):σ'.heap=σ.heap∧σ'.ids=σ.ids:=by
 cases dst with
 | none=>simp only[St.put,Option.some.injEq] at h;subst h;exact⟨rfl,rfl⟩
 | some d=>obtain⟨_,rfl⟩:=ah h;exact⟨rfl,rfl⟩
omit [aq] in
theorem td {σ σ':St}{id:Nat}{dst:Option Tmp}{e:AM}(h:σ.zA id dst e=some σ'):σ'.heap=aY σ.heap e.sets∧σ'.ids=σ.ids:=by
 unfold St.zA at h
 cases hb:(e.new && !(bf σ.heap e.sets&&cV id e.sets)) with
 | true=>rw[hb] at h;simp at h
 | false=>rw[hb] at h;exact gj h
end
def LR (o:Oper):Bool:=
 match o.op with
 | .store _ _ _=>true
 | .next _ _=>true
 | .mapEntry _ _ _=>true
 | .entryStore _ _ _ _=>true
 | .mapUpdate _ _ _ _=>true
 | .call c=>match c.callee with
  | .builtin .append=>true
  | .builtin .clear=>true
  | .builtin .delete=>true
  | _=>false
 | _=>false
def Ku (C:Cons)(o:Oper):Bool:=LR o||xT C o
theorem LK {P:Program}{C:Cons}{o:Oper}(h:Ku C o=true):xF P o=true:=by
 obtain⟨dst,op,ty,pos,af,gd⟩:=o
 cases op<;>simp only[Ku,LR,xT,Bool.or_self,Bool.false_eq_true] at h<;>rfl
def vj (m:List Nat)(o:Oper):Nat:=o.after.toList.foldl (fun s e=>cond (Region.binds .any e) (s ||| 2 ^ e.on ||| m.getD e.on 0) s) 0
def yA:List Oper→List Nat→List Nat
 | [],acc=>acc
 | o::l,acc=>yA l (acc++[vj acc o])
def aA (ops:Array Oper):List Nat:=yA ops.toList []
def indep (P:Program)(C:Cons)(ops:Array Oper)(m:List Nat)(x i:Nat)(ox oi:Oper):Bool:=
 ox.apart ops oi && !(Nat.testBit (m.getD i 0) x) && !(Nat.testBit (m.getD x 0) i)
def CZ (P:Program)(C:Cons)(ops:Array Oper)(m:List Nat)(x i:Nat):Bool:=
 match ops[x]?,ops[i]? with
 | some ox,some oi=>Nat.testBit (m.getD i 0) x||indep P C ops m x i ox oi
 | _,_=>false
def uo (o:Oper)(i:Nat):Bool:=o.after.toList.all fun e=>cond (Region.binds .any e) (kY e.on i) true
def bE (P:Program)(C:Cons)(ops:Array Oper)(m:List Nat):Bool:=
 P.follows .mixedOrders &&
 (List.range ops.size).all fun i=>match ops[i]? with
  | some o=>Nat.beq (m.getD i 0) (vj m o)&&uo o i&&(List.range i).all fun x=>CZ P C ops m x i
  | none=>false
def NJ (base n mask q:Nat):Bool:=cond (Nat.ble base q&&kY q (base+n * 16)) (Nat.testBit mask ((q-base) / 16)) true
def fW:AV→Option Nat
 | .ptr i _=>some i
 | .xG i _ _ _=>some i
 | .sl i _=>some i
 | .sub i _ _ _=>some i
 | .mp i=>some i
 | .uz i=>some i
 | .pJ i _ _=>some i
 | .b7 i _ _ _ _=>some i
 | .FQ i _ _ _=>some i
 | .DS i _=>some i
 | _=>none
def ep (ρ:Operand→AV)(o:Oper):Option Nat:=
 match o.op with
 | .store _ a _=>fW (ρ a)
 | .next x _=>fW (ρ x)
 | .mapEntry _ x _=>fW (ρ x)
 | .mapUpdate _ x _ _=>fW (ρ x)
 | .entryStore _ x _ _=>fW (ρ x)
 | .call c=>match c.args.toList with
  | x::_=>fW (ρ x)
  | []=>none
 | _=>none
def qa (t b:Nat):List Oper→Nat→Option (Nat×Oper)
 | [],_=>none
 | o::l,n=>cond (kY n b) (match qa t b l (n+1) with
  | some r=>some r
  | none=>match o.dst with
   | some d=>cond (Nat.beq d t) (some (n,o)) none
   | none=>none) none
def vo (P:Program)(ops:Array Oper)(σ:St):Nat→Nat→Operand→AV
 | 0,_,_=>.ak
 | n+1,b,.tmp t=>match qa t b ops.toList 0 with
  | some (y,o)=>match o.op with
   | .move x=>vo P ops σ n y x
   | .assign x=>vo P ops σ n y x
   | .nilCheck x=>vo P ops σ n y x
   | .fieldAddr s x f=>match ki P σ.heap s (vo P ops σ n y x) f with
    | some (.val _ v)=>v
    | _=>.ak
   | .indexAddr t x i=>match yT P σ.heap t (vo P ops σ n y x) (vo P ops σ n y i) with
    | some (.val _ v)=>v
    | _=>.ak
   | .load _ x=>match vo P ops σ n y x with
    | .ptr j off=>match σ.heap j with
     | some (.box _ cs)=>match cs[off]? with
      | some a=>a
      | none=>.ak
     | _=>.ak
    | _=>.ak
   | _=>.ak
  | none=>σ.tmps t
 | _,_,x=>σ.val x
def pP (P:Program)(ops:Array Oper)(base:Nat)(σ:St):Nat→Nat→Operand→Option Nat
 | 0,_,_=>none
 | n+1,b,.tmp t=>match qa t b ops.toList 0 with
  | some (y,o)=>match o.op with
   | .alloc _=>some (base+y * 16)
   | .box _ _=>some (base+y * 16)
   | .move x=>pP P ops base σ n y x
   | .assign x=>pP P ops base σ n y x
   | .fieldAddr _ x _=>pP P ops base σ n y x
   | .indexAddr _ x _=>pP P ops base σ n y x
   | .load _ x=>match vo P ops σ n y x with
    | .ptr j off=>match σ.heap j with
     | some (.box _ cs)=>match cs[off]? with
      | some a=>fW a
      | none=>none
     | _=>none
    | .pJ j _ _=>some j
    | _=>none
   | .nilCheck x=>pP P ops base σ n y x
   | .call c=>match c.args.toList with
    | x::_=>match pP P ops base σ n y x with
     | some j=>some j
     | none=>some (base+y * 16)
    | []=>none
   | _=>none
  | none=>fW (σ.tmps t)
 | _,_,_=>none
def Vz (P:Program)(C:Cons)(ops:Array Oper)(base:Nat)(σ:St)(i:Nat)(o:Oper):Option Nat:=
 cond (Ku C o) (match o.op with
  | .store _ a _=>pP P ops base σ 9 i a
  | .next x _=>pP P ops base σ 9 i x
  | .mapEntry _ x _=>pP P ops base σ 9 i x
  | .mapUpdate _ x _ _=>pP P ops base σ 9 i x
  | .entryStore _ x _ _=>pP P ops base σ 9 i x
  | .call c=>match c.args.toList with
   | x::_=>pP P ops base σ 9 i x
   | []=>none
  | _=>none) none
def UI (P:Program)(C:Cons)(ops:Array Oper)(base:Nat)(σ:St):List (Option Nat):=
 (List.range ops.size).map fun i=>match ops[i]? with
  | some o=>Vz P C ops base σ i o
  | none=>none
def UY:Option Nat→Nat→Bool
 | some i,j=>Nat.beq i j
 | none,_=>false
def uy (P:Program)(ops:Array Oper)(m:List Nat)(i:Nat):Bool:=
 (List.range ops.size).all fun x=>Nat.beq x i||Nat.testBit (m.getD i 0) x||Nat.testBit (m.getD x 0) i||(match ops[x]? with
  | some ox=>!(xF P ox)
  | none=>true)
def iI (P:Program)(C:Cons)(ops:Array Oper)(m:List Nat)(W:List (Option Nat))(i:Nat)(σ:St):Bool:=
 match ops[i]? with
 | some o=>cond (Ku C o) (match ep σ.val o with
  | some j=>UY (W.getD i none) j||uy P ops m i
  | none=>true) true
 | none=>true
def UX (P:Program)(C:Cons)(ops:Array Oper)(m:List Nat):Bool:=
 (List.range ops.size).any fun i=>match ops[i]? with
  | some o=>Ku C o && !(uy P ops m i)
  | none=>false
def kz (P:Program)(C:Cons)(ops:Array Oper)(m:List Nat)(base:Nat)(σ:St):List (Option Nat):=
 cond (UX P C ops m) (UI P C ops base σ) []
def sF (L:List Nat)(i:Nat):Bool:=L.any (Nat.beq i)
def k7 (m:List Nat)(W:List (Option Nat))(n i:Nat):List Nat:=
 match W with
 | []=>[]
 | _::_=>(List.range n).filterMap fun x=>cond (Nat.beq x i||Nat.testBit (m.getD i 0) x||Nat.testBit (m.getD x 0) i) none (W.getD x none)
def bK (base n mask:Nat)(ot:List Nat)(H:Heap):Heap:=fun q=>cond (NJ base n mask q && !sF ot q) (H q) none
def sE (P:Program)(C:Cons)(ops:Array Oper)(m:List Nat)(W:List (Option Nat))(base i:Nat)(σ:St):Option St:=
 cond (iI P C ops m W i σ) (ez P C cW ops (bK base ops.size (m.getD i 0) (k7 m W ops.size i)) (base+i * 16) i σ) none
def cE (P:Program)(C:Cons)(ops:Array Oper)(m:List Nat)(W:List (Option Nat))(base:Nat):List Nat→St→Option St
 | [],σ=>some σ
 | i::l,σ=>match sE P C ops m W base i σ with
  | some σ'=>cE P C ops m W base l σ'
  | none=>none
def cY (P:Program)(C:Cons)(ops:Array Oper)(m:List Nat)(W:List (Option Nat))(base:Nat):List Nat→St→List Nat
 | [],_=>[]
 | i::l,σ=>cU P C ops (bK base ops.size (m.getD i 0) (k7 m W ops.size i) σ.heap) (base+i * 16) i σ++(match sE P C ops m W base i σ with
  | some σ'=>cY P C ops m W base l σ'
  | none=>[])
def pp (P:Program)(C:Cons)(ops:Array Oper)(base:Nat)(σ:St):Option St:=
 cond (bE P C ops (aA ops)) (match cE P C ops (aA ops) (kz P C ops (aA ops) base σ) base (List.range ops.size) σ with
  | some σ'=>some (σ'.ay (cY P C ops (aA ops) (kz P C ops (aA ops) base σ) base (List.range ops.size) σ))
  | none=>none) none
def jW (P:Program)(C:Cons)(F:gv)(ops:Array Oper)(base:Nat):List Nat→St→Option (Ex×St)
 | [],σ=>some (.cL,σ)
 | i::l,σ=>match dA P C F ops (fun H=>H) (base+i * 16) i σ with
  | some (x,H',L')=>some (.dB x,⟨σ.nt,σ.tmps,H',L'⟩)
  | none=>match ez P C F ops (fun H=>H) (base+i * 16) i σ with
   | some σ'=>jW P C F ops base l (σ'.ay (cU P C ops σ.heap (base+i * 16) i σ))
   | none=>none
def Ex.to:Ex→Exit
 | .cL=>.normal
 | .exit i=>.exit i
 | .goto l=>.goto l
 | .ret=>.ret
 | .dB _=>.normal
def Ex.Is (μ:Mu)(S:ar)(H:Heap)(e:Ex)(x:Exit):Prop:=
 match e with
 | .dB v=>∃ u,x = .panic (zW u)∧VR μ S H v u
 | e=>x=e.to
def rI (C:Cons)(ops:Array Oper)(m:List Nat):Option Nat:=
 match ops[ops.size-1]? with
 | some o=>match o.op with
  | .call c=>match c.callee with
   | .value (.func k)=>cond ((C.kG k).isNone&&(C.aM k).isNone&&(List.range (ops.size-1)).all fun x=>Nat.testBit (m.getD (ops.size-1) 0) x) (some (ops.size-1)) none
   | _=>none
  | _=>none
 | none=>none
def jC (P:Program)(C:Cons)(F:gv)(ops:Array Oper)(base z:Nat)(σ:St):Option (Ex×St):=
 match dA P C F ops (fun H=>H) (base+z * 16) z σ with
 | some (x,H',L')=>some (.dB x,⟨σ.nt,σ.tmps,H',L'⟩)
 | none=>match ez P C F ops (fun H=>H) (base+z * 16) z σ with
  | some σ'=>some (.cL,σ'.ay (cU P C ops σ.heap (base+z * 16) z σ))
  | none=>none
def ke (P:Program)(C:Cons)(F:gv)(ops:Array Oper)(base:Nat)(σ:St):Option (Ex×St):=
 match rI C ops (aA ops) with
 | none=>match pp P C ops base σ with
  | some σ'=>some (.cL,σ')
  | none=>none
 | some z=>cond (bE P C ops (aA ops)) (match cE P C ops (aA ops) (kz P C ops (aA ops) base σ) base (List.range z) σ with
  | some σ'=>jC P C F ops base z (σ'.ay (cY P C ops (aA ops) (kz P C ops (aA ops) base σ) base (List.range z) σ))
  | none=>none) none
def dZ (P:Program)(C:Cons)(ops:Array Oper)(Hh:Heap)(id:Nat)(o:Oper)(σ:St):Option AM:=
 match want ops σ o with
 | some true=>bz P C Hh id o σ.val
 | some false=>some ⟨[],false,.lit undef⟩
 | none=>none
theorem dF {P:Program}{C:Cons}{ops:Array Oper}{hide:Heap→Heap}{id i:Nat}{σ:St}{o:Oper}(ho:ops[i]? = some o) :
  ez P C cW ops hide id i σ=match dZ P C ops (hide σ.heap) id o σ with
   | some e=>σ.zA id o.dst e
   | none=>none:=by
 unfold ez dZ
 rw[ho]
 simp only
 cases hw:want ops σ o with
 | none=>rfl
 | some b=>
  cases b with
  | true=>
   simp only
   cases he:bz P C (hide σ.heap) id o σ.val with
   | some e=>rfl
   | none=>
    have:dn P C cW (hide σ.heap) id o σ.val σ.heap σ.ids=none:=by
     unfold dn;split<;>first|rfl|(split<;>rfl)
    simp only[this]
  | false=>rfl
section
variable [aq]{P:Program}{C:Cons}{ops:Array Oper}{σ σ' σ1 σ2:St}{H H':Heap}
omit [aq] in
theorem val_congr {x:Operand}(hn:σ'.nt=σ.nt)(h:∀ t,x = .tmp t→σ'.tmps t=σ.tmps t):σ'.val x=σ.val x:=by
 cases x with
 | tmp t=>simp only[St.val,hn,h t rfl]
 | _=>rfl
omit [aq] in
theorem j9 {o:Oper}(hn:σ'.nt=σ.nt)(h:∀ t,t∈o.looksAt ops→σ'.tmps t=σ.tmps t):want ops σ' o=want ops σ o:=by
 unfold want
 cases hg:o.guard with
 | none=>rfl
 | some p=>
  obtain⟨j,b⟩:=p
  simp only
  cases hj:ops[j]? with
  | none=>rfl
  | some g=>
   simp only
   cases hd:g.dst with
   | none=>rfl
   | some d=>
    simp only
    have:σ'.val (.tmp d)=σ.val (.tmp d):=val_congr hn fun t e=>by
     cases e
     refine h d ?_
     unfold Oper.looksAt
     rw[hg];simp[hj,hd]
    rw[this]
omit [aq] in
theorem nS {o:Oper}{id:Nat}{ρ ρ':Operand→AV}(h:∀ x∈o.op.operands,ρ' x=ρ x):sem P H id o ρ'=sem P H id o ρ:=by
 obtain⟨dst,op,ty,pos,af,gd⟩:=o
 cases op<;>simp only[Op.operands] at h<;>simp only[sem]
 case move x=>rw[h x (by simp)]
 case assign x=>rw[h x (by simp)]
 case pick c a b=>rw[h c (by simp),h a (by simp),h b (by simp)]
 case box t x=>rw[h x (by simp)]
 case load t x=>rw[h x (by simp)]
 case store t a x=>rw[h a (by simp),h x (by simp)]
 case fieldAddr s x f=>rw[h x (by simp)]
 case field s x f=>rw[h x (by simp)]
 case nilCheck x=>rw[h x (by simp)]
 case binOp op t x y yt=>rw[h x (by simp),h y (by simp)]
 case unOp op t x=>rw[h x (by simp)]
 case makeInterface t x=>rw[h x (by simp)]
 case typeAssert x s t ok=>rw[h x (by simp)]
 case convert s d x=>rw[h x (by simp)]
 case build t parts=>
  have e1:(parts.toList.map fun p=>(p.1,ρ' p.2))=parts.toList.map fun p=>(p.1,ρ p.2):=List.map_congr_left fun p hp=>by rw[h p.2 (by simp;exact⟨p.1,by simpa using hp⟩)]
  rw[e1]
 case buildSlice t n parts=>
  have e1:(parts.toList.map fun p=>(p.1,ρ' p.2))=parts.toList.map fun p=>(p.1,ρ p.2):=List.map_congr_left fun p hp=>by rw[h p.2 (by simp;exact⟨p.1,by simpa using hp⟩)]
  rw[e1]
 case makeSlice t l c=>rw[h l (by simp),h c (by simp)]
 case slice t x lo hi mx=>
  have e:∀ o:Option Operand,(∀ y,o=some y→ρ' y=ρ y)→o.map ρ'=o.map ρ:=by
   intro o ho;cases o with
   | none=>rfl
   | some y=>simp[ho y rfl]
  rw[h x (by simp),e lo (fun y e=>h y (by subst e;simp)),e hi (fun y e=>h y (by subst e;simp)),e mx (fun y e=>h y (by subst e;simp))]
 case range t x=>rw[h x (by simp)]
 case next x s=>rw[h x (by simp)]
 case extract t i=>rw[h t (by simp)]
 case index t x i=>rw[h x (by simp),h i (by simp)]
 case mapEntry t m k=>rw[h m (by simp),h k (by simp)]
 case mapUpdate t m k x=>rw[h m (by simp),h k (by simp),h x (by simp)]
 case entryStore t m s x=>rw[h m (by simp),h s (by simp),h x (by simp)]
 case lookup t x k ok=>rw[h x (by simp),h k (by simp)]
 case indexAddr t x i=>rw[h x (by simp),h i (by simp)]
 case makeFunc fn first caps=>
  have e1:first.toList.map ρ'=first.toList.map ρ:=List.map_congr_left fun x hx=>h x (by simp;exact .inl (by simpa using hx))
  have e2:caps.toList.map ρ'=caps.toList.map ρ:=List.map_congr_left fun x hx=>h x (by simp;exact .inr (by simpa using hx))
  rw[e1,e2]
 case call c=>
  obtain⟨callee,args,argTypes⟩:=c
  simp only[Call.operands] at h
  have e1:args.toList.map ρ'=args.toList.map ρ:=List.map_congr_left fun x hx=>h x (by simp;exact .inr (by simpa using hx))
  cases callee with
  | value f=>simp only[e1];rw[h f (by simp)]
  | invoke r m=>rfl
  | builtin b=>
   cases b<;>try rfl
   ·simp only
    split
    ·rename_i t u s x ht hx
     rw[h x (by simp;exact (by rw[← Array.mem_toList_iff,hx];simp)),h s (by simp;exact (by rw[← Array.mem_toList_iff,hx];simp))]
    ·rfl
   ·simp only
    split
    ·rename_i t x ht hx
     rw[h x (by simp;exact (by rw[← Array.mem_toList_iff,hx];simp))]
    ·rfl
   ·simp only
    split
    ·rename_i t u x y ht hx
     rw[h x (by simp;exact (by rw[← Array.mem_toList_iff,hx];simp)),h y (by simp;exact (by rw[← Array.mem_toList_iff,hx];simp))]
    ·rfl
   ·simp only
    split
    ·rename_i t x ht hx
     rw[h x (by simp;exact (by rw[← Array.mem_toList_iff,hx];simp))]
    ·rfl
   ·simp only
    split
    ·rename_i x y hx
     rw[h x (by simp;exact (by rw[← Array.mem_toList_iff,hx];simp)),h y (by simp;exact (by rw[← Array.mem_toList_iff,hx];simp))]
    ·rfl
   ·simp only
    split
    ·rename_i x y hx
     rw[h x (by simp;exact (by rw[← Array.mem_toList_iff,hx];simp)),h y (by simp;exact (by rw[← Array.mem_toList_iff,hx];simp))]
    ·rfl
omit [aq] in
theorem JI {o:Oper}{id:Nat}{ρ:Operand→AV}(h:xF P o=false):sem P H id o ρ=sem P H' id o ρ:=by
 obtain⟨dst,op,ty,pos,af,gd⟩:=o
 cases op<;>simp only[xF,reduceCtorEq] at h<;>try rfl
 case convert s d x=>
  unfold sem
  simp only
  split
  ·rfl
  ·unfold Fa
   split
   ·rename_i hs _
    rw[hs] at h;simp at h
   ·rfl
omit [aq] in
theorem Cb {o:Oper}{id:Nat}{ρ:Operand→AV}(h:xF P o=false):bz P C H id o ρ=bz P C H' id o ρ:=by
 unfold bz
 congr 1
 unfold bA
 rw[JI (H':=H') h]
 cases hs:sem P H' id o ρ with
 | none=>rfl
 | some out=>
  cases out with
  | call k as=>
   have hu:fy C o k=none:=by
    cases k with
    | fG i=>rfl
    | fn k=>
    show sS C o k=none
    unfold sS
    unfold xF at h
    split
    ·rename_i c hc;rw[hc] at h;simp at h
    ·rfl
   simp only[h,hu]
  | _=>rfl
omit [aq] in
theorem py {o:Oper}{id:Nat}{ρ ρ':Operand→AV}(h:∀ x∈o.op.operands,ρ' x=ρ x):bz P C H id o ρ'=bz P C H id o ρ:=by
 have e:jh P id o ρ'=jh P id o ρ:=by
  unfold jh
  rw[nS (ρ':=fun x=>rR (ρ' x)) (ρ:=fun x=>rR (ρ x)) fun x hx=>by simp only[h x hx]]
 unfold bz bA
 rw[nS h,e]
omit [aq] in
theorem iX {o:Oper}{id:Nat}(hn:σ'.nt=σ.nt)(h:∀ t,t∈o.looksAt ops→σ'.tmps t=σ.tmps t)(hH:xF P o=true→H'=H) :
  dZ P C ops H' id o σ'=dZ P C ops H id o σ:=by
 unfold dZ
 rw[j9 hn h]
 have:bz P C H' id o σ'.val=bz P C H id o σ.val:=by
  have e1:bz P C H' id o σ'.val=bz P C H' id o σ.val:=py fun x hx=>val_congr hn fun t e=>by
   subst e
   refine h t ?_
   unfold Oper.looksAt
   exact List.mem_append.2 (.inl (List.mem_filterMap.2 ⟨.tmp t,by simpa using hx,rfl⟩))
  rw[e1]
  cases hr:xF P o with
  | true=>rw[hH hr]
  | false=>exact Cb hr
 rw[this]
end
def ids (l:List (Nat×aO)):List Nat:=l.map (·.1)
theorem dx:∀ (l:List (Nat×aO)) (H:Heap) (q:Nat),q∉ids l→aY H l q=H q
 | [],H,q,_=>rfl
 | (i,o)::l,H,q,h=>by
  simp only[ids,List.map_cons,List.mem_cons,not_or] at h
  rw[aY,dx l _ q h.2,ax _ _ h.1]
theorem qz:∀ (l:List (Nat×aO)) (H:Heap) (i:Nat) (o:Option aO),i∉ids l→aY (aM H i o) l=aM (aY H l) i o
 | [],H,i,o,_=>rfl
 | (j,p)::l,H,i,o,h=>by
  simp only[ids,List.map_cons,List.mem_cons,not_or] at h
  rw[aY,aY,Ap _ _ _ h.1,qz l _ i o h.2]
theorem pE:∀ (l k:List (Nat×aO)) (H:Heap),(∀ i∈ids l,i∉ids k)→aY (aY H l) k=aY (aY H k) l
 | [],k,H,_=>rfl
 | (i,o)::l,k,H,h=>by
  rw[aY,aY,pE l k _ (fun j hj=>h j (by simp[ids] at hj ⊢;exact .inr hj)),qz k H i (some o) (h i (by simp[ids]))]
theorem iu:∀ (l:List (Nat×aO)) (H H':Heap),(∀ i∈ids l,H' i=H i)→bf H' l=bf H l
 | [],H,H',_=>rfl
 | (i,o)::l,H,H',h=>by
  have h0:H' i=H i:=h i (by simp[ids])
  simp only[bf,h0]
  rw[iu l (aM H i (some o)) (aM H' i (some o)) (fun j hj=>by
   by_cases e:j=i
   ·subst e;rw[au,au]
   ·rw[ax _ _ e,ax _ _ e];exact h j (by simp[ids] at hj ⊢;exact .inr hj))]
theorem jT:∀ (l:List (Nat×aO)) (H:Heap),bf H l=true→∀ i∈ids l,H i=none
 | [],H,_,i,hi=>by simp[ids] at hi
 | (j,o)::l,H,h,i,hi=>by
  simp only[bf,Bool.and_eq_true,Option.isNone_iff_eq_none] at h
  simp only[ids,List.map_cons,List.mem_cons] at hi
  rcases hi with rfl|hi
  ·exact h.1
  ·have:=jT l _ h.2 i hi
   by_cases e:i=j
   ·subst e;exact h.1
   ·rw[ax _ _ e] at this;exact this
theorem fc:∀ {l:List (Nat×aO)} {id:Nat},cV id l=true→∀ i∈ids l,id≤i∧i<id+16
 | [],id,_,i,hi=>by simp[ids] at hi
 | (j,o)::l,id,h,i,hi=>by
  simp only[cV,Bool.and_eq_true] at h
  simp only[ids,List.map_cons,List.mem_cons] at hi
  rcases hi with rfl|hi
  ·exact⟨Nat.le_of_ble_eq_true h.1.1,cq h.1.2⟩
  ·exact fc h.2 i hi
def MD (C:Cons)(Hh:Heap)(σ:St)(id:Nat)(o:Oper)(e:AM):Prop:=
 e.sets=[]∨e.new=true∨(Ku C o=true∧∃ j ob,e.sets=[(j,ob)]∧(Hh j).isSome=true∧ep σ.val o=some j)
def Out.writes:Out→Option Nat
 | .wr _ i _ _=>some i
 | .Kw _ i _ _ _=>some i
 | _=>none
theorem qI {P:Program}{H:Heap}{t:TypeId}{a x:AV}{out:Out}(h:gO P H t a x=some out):∃ c j ob v,out = .wr c j ob v∧(H j).isSome=true∧fW a=some j:=by
 unfold gO at h
 split at h
 all_goals first|(simp at h;done)|skip
 all_goals
  split at h
  case h_2=>simp at h
  rename_i hH _
  have h:=(ah h).2
  subst h
  exact⟨_,_,_,_,rfl,by rw[hH];rfl,rfl⟩
theorem oT {P:Program}{H:Heap}{t i q k a b:Nat}{x:AV}{out:Out}(h:eX P H t i q k a b x=some out):∃ c ob v,out = .wr c i ob v∧(H i).isSome=true:=by
 unfold eX at h
 split at h
 case h_2=>simp at h
 split at h
 case h_2=>simp at h
 rename_i hH
 split at h
 case h_2=>simp at h
 split at h
 case h_2=>simp at h
 have h:=(ah h).2
 subst h
 exact⟨_,_,_,rfl,by rw[hH];rfl⟩
theorem Fg {P:Program}{H:Heap}{t:TypeId}{a:AV}{out:Out}(h:gG P H t a=some out):out.writes=none:=by
 unfold gG at h
 split at h
 ·(repeat' split at h)<;>first|(simp at h;done)|(cases h;rfl)
 ·split at h
  ·have h:=(az h).2
   split at h
   ·cases h;rfl
   ·simp at h
  ·simp at h
 ·simp at h
theorem CA {P:Program}{H:Heap}{t:TypeId}{a:AV}{out:Out}(h:gG P H t a=some out):∃ c v,out = .val c v:=by
 unfold gG at h
 split at h
 ·(repeat' split at h)<;>first|(simp at h;done)|(cases h;exact⟨_,_,rfl⟩)
 ·split at h
  ·have h:=(az h).2
   split at h
   ·cases h;exact⟨_,_,rfl⟩
   ·simp at h
  ·simp at h
 ·simp at h
theorem IV {P:Program}{H:Heap}{t i q k a b:Nat}{lo hi mx:Option AV}{out:Out}(h:rK P H t i q k a b lo hi mx=some out):out.writes=none:=by
 unfold rK at h
 (repeat' split at h)<;>first|(simp at h;done)|(have h:=(az h).2;cases h;rfl)
theorem J0 {P:Program}{H:Heap}{t i q k a b:Nat}{hi:AV}{out:Out}(h:sr P H t i q k a b hi=some out):out.writes=none:=by
 unfold sr at h
 (repeat' split at h)<;>first|(simp at h;done)|(have h:=(az h).2;cases h;rfl)
theorem Fp {P:Program}{H:Heap}{t:TypeId}{a x:AV}{c:Bool}{j:Nat}{ob:aO}{v:AV}(h:j7 P H t a x=some (.wr c j ob v)):(H j).isSome=true∧fW a=some j:=by
 unfold j7 at h
 split at h
 ·split at h
  ·rename_i hH
   split at h
   ·have:=(ah h).2
    cases this
    exact⟨by rw[hH];rfl,rfl⟩
   ·simp at h
  ·simp at h
 ·split at h
  ·rename_i hH
   split at h
   ·split at h
    ·have:=(ah h).2
     cases this
     exact⟨by rw[hH];rfl,rfl⟩
    ·simp at h
   ·simp at h
  ·simp at h
 ·obtain⟨_,_,_,_,h1,h2,h3⟩:=qI h
  cases h1
  exact⟨h2,h3⟩
theorem Ax {P:Program}{H:Heap}{id t:Nat}{s x:AV}{c:Bool}{j:Nat}{ob:aO}{v:AV}(h:fN P H id t s x=some (.wr c j ob v)):(H j).isSome=true∧fW s=some j:=by
 unfold fN at h
 split at h
 case h_2=>simp at h
 split at h
 case h_2=>simp at h
 split at h
 case h_2=>simp at h
 split at h
 case h_2=>simp at h
 have h:=(az h).2
 split at h
 ·split at h
  case h_2=>simp at h
  rename_i hH
  split at h
  case h_2=>simp at h
  have:=(ah h).2
  cases this
  exact⟨by rw[hH];rfl,rfl⟩
 ·split at h
  case h_2=>simp at h
  split at h
  case h_2=>simp at h
  have:=(ah h).2
  simp at this
 ·simp at h
theorem Ao {P:Program}{H:Heap}{id t:Nat}{s x:AV}{c:Bool}{j:Nat}{ob:aO}{v:AV}(h:ed P H id t s x=some (.wr c j ob v)):(H j).isSome=true∧fW s=some j:=by
 unfold ed at h
 split at h
 case h_3=>exact Ax h
 case h_2=>
  obtain⟨_,_,_,h1,h2⟩:=oT h
  cases h1
  exact⟨h2,rfl⟩
 split at h
 case h_2=>simp at h
 split at h
 case h_2=>simp at h
 rename_i hH
 split at h
 case h_2=>simp at h
 have h:=(ah h).2
 cases h
 exact⟨by rw[hH];rfl,rfl⟩
theorem px {u:bF}{Hh:Heap}{i g:Nat}{part:Option Nat}{rest:List AV}{r:aO×AV}(h:fX u Hh i g part rest=some r):(Hh i).isSome=true:=by
 unfold fX at h
 split at h
 ·rename_i hH;rw[hH];rfl
 ·simp at h
theorem zQ {u:bF}{Hh:Heap}{as:List AV}{i:Nat}{o:aO}{v:AV}(h:fQ u Hh as=some (i,o,v)):(Hh i).isSome=true∧∃ x r,as=x::r∧fW x=some i:=by
 unfold fQ at h
 split at h
 ·split at h
  ·rename_i hr
   cases h
   refine⟨?_,_,_,rfl,rfl⟩
   unfold kr at hr
   split at hr
   case h_2=>simp at hr
   split at hr
   case h_2=>simp at hr
   rename_i hH
   rw[hH];rfl
  ·simp at h
 ·split at h
  ·rename_i hr;cases h;exact⟨px hr,_,_,rfl,rfl⟩
  ·simp at h
 ·obtain⟨_,h⟩:=az h
  split at h
  ·rename_i hr;cases h;exact⟨px hr,_,_,rfl,rfl⟩
  ·simp at h
 ·simp at h
theorem rM {P:Program}{H:Heap}{id:Nat}{o:Oper}{ρ:Operand→AV}{out:Out}{j:Nat}(h:sem P H id o ρ=some out)(hw:out.writes=some j) :
  LR o=true∧(H j).isSome=true∧ep ρ o=some j:=by
 obtain⟨dst,op,ty,pos,af,gd⟩:=o
 unfold sem at h
 have no:∀ {o:Out} {a:Prop},some o=some out→o.writes=none→a:=by
  intro o a h1 h2
  cases h1;rw[h2] at hw;simp at hw
 cases op<;>simp only[reduceCtorEq] at h
 case move x=>exact no h rfl
 case assign x=>exact no h rfl
 case makeFunc fn first caps=>exact no h rfl
 case store t a x=>
  cases out<;>simp only[Out.writes,reduceCtorEq,Option.some.injEq] at hw
  ·subst hw;exact⟨rfl,Fp h⟩
  ·unfold j7 at h;(repeat' split at h)<;>first|(simp at h;done)|(obtain⟨_,_,_,_,h1,_⟩:=qI h;cases h1;done)|(have:=(ah h).2;simp at this)
 case next x s=>
  refine⟨rfl,?_⟩
  unfold yY at h
  split at h
  case h_2=>simp at h
  split at h
  case h_2=>simp at h
  rename_i hH
  cases h
  simp only[Out.writes,Option.some.injEq] at hw
  subst hw
  exact⟨by rw[hH];rfl,by simp only[ep];simp_all [fW]⟩
 case pick c a b=>split at h<;>first|exact no h rfl|simp at h
 case alloc t=>unfold rL at h;(repeat' split at h)<;>first|exact no h rfl|simp at h
 case box t x=>unfold Hg at h;(repeat' split at h)<;>first|exact no h rfl|simp at h
 case load t a=>
  unfold tD at h;(repeat' split at h)<;>first|exact no h rfl|(simp at h;done)|(rw[Fg h] at hw;cases hw;done)|skip
  all_goals (obtain⟨_,h⟩:=az h;(repeat' split at h)<;>first|exact no h rfl|simp at h)
 case fieldAddr s x f=>
  unfold ki at h
  split at h
  case h_2=>simp at h
  split at h
  case h_2=>simp at h
  split at h
  case h_2=>simp at h
  rename_i ti _
  cases h0:Nat.beq ti.size 0<;>rw[h0] at h<;>simp only[cond_true,cond_false,reduceCtorEq] at h
  (repeat' split at h)<;>first|exact no h rfl|(simp at h;done)|(exact no (az h).2 rfl)
 case field s x f=>unfold tL at h;(repeat' split at h)<;>first|exact no h rfl|simp at h
 case nilCheck x=>unfold EC at h;(repeat' split at h)<;>first|exact no h rfl|(simp at h;done)|(exact no (az h).2 rfl)
 case binOp op t x y yt=>
  unfold E9 at h;split at h
  ·split at h<;>first|exact no h rfl|simp at h
  ·have h:=(bS h).2
   (repeat' split at h)<;>first|exact no h rfl|simp at h
  ·(repeat' split at h)<;>first|exact no h rfl|simp at h
  ·simp at h
 case unOp op t x=>unfold Rj at h;(repeat' split at h)<;>first|exact no h rfl|simp at h
 case makeInterface t x=>unfold Jg at h;exact no (az h).2 rfl
 case typeAssert x s t ok=>unfold mw at h;(repeat' split at h)<;>first|exact no h rfl|(simp at h;done)|(exact no (az h).2 rfl)
 case convert s d x=>
  split at h
  ·unfold x4 at h;(repeat' split at h)<;>first|exact no h rfl|simp at h
  ·unfold Fa at h;(repeat' split at h)<;>first|exact no h rfl|simp at h
 case build t parts=>unfold rq at h;(repeat' split at h)<;>first|exact no h rfl|simp at h
 case buildSlice t n parts=>
  unfold cR at h
  split at h
  case h_2=>simp at h
  split at h
  case h_3=>simp at h
  case h_1=>
   split at h
   case h_2=>simp at h
   split at h
   case h_2=>simp at h
   have h:=(az h).2
   split at h
   case h_2=>simp at h
   split at h
   ·exact no h rfl
   ·simp at h
  case h_2=>
   split at h
   case h_2=>simp at h
   split at h
   case h_2=>simp at h
   have h:=(az h).2
   split at h
   ·exact no h rfl
   ·simp at h
 case makeSlice t l c=>
  unfold yd at h
  (repeat' split at h)<;>first|exact no h rfl|(simp at h;done)|(exact no (az h).2 rfl)
 case slice t x lo hi mx=>
  unfold lK ES lu oC at h
  (repeat' split at h)<;>first|exact no h rfl|(simp at h;done)|(rw[J0 h] at hw;cases hw;done)|(rw[IV h] at hw;cases hw;done)|(exact no (az h).2 rfl)
 case range t x=>unfold sA at h;(repeat' split at h)<;>first|exact no h rfl|simp at h
 case extract t i=>unfold FI at h;(repeat' split at h)<;>first|exact no h rfl|simp at h
 case index t x i=>unfold oH at h;(repeat' split at h)<;>first|exact no h rfl|simp at h
 case makeMap t r=>
  cases r with
  | none=>
   unfold jt at h
   cases hc:eP P t with
   | true=>rw[hc] at h;exact no h rfl
   | false=>rw[hc] at h;exact no (az h).2 rfl
  | some _=>simp at h
 case lookup t x k ok=>unfold nu at h;(repeat' split at h)<;>first|(simp at h;done)|(exact no (az h).2 rfl)
 case mapEntry t m k=>
  refine⟨rfl,?_⟩
  unfold gB at h
  split at h
  case h_2=>simp at h
  split at h
  case h_2=>simp at h
  rename_i hH
  have h:=(ah h).2
  subst h
  simp only[Out.writes,Option.some.injEq] at hw
  subst hw
  exact⟨by rw[hH];rfl,by simp only[ep];simp_all [fW]⟩
 case mapUpdate t m k x=>
  refine⟨rfl,?_⟩
  unfold fw at h
  split at h
  case h_3=>simp at h
  all_goals
   split at h
   case h_2=>simp at h
   rename_i hH
   have h:=(ah h).2
   subst h
   simp only[Out.writes,Option.some.injEq] at hw
   subst hw
   exact⟨by rw[hH];rfl,by simp only[ep];simp_all [fW]⟩
 case entryStore t m s x=>
  refine⟨rfl,?_⟩
  unfold ec at h
  split at h
  case h_2=>simp at h
  split at h
  case h_2=>simp at h
  rename_i hH
  cases h
  simp only[Out.writes,Option.some.injEq] at hw
  subst hw
  exact⟨by rw[hH];rfl,by simp only[ep];simp_all [fW]⟩
 case indexAddr t x i=>unfold yT Ri at h;(repeat' split at h)<;>first|exact no h rfl|(simp at h;done)|(exact no (az h).2 rfl)
 case call c=>
  obtain⟨callee,args,argTypes⟩:=c
  simp only at h
  split at h
  ·split at h
   ·unfold An FL at h;(repeat' split at h)<;>first|exact no h rfl|(simp at h;done)|(exact no (az h).2 rfl)
   ·simp at h
  ·split at h
   ·refine⟨rfl,?_⟩
    unfold sy at h
    split at h
    case h_2=>simp at h
    split at h
    case h_2=>simp at h
    split at h
    case h_2=>simp at h
    rename_i hH
    (repeat' split at h)<;>first|(simp at h;done)|skip
    all_goals
     have h:=(ah h).2
     subst h
     simp only[Out.writes,Option.some.injEq] at hw
     subst hw
     exact⟨by rw[hH];rfl,by simp only[ep];simp_all [fW]⟩
   ·simp at h
  ·split at h
   ·refine⟨rfl,?_⟩
    unfold mR at h
    split at h
    case h_2=>simp at h
    split at h
    case h_2=>simp at h
    rename_i hH
    have h:=(ah h).2
    subst h
    simp only[Out.writes,Option.some.injEq] at hw
    subst hw
    exact⟨by rw[hH];rfl,by simp only[ep];simp_all [fW]⟩
   ·simp at h
  ·split at h
   ·refine⟨rfl,?_⟩
    have h:=(az h).2
    cases out<;>simp only[Out.writes,reduceCtorEq,Option.some.injEq] at hw
    ·subst hw;obtain⟨g1,g2⟩:=Ao h;exact⟨g1,by simp only[ep];simp_all⟩
    ·exfalso
     unfold ed at h
     split at h
     ·(repeat' split at h)<;>first|(simp at h;done)|(have:=(ah h).2;simp at this)
     ·obtain⟨_,_,_,h1,_⟩:=oT h
      cases h1
     unfold fN at h
     split at h
     case h_2=>simp at h
     split at h
     case h_2=>simp at h
     split at h
     case h_2=>simp at h
     split at h
     case h_2=>simp at h
     have h:=(az h).2
     (repeat' split at h)<;>first|(simp at h;done)|(have:=(ah h).2;simp at this)
   ·simp at h
  ·split at h
   ·unfold Lw at h
    split at h
    ·exact no (az h).2 rfl
    ·simp at h
   ·simp at h
  ·split at h
   ·unfold Lu at h
    split at h
    ·exact no (az h).2 rfl
    ·simp at h
   ·simp at h
  ·unfold tI at h
   split at h
   case h_3=>simp at h
   case h_2=>exact no h rfl
   split at h
   case h_2=>simp at h
   split at h
   case h_2=>simp at h
   rename_i fn _ _ _ _
   cases hn:fn.name == "runtime.NumGoroutine" <;> rw[hn] at h<;>simp only[cond_true,cond_false,reduceCtorEq] at h
   exact no h rfl
  ·simp at h
theorem GJ {P:Program}{H:Heap}{id:Nat}{o:Oper}{ρ:Operand→AV}{c:Bool}{j:Nat}{ob:aO}{v u:AV}(h:sem P H id o ρ=some (.wr c j ob v)∨sem P H id o ρ=some (.Kw c j ob v u)) :
  LR o=true∧(H j).isSome=true∧ep ρ o=some j:=by
 rcases h with h|h
 ·exact rM h rfl
 ·exact rM h rfl
theorem Ml {P:Program}{C:Cons}{H:Heap}{id:Nat}{o:Oper}{σ:St}{k:Callee}{as:List AV}{u:bF}{x:AV}{r:List AV}(hs:sem P H id o σ.val=some (.call k as))(hu:fy C o k=some u)(ha:as=x::r):ep σ.val o=fW x:=by
 cases k with
 | fG i=>simp[fy] at hu
 | fn k=>
  simp only[fy] at hu
  unfold sS at hu
  split at hu
  case h_2=>simp at hu
  rename_i c hc
  split at hu
  case h_2=>simp at hu
  rename_i k' hk
  unfold sem at hs
  rw[hc] at hs
  simp only[hk] at hs
  have hv:σ.val (.func k') = .fn (.func k') [] []:=rfl
  rw[hv] at hs
  unfold tI at hs
  simp only at hs
  split at hs
  case h_2=>simp at hs
  split at hs
  case h_2=>simp at hs
  obtain⟨_,hs⟩:=bS hs
  simp only[Option.some.injEq,Out.call.injEq,List.nil_append,List.append_nil] at hs
  unfold ep
  rw[hc]
  simp only
  rw[← hs.2] at ha
  cases hl:c.args.toList with
  | nil=>rw[hl] at ha;simp at ha
  | cons a l=>
   rw[hl] at ha
   simp only[List.map_cons,List.cons.injEq] at ha
   simp only
   rw[ha.1]
theorem ni {P:Program}{C:Cons}{ops:Array Oper}{Hh:Heap}{id:Nat}{o:Oper}{σ:St}{e:AM}(h:dZ P C ops Hh id o σ=some e):MD C Hh σ id o e:=by
 unfold dZ at h
 split at h
 ·unfold bz at h
  cases hz:i7 C id o with
  | true=>
   rw[hz] at h
   simp only[cond_true] at h
   split at h
   ·obtain⟨_,rfl⟩:=ah h;exact .inl rfl
   ·simp at h
  | false=>
  rw[hz] at h
  simp only[cond_false] at h
  unfold bA at h
  split at h
  ·obtain⟨_,rfl⟩:=ah h;exact .inl rfl
  ·obtain⟨_,rfl⟩:=ah h;exact .inr (.inl rfl)
  ·rename_i hs
   obtain⟨_,rfl⟩:=ah h
   obtain⟨h1,h2,h3⟩:=GJ (u:=.ak) (.inl hs)
   exact .inr (.inr ⟨by unfold Ku;rw[h1];rfl,_,_,rfl,h2,h3⟩)
  ·rename_i c i ob v u hs
   obtain⟨h1,h2,h3⟩:=GJ (.inr hs)
   cases c with
   | true=>simp only[cond_true,Option.some.injEq] at h;subst h;exact .inr (.inr ⟨by unfold Ku;rw[h1];rfl,_,_,rfl,h2,h3⟩)
   | false=>simp only[cond_false,Option.some.injEq] at h;subst h;exact .inl rfl
  ·split at h
   ·rename_i u hu
    split at h
    ·rename_i i ob v hout
     cases h
     obtain⟨g1,x,r,g2,g3⟩:=zQ hout
     exact .inr (.inr ⟨by unfold Ku;rw[wJ hu];simp,i,ob,rfl,g1,by rw[Ml (by assumption) hu g2];exact g3⟩)
    ·simp at h
   split at h
   ·unfold rC at h
    split at h
    ·split at h
     ·cases h;exact .inr (.inl rfl)
     ·simp at h
    ·simp at h
   ·simp at h
  ·simp at h
 ·cases h;exact .inl rfl
 ·simp at h
section
variable [aq]{P:Program}{C:Cons}{F:gv}{r:Option Nat}{N:ar}{Dt:Bool×List Deferred}{w w0:World}{μ μ':Mu}{S S':ar}{B:Nat}{σ σ':St}{a:Act}{Q:Exit→Act→World→Prop}
omit [aq] in
theorem Nf {Hh:Heap}{id:Nat}{o:Oper}{e:AM}(sub:∀ i o,Hh i=some o→σ.heap i=some o)(hok:MD C Hh σ id o e)(hBd:Bd σ)(q:Nat)(hq:aY σ.heap e.sets q≠none) :
  q∈σ.ids++cond e.new (e.sets.map (·.1)) []:=by
 rcases sV _ _ q hq with h|h
 ·rcases hok with h0|h0|⟨h0,j,ob,hs,hj⟩
  ·rw[h0] at h;simp at h
  ·rw[h0];exact List.mem_append.2 (.inr h)
  ·obtain⟨hj,_⟩:=hj
   rw[hs] at h
   simp only[List.map_cons,List.map_nil,List.mem_singleton] at h
   subst h
   refine List.mem_append.2 (.inl (hBd q ?_))
   cases ho:Hh q with
   | none=>rw[ho] at hj;simp at hj
   | some o'=>rw[sub _ _ ho];simp
 ·exact List.mem_append.2 (.inl (hBd q h))
theorem jH (hF:cy P F){ops:Array Oper}{hide:Heap→Heap}(hs:∀ H i o,hide H i=some o→H i=some o){id i:Nat}(h:ez P C F ops hide id i σ=some σ')(hBd:Bd σ) :
  Bd (σ'.ay (cU P C ops (hide σ.heap) id i σ)):=by
 unfold ez at h
 unfold cU
 intro q hq
 simp only[St.ay] at hq ⊢
 cases ho:ops[i]? with
 | none=>rw[ho] at h;simp only[Option.some.injEq] at h;subst h;exact List.mem_append.2 (.inl (hBd q hq))
 | some o=>
  rw[ho] at h
  simp only at h ⊢
  cases hw:want ops σ o with
  | none=>rw[hw] at h;simp at h
  | some b=>
   rw[hw] at h
   cases b with
   | false=>
    simp only at h ⊢
    obtain⟨e1,e2⟩:=gj h
    rw[e1] at hq;rw[e2]
    exact List.mem_append.2 (.inl (hBd q hq))
   | true=>
    simp only at h ⊢
    cases he:bz P C (hide σ.heap) id o σ.val with
    | some e=>
     rw[he] at h
     simp only at h ⊢
     obtain⟨e1,e2⟩:=td h
     rw[e1] at hq;rw[e2]
     have hok:=ni (P:=P) (C:=C) (ops:=ops) (Hh:=hide σ.heap) (id:=id) (o:=o) (σ:=σ) (e:=e) (by unfold dZ;rw[hw];exact he)
     exact Nf (hs σ.heap) hok hBd q hq
    | none=>
     rw[he] at h
     simp only at h ⊢
     split at h
     ·rename_i v H' L' hi
      obtain⟨e1,e2⟩:=gj (bS h).2
      rw[e1] at hq;rw[e2]
      unfold dn at hi
      split at hi
      ·split at hi
       ·simp at hi
       ·exact List.mem_append.2 (.inl ((hF _ _ _ _ _ _ _ _ hi hBd).1 q hq))
      ·simp at hi
     ·simp at h
theorem zq (hF:cy P F){ops:Array Oper}{base:Nat}:∀ (l:List Nat) (σ:St) (e:Ex) (σ':St),jW P C F ops base l σ=some (e,σ')→Bd σ→Bd σ'
 | [],σ,e,σ',h,hB=>by simp only[jW,Option.some.injEq,Prod.mk.injEq] at h;obtain⟨_,rfl⟩:=h;exact hB
 | i::l,σ,e,σ',h,hB=>by
  simp only[jW] at h
  split at h
  ·rename_i x H' L' h1
   cases h
   exact nA hF h1 hB
  ·split at h
   ·rename_i σ1 h1
    exact zq hF l _ e σ' h (jH hF (fun H i o h=>h) h1 hB)
   ·simp at h
omit [aq] in
theorem AR.ay {L:List Nat}(A:AR N Dt μ S σ a):AR N Dt μ S (σ.ay L) a:=⟨A.defers,A.size,A.tmp⟩
theorem yg (hC:bI P C)(hF:cy P F){ops:Array Oper}{base:Nat}:∀ (l:List Nat) (σ:St) (e:Ex) (σ':St) (a:Act) (w:World) (μ:Mu) (S:ar),
  jW P C F ops base l σ=some (e,σ')→Bd σ→AR N Dt μ S σ a→Rel μ S σ.heap B w0 w →
  (∀ a' w' μ' S' x,AR N Dt μ' S' σ' a'→Rel μ' S' σ'.heap B w0 w'→Carry B μ S σ.heap μ' S' σ'.heap→e.Is μ' S' σ'.heap x→Q x a' w')→wpOpsIn (WF r) 0 P ops Q l a w
 | [],σ,e,σ',a,w,μ,S,h,hB,A,R,hK=>by
  simp only[jW,Option.some.injEq,Prod.mk.injEq] at h;obtain⟨rfl,rfl⟩:=h
  exact hK a w μ S .normal A R Carry.refl rfl
 | i::l,σ,e,σ',a,w,μ,S,h,hB,A,R,hK=>by
  simp only[jW] at h
  rw[wpOpsIn_cons]
  split at h
  ·rename_i x H' L' h1
   cases h
   exact iT hF h1 hB A R fun w' μ' S' u A' R' C' hv=>hK a w' μ' S' (.panic (zW u)) A' R' C' ⟨u,rfl,hv⟩
  split at h
  ·rename_i σ1 h1
   refine eM hC hF (fun H i o h=>h) h1 (.inl hB) A R fun a1 w1 μ1 S1 A1 R1 C1=>?_
   exact yg hC hF l _ e σ' a1 w1 μ1 S1 h (jH hF (fun H i o h=>h) h1 hB) A1.ay R1 fun a' w' μ' S' x A' R' C'=>hK a' w' μ' S' x A' R' (C1.trans C')
  ·simp at h
omit [aq] in
theorem eF {ops:Array Oper}{m:List Nat}{W:List (Option Nat)}{base:Nat}:∀ (l:List Nat) (σ σ':St) (L:List Nat),cE P C ops m W base l σ=some σ'→Bd (σ.ay L)→Bd (σ'.ay (L++cY P C ops m W base l σ))
 | [],σ,σ',L,h,hB=>by
  simp only[cE,Option.some.injEq] at h;subst h
  intro q hq
  have:=hB q hq
  simpa [cY,St.ay] using this
 | i::l,σ,σ',L,h,hB=>by
  simp only[cE] at h
  split at h
  ·rename_i σ1 h1
   have hB1:Bd (σ1.ay (L++cU P C ops (bK base ops.size (m.getD i 0) (k7 m W ops.size i) σ.heap) (base+i * 16) i σ)):=by
    intro q hq
    have h1':=h1
    unfold sE at h1'
    obtain⟨_,h1'⟩:=az h1'
    unfold ez at h1'
    unfold cU
    simp only[St.ay] at hq ⊢
    have old:σ.heap q≠none→q∈σ.ids++L:=fun h=>hB q h
    cases ho:ops[i]? with
    | none=>
     rw[ho] at h1';simp only[Option.some.injEq] at h1';subst h1'
     have:=old hq
     simp only[List.append_nil];exact this
    | some o=>
     rw[ho] at h1'
     simp only at h1' ⊢
     cases hw:want ops σ o with
     | none=>rw[hw] at h1';simp at h1'
     | some b=>
      rw[hw] at h1'
      cases b with
      | false=>
       simp only at h1' ⊢
       obtain⟨e1,e2⟩:=gj h1'
       rw[e1] at hq;rw[e2]
       simp only[List.append_nil];exact old hq
      | true=>
       simp only at h1' ⊢
       cases he:bz P C (bK base ops.size (m.getD i 0) (k7 m W ops.size i) σ.heap) (base+i * 16) o σ.val with
       | some e=>
        rw[he] at h1'
        simp only at h1' ⊢
        obtain⟨e1,e2⟩:=td h1'
        rw[e1] at hq;rw[e2]
        have hok:=ni (P:=P) (C:=C) (ops:=ops) (Hh:=bK base ops.size (m.getD i 0) (k7 m W ops.size i) σ.heap) (id:=base+i * 16) (o:=o) (σ:=σ) (e:=e) (by unfold dZ;rw[hw];exact he)
        have:=Nf (σ:=σ.ay L) (id:=base+i * 16) (fun i o h=>by
         unfold bK at h
         cases hv:(NJ base ops.size _ i && !sF _ i) with
         | true=>rw[hv] at h;exact h
         | false=>rw[hv] at h;simp at h) hok hB q hq
        rw[← List.append_assoc];exact this
       | none=>
        rw[he] at h1'
        simp only at h1'
        split at h1'
        ·rename_i hi
         unfold dn at hi
         split at hi
         ·split at hi
          ·simp at hi
          ·simp[cW] at hi
         ·simp at hi
        ·simp at h1'
   have:=eF l σ1 σ' _ h hB1
   simp only[cY,h1]
   rw[← List.append_assoc];exact this
  ·simp at h
omit [aq] in
theorem Kt {ops:Array Oper}{base:Nat}(h:pp P C ops base σ=some σ')(hB:Bd σ):Bd σ':=by
 unfold pp at h
 cases hr:bE P C ops (aA ops) with
 | false=>rw[hr] at h;simp at h
 | true=>
  rw[hr] at h
  simp only[cond_true] at h
  split at h
  ·rename_i σ1 h1
   cases h
   have:=eF (List.range ops.size) σ σ1 [] h1 (by intro q hq;have:=hB q hq;simpa [St.ay] using this)
   simpa using this
  ·simp at h
theorem tC (hF:cy P F){ops:Array Oper}{base z:Nat}{e:Ex}(h:jC P C F ops base z σ=some (e,σ'))(hB:Bd σ):Bd σ':=by
 unfold jC at h
 split at h
 ·rename_i h1;cases h;exact nA hF h1 hB
 ·split at h
  ·rename_i σ1 h1;cases h;exact jH hF (fun H i o h=>h) h1 hB
  ·simp at h
theorem FM (hF:cy P F){ops:Array Oper}{base:Nat}{e:Ex}(h:ke P C F ops base σ=some (e,σ'))(hB:Bd σ):Bd σ':=by
 unfold ke at h
 split at h
 ·split at h
  ·rename_i h1;cases h;exact Kt h1 hB
  ·simp at h
 ·rename_i z hz
  obtain⟨_,h⟩:=az h
  split at h
  ·rename_i σ1 h1
   have:=eF (List.range z) σ σ1 [] h1 (by intro q hq;have:=hB q hq;simpa [St.ay] using this)
   exact tC hF h (by simpa using this)
  ·simp at h
end
section
variable [aq]{F:gv}{P:Program}{C:Cons}{ops:Array Oper}{σ σ' σ1 σ2:St}{m:List Nat}{W:List (Option Nat)}{base:Nat}
omit [aq] in
theorem dJ {base n mask:Nat}{ot:List Nat}{H:Heap}{q:Nat}{o:aO}(h:bK base n mask ot H q=some o):NJ base n mask q=true∧H q=some o∧sF ot q=false:=by
 unfold bK at h
 cases hv:NJ base n mask q with
 | true=>
  rw[hv] at h
  cases ho:sF ot q with
  | true=>rw[ho] at h;simp at h
  | false=>rw[ho] at h;exact⟨rfl,h,rfl⟩
 | false=>rw[hv] at h;simp at h
omit [aq] in
theorem xx {n x i j:Nat}(hx:x<n)(hne:x≠i)(h1:Nat.testBit (m.getD i 0) x=false)(h2:Nat.testBit (m.getD x 0) i=false)(hW:W.getD x none=some j):sF (k7 m W n i) j=true:=by
 cases W with
 | nil=>simp at hW
 | cons w0 W0=>
 unfold sF k7
 rw[List.any_eq_true]
 refine⟨j,List.mem_filterMap.2 ⟨x,List.mem_range.2 hx,?_⟩,by simp⟩
 have hb:Nat.beq x i=false:=by
  cases hb:Nat.beq x i with
  | false=>rfl
  | true=>exact absurd (Nat.eq_of_beq_eq_true hb) hne
 rw[hb,h1,h2]
 exact hW
omit [aq] in
theorem Mc {i x:Nat}{ox:Oper}(hx:ops[x]? = some ox)(h:uy P ops m i=true)(hne:x≠i)(h1:Nat.testBit (m.getD i 0) x=false)(h2:Nat.testBit (m.getD x 0) i=false):xF P ox=false:=by
 unfold uy at h
 have:=List.all_eq_true.1 h x (List.mem_range.2 (Array.getElem?_eq_some_iff.1 hx).1)
 have hb:Nat.beq x i=false:=by
  cases hb:Nat.beq x i with
  | false=>rfl
  | true=>exact absurd (Nat.eq_of_beq_eq_true hb) hne
 rw[hb,h1,h2,hx] at this
 simpa using this
omit [aq] in
theorem wu {i j x:Nat}{o ox:Oper}(hi:ops[i]? = some o)(hx:ops[x]? = some ox)(h:iI P C ops m W i σ=true)(hw:Ku C o=true)(ht:ep σ.val o=some j)(hr:xF P ox=true)(hne:x≠i)
  (h1:Nat.testBit (m.getD i 0) x=false) (h2:Nat.testBit (m.getD x 0) i=false):W.getD i none=some j:=by
 unfold iI at h
 rw[hi] at h
 simp only[hw,cond_true,ht,Bool.or_eq_true] at h
 rcases h with h|h
 ·cases hg:W.getD i none with
  | none=>rw[hg] at h;simp[UY] at h
  | some k=>rw[hg] at h;simp only[UY] at h;rw[Nat.eq_of_beq_eq_true h]
 ·rw[Mc hx h hne h1 h2] at hr;simp at hr
omit [aq] in
theorem yU {o:Oper}{ρ ρ':Operand→AV}(h:∀ x∈o.op.operands,ρ' x=ρ x):ep ρ' o=ep ρ o:=by
 obtain⟨dst,op,ty,pos,af,gd⟩:=o
 unfold ep
 cases op<;>simp only[Op.operands] at h<;>simp only
 case store t a x=>rw[h a (by simp)]
 case next x s=>rw[h x (by simp)]
 case mapEntry t m k=>rw[h m (by simp)]
 case mapUpdate t m k x=>rw[h m (by simp)]
 case entryStore t m s x=>rw[h m (by simp)]
 case call c=>
  cases hl:c.args.toList with
  | nil=>rfl
  | cons a l=>
   refine congrArg fW (h a ?_)
   have:a∈c.args:=by rw[← Array.mem_toList_iff,hl];simp
   unfold Call.operands
   cases c.callee<;>simp[this]
omit [aq] in
theorem iL {i:Nat}{o:Oper}(hi:ops[i]? = some o)(hn:σ'.nt=σ.nt)(h:∀ t,t∈o.looksAt ops→σ'.tmps t=σ.tmps t):iI P C ops m W i σ'=iI P C ops m W i σ:=by
 unfold iI
 rw[hi]
 simp only
 rw[yU (ρ:=σ.val) (ρ':=σ'.val) fun x hx=>val_congr hn fun t e=>by
  subst e
  refine h t ?_
  unfold Oper.looksAt
  exact List.mem_append.2 (.inl (List.mem_filterMap.2 ⟨.tmp t,by simpa using hx,rfl⟩))]
omit [aq] in
theorem wM {base n mask x q:Nat}(hx:x<n)(h1:base+x * 16≤q)(h2:q<base+x * 16+16)(hm:Nat.testBit mask x=false):NJ base n mask q=false:=by
 unfold NJ
 have a1:Nat.ble base q=true:=Nat.ble_eq_true_of_le (by omega)
 have a2:kY q (base+n * 16)=true:=yc (by omega)
 have a3:(q-base) / 16=x:=by omega
 rw[a1,a2,a3]
 exact hm
omit [aq] in
theorem jM {σ σ':St}{id:Nat}{dst:Option Tmp}{e:AM}(h:σ.zA id dst e=some σ') :
  (e.new=true→bf σ.heap e.sets=true∧cV id e.sets=true)∧(σ.with (aY σ.heap e.sets)).put dst e.v=some σ':=by
 unfold St.zA at h
 cases hn:e.new with
 | false=>rw[hn] at h;exact⟨fun h=>by simp at h,h⟩
 | true=>
  rw[hn] at h
  cases hb:(bf σ.heap e.sets&&cV id e.sets) with
  | false=>rw[hb] at h;simp at h
  | true=>
   rw[hb] at h
   simp only[Bool.and_eq_true] at hb
   exact⟨fun _=>hb,h⟩
omit [aq] in
theorem vM {σ σ':St}{id:Nat}{dst:Option Tmp}{e:AM}(h1:e.new=true→bf σ.heap e.sets=true∧cV id e.sets=true)
  (h2:(σ.with (aY σ.heap e.sets)).put dst e.v=some σ'):σ.zA id dst e=some σ':=by
 unfold St.zA
 cases hn:e.new with
 | false=>exact h2
 | true=>rw[(h1 hn).1,(h1 hn).2];exact h2
omit [aq] in
theorem nY {σ σ':St}{H:Heap}{dst:Option Tmp}{v:AV}(h:(σ.with H).put dst v=some σ') :
  σ'.nt=σ.nt∧σ'.heap=H∧(∀ t,dst≠some t→σ'.tmps t=σ.tmps t):=by
 cases dst with
 | none=>simp only[St.put,Option.some.injEq] at h;subst h;exact⟨rfl,rfl,fun _ _=>rfl⟩
 | some d=>
  obtain⟨_,rfl⟩:=ah h
  exact⟨rfl,rfl,fun t ht=>ax _ _ (fun e=>ht (by rw[e]))⟩
omit [aq] in
theorem JW {σ σ1 σ2:St}{H1 H2 H3:Heap}{d1 d2:Option Tmp}{v1 v2:AV}(h1:(σ.with H1).put d1 v1=some σ1)(h2:(σ1.with H2).put d2 v2=some σ2)
  (hd:∀ d,d1=some d→d2≠some d):∃ σ3,(σ.with H3).put d2 v2=some σ3∧(σ3.with H2).put d1 v1=some σ2:=by
 cases d1 with
 | none=>
  simp only[St.put,Option.some.injEq] at h1;subst h1
  cases d2 with
  | none=>simp only[St.put,Option.some.injEq] at h2;subst h2;exact⟨_,rfl,rfl⟩
  | some d=>obtain⟨c,rfl⟩:=ah h2;exact⟨⟨σ.nt,aM σ.tmps d v2,H3,σ.ids⟩,by simp only[St.put,St.with] at c ⊢;rw[c];rfl,rfl⟩
 | some d=>
  obtain⟨c1,rfl⟩:=ah h1
  cases d2 with
  | none=>
   simp only[St.put,Option.some.injEq] at h2;subst h2
   exact⟨_,rfl,by simp only[St.put,St.with] at c1 ⊢;rw[c1];rfl⟩
  | some e=>
   obtain⟨c2,rfl⟩:=ah h2
   simp only[St.with] at c1 c2
   refine⟨⟨σ.nt,aM σ.tmps e v2,H3,σ.ids⟩,by simp only[St.put,St.with];rw[c2];rfl,?_⟩
   simp only[St.put,St.with]
   rw[c1]
   have hne:d≠e:=fun h=>hd d rfl (by rw[h])
   simp only[cond_true,Option.some.injEq,St.mk.injEq,true_and,and_true]
   exact (Ap σ.tmps v1 v2 hne).symm
omit [aq] in
theorem swap {x i:Nat}{ox oi:Oper}(hx:ops[x]? = some ox)(hi:ops[i]? = some oi)(hind:indep P C ops m x i ox oi=true)(hxi:x≠i)
  (h1:sE P C ops m W base x σ=some σ1) (h2:sE P C ops m W base i σ1=some σ2) :
  ∃ σ3,sE P C ops m W base i σ=some σ3∧sE P C ops m W base x σ3=some σ2:=by
 have hxn:x<ops.size:=(Array.getElem?_eq_some_iff.1 hx).1
 have hin:i<ops.size:=(Array.getElem?_eq_some_iff.1 hi).1
 unfold indep at hind
 simp only[Bool.and_eq_true,Bool.not_eq_true',Bool.and_eq_false_iff] at hind
 obtain⟨⟨hap,hb1⟩,hb2⟩:=hind
 obtain⟨p1,p2,p3⟩:=Oper.apart_spec hap
 unfold sE at h1 h2 ⊢
 obtain⟨t1,h1⟩:=az h1
 obtain⟨t2,h2⟩:=az h2
 rw[dF hx] at h1
 rw[dF hi] at h2
 cases he1:dZ P C ops (bK base ops.size (m.getD x 0) (k7 m W ops.size x) σ.heap) (base+x * 16) ox σ with
 | none=>rw[he1] at h1;simp at h1
 | some ex=>
  rw[he1] at h1
  simp only at h1
  cases he2:dZ P C ops (bK base ops.size (m.getD i 0) (k7 m W ops.size i) σ1.heap) (base+i * 16) oi σ1 with
  | none=>rw[he2] at h2;simp at h2
  | some ei=>
   rw[he2] at h2
   simp only at h2
   obtain⟨q1,q2⟩:=jM h1
   obtain⟨r1,r2⟩:=jM h2
   obtain⟨f1,f2,f3⟩:=nY q2
   have okx:=ni he1
   have oki:=ni he2
   have hH:xF P oi=true→bK base ops.size (m.getD i 0) (k7 m W ops.size i) σ.heap=bK base ops.size (m.getD i 0) (k7 m W ops.size i) σ1.heap:=by
    intro hr
    funext q
    unfold bK
    cases hv:(NJ base ops.size (m.getD i 0) q && !sF (k7 m W ops.size i) q) with
    | false=>rfl
    | true=>
     simp only[cond_true]
     simp only[Bool.and_eq_true,Bool.not_eq_true'] at hv
     obtain⟨hv,hv2⟩:=hv
     rw[f2]
     symm
     refine dx _ _ _ fun hq=>?_
     rcases okx with h0|h0|⟨h0,j,ob,hs,hj,ht⟩
     ·rw[h0] at hq;simp[ids] at hq
     ·have:=fc (q1 h0).2 q hq
      have:=wM (mask:=m.getD i 0) hxn this.1 this.2 hb1
      rw[hv] at this;simp at this
     ·rw[hs] at hq
      simp only[ids,List.map_cons,List.map_nil,List.mem_singleton] at hq
      subst hq
      rw[xx hxn hxi hb1 hb2 (wu hx hi t1 h0 ht hr (Ne.symm hxi) hb2 hb1)] at hv2
      simp at hv2
   have hsi:dZ P C ops (bK base ops.size (m.getD i 0) (k7 m W ops.size i) σ.heap) (base+i * 16) oi σ=some ei:=by
    rw[← he2]
    refine iX f1.symm (fun t ht=>?_) hH
    exact (f3 t (fun e=>p1 t e ht)).symm
   have hdis:∀ q∈ids ex.sets,q∉ids ei.sets:=by
    intro q hq hq2
    rcases okx with h0|h0|⟨h0,j,ob,hs,hj,ht⟩
    ·rw[h0] at hq;simp[ids] at hq
    ·have a1:=fc (q1 h0).2 q hq
     rcases oki with k0|k0|⟨k0,j,ob,ks,kj,kt⟩
     ·rw[k0] at hq2;simp[ids] at hq2
     ·have a2:=fc (r1 k0).2 q hq2
      omega
     ·rw[ks] at hq2
      simp only[ids,List.map_cons,List.map_nil,List.mem_singleton] at hq2
      subst hq2
      cases ho:bK base ops.size (m.getD i 0) (k7 m W ops.size i) σ1.heap q with
      | none=>rw[ho] at kj;simp at kj
      | some o=>
       have:=(dJ ho).1
       rw[wM (mask:=m.getD i 0) hxn a1.1 a1.2 hb1] at this;simp at this
    ·rw[hs] at hq
     simp only[ids,List.map_cons,List.map_nil,List.mem_singleton] at hq
     subst hq
     have hjs:(σ.heap q).isSome=true:=by
      cases ho:bK base ops.size (m.getD x 0) (k7 m W ops.size x) σ.heap q with
      | none=>rw[ho] at hj;simp at hj
      | some o=>rw[(dJ ho).2.1];rfl
     rcases oki with k0|k0|⟨k0,j2,ob2,ks,kj,kt⟩
     ·rw[k0] at hq2;simp[ids] at hq2
     ·have:=jT _ _ (r1 k0).1 q hq2
      rw[f2,hs] at this
      simp only[aY,au] at this
      simp at this
     ·rw[ks] at hq2
      simp only[ids,List.map_cons,List.map_nil,List.mem_singleton] at hq2
      subst hq2
      cases ho:bK base ops.size (m.getD i 0) (k7 m W ops.size i) σ1.heap q with
      | none=>rw[ho] at kj;simp at kj
      | some o=>
       have:=(dJ ho).2.2
       rw[xx hxn hxi hb1 hb2 (wu hx hi t1 h0 ht (LK k0) (Ne.symm hxi) hb2 hb1)] at this
       simp at this
   obtain⟨σ3,g1,g2⟩:=JW (H3:=aY σ.heap ei.sets) q2 r2 p2
   obtain⟨l1,l2,l3⟩:=nY g1
   have hside:σ.zA (base+i * 16) oi.dst ei=some σ3:=vM (fun hn=>⟨by
    rw[← (r1 hn).1,f2]
    symm
    exact iu _ _ _ fun q hq=>dx _ _ _ fun hq2=>hdis q hq2 hq,(r1 hn).2⟩) g1
   have t2':iI P C ops m W i σ=true:=by rw[← t2];exact iL hi f1.symm fun t ht=>(f3 t (fun e=>p1 t e ht)).symm
   have t1':iI P C ops m W x σ3=true:=by rw[← t1];exact iL hx l1 fun t ht=>l3 t (fun e=>p3 t e ht)
   refine⟨σ3,by rw[t2',dF hi,hsi];exact hside,?_⟩
   have hH2:xF P ox=true→bK base ops.size (m.getD x 0) (k7 m W ops.size x) σ3.heap=bK base ops.size (m.getD x 0) (k7 m W ops.size x) σ.heap:=by
    intro hr
    funext q
    unfold bK
    cases hv:(NJ base ops.size (m.getD x 0) q && !sF (k7 m W ops.size x) q) with
    | false=>rfl
    | true=>
     simp only[cond_true]
     simp only[Bool.and_eq_true,Bool.not_eq_true'] at hv
     obtain⟨hv,hv2⟩:=hv
     rw[l2]
     refine dx _ _ _ fun hq=>?_
     rcases oki with h0|h0|⟨h0,j,ob,hs,hj,ht⟩
     ·rw[h0] at hq;simp[ids] at hq
     ·have:=fc (r1 h0).2 q hq
      have:=wM (mask:=m.getD x 0) hin this.1 this.2 hb2
      rw[hv] at this;simp at this
     ·rw[hs] at hq
      simp only[ids,List.map_cons,List.map_nil,List.mem_singleton] at hq
      subst hq
      rw[xx hin (Ne.symm hxi) hb2 hb1 (wu hi hx t2 h0 ht hr hxi hb1 hb2)] at hv2
      simp at hv2
   have hsx:dZ P C ops (bK base ops.size (m.getD x 0) (k7 m W ops.size x) σ3.heap) (base+x * 16) ox σ3=some ex:=by
    rw[← he1]
    refine iX l1 (fun t ht=>l3 t (fun e=>p3 t e ht)) hH2
   rw[t1',dF hx,hsx]
   simp only[cond_true]
   refine vM (fun hn=>⟨by
    rw[← (q1 hn).1,l2]
    exact iu _ _ _ fun q hq=>dx _ _ _ fun hq2=>hdis q hq hq2,(q1 hn).2⟩) ?_
   rw[l2,← pE _ _ _ hdis,← f2]
   exact g2
omit [aq] in
theorem front {i:Nat}{oi:Oper}(hi:ops[i]? = some oi):∀ (p s:List Nat) (σ:St),(∀ x∈p,x≠i∧∃ ox,ops[x]? = some ox∧indep P C ops m x i ox oi=true) →
  cE P C ops m W base (p++i::s) σ=some σ'→∃ σ1,sE P C ops m W base i σ=some σ1∧cE P C ops m W base (p++s) σ1=some σ'
 | [],s,σ,_,h=>by
  simp only[List.nil_append,cE] at h
  split at h
  ·rename_i σ1 h1;exact⟨σ1,h1,h⟩
  ·simp at h
 | x::p,s,σ,hp,h=>by
  simp only[List.cons_append,cE] at h
  split at h
  ·rename_i σx hx
   obtain⟨σ1,k1,k2⟩:=front hi p s σx (fun y hy=>hp y (by simp[hy])) h
   obtain⟨hne,ox,hox,hind⟩:=hp x (by simp)
   obtain⟨σ3,q1,q2⟩:=swap hox hi hind hne hx k1
   exact⟨σ3,q1,by simp only[List.cons_append,cE,q2];exact k2⟩
  ·simp at h
omit [aq] in
theorem bO (m:List Nat)(x:Nat):∀ (l:List Edge) (s:Nat),Nat.testBit (l.foldl (fun s e=>cond (Region.binds .any e) (s ||| 2 ^ e.on ||| m.getD e.on 0) s) s) x=true →
  Nat.testBit s x=true∨∃ e∈l,Region.binds .any e=true∧(x=e.on∨Nat.testBit (m.getD e.on 0) x=true)
 | [],s,h=>.inl h
 | e::l,s,h=>by
  simp only[List.foldl_cons] at h
  rcases bO m x l _ h with h|⟨e',h1,h2⟩
  ·cases hb:Region.binds .any e with
   | false=>rw[hb] at h;exact .inl h
   | true=>
    rw[hb] at h
    simp only[cond_true,Nat.testBit_or,Bool.or_eq_true,Nat.testBit_two_pow] at h
    rcases h with (h|h)|h
    ·exact .inl h
    ·exact .inr ⟨e,by simp,hb,.inl (by simpa using Eq.symm (by simpa using h))⟩
    ·exact .inr ⟨e,by simp,hb,.inr h⟩
  ·exact .inr ⟨e',by simp[h1],h2⟩
structure yQ (P:Program)(C:Cons)(ops:Array Oper)(m:List Nat):Prop where
 mixed:P.follows .mixedOrders=true
 mask:∀ i o,ops[i]? = some o→m.getD i 0=vj m o
 LN:∀ i o,ops[i]? = some o→∀ e∈o.after.toList,Region.binds .any e=true→e.on<i
 pair:∀ x i,x<i→∀ ox oi,ops[x]? = some ox→ops[i]? = some oi→Nat.testBit (m.getD i 0) x=true∨indep P C ops m x i ox oi=true
omit [aq] in
theorem dU (h:bE P C ops m=true):yQ P C ops m:=by
 unfold bE at h
 simp only[Bool.and_eq_true,List.all_eq_true,List.mem_range] at h
 obtain⟨h1,h2⟩:=h
 have key:∀ i o,ops[i]? = some o→(Nat.beq (m.getD i 0) (vj m o)=true∧uo o i=true)∧∀ x,x<i→CZ P C ops m x i=true:=by
  intro i o ho
  have:=h2 i (Array.getElem?_eq_some_iff.1 ho).1
  rw[ho] at this
  simpa only [Bool.and_eq_true,List.all_eq_true,List.mem_range] using this
 refine⟨h1,fun i o ho=>Nat.eq_of_beq_eq_true (key i o ho).1.1,fun i o ho e he hb=>?_,fun x i hx ox oi hox hoi=>?_⟩
 ·have:=(key i o ho).1.2
  unfold uo at this
  rw[List.all_eq_true] at this
  have:=this e he
  rw[hb] at this
  exact cq this
 ·have:=(key i oi hoi).2 x hx
  unfold CZ at this
  rw[hox,hoi] at this
  simpa only [Bool.or_eq_true] using this
def rem (n:Nat)(L:Array Bool):List Nat:=(List.range n).filter fun i=>!L.getD i true
def j4 (m:List Nat)(L:Array Bool):Prop:=∀ i,L.getD i false=true→∀ x,Nat.testBit (m.getD i 0) x=true→L.getD x false=true
omit [aq] in
theorem dR {L:Array Bool}{i:Nat}(h:i∈Region.ready .any ops L) :
  i<ops.size∧L.getD i true=false∧∃ o,ops[i]? = some o∧∀ e∈o.after.toList,Region.binds .any e=true→L.getD e.on false=true:=by
 unfold Region.ready at h
 simp only[List.mem_filter,List.mem_range,Bool.and_eq_true,Bool.not_eq_true'] at h
 obtain⟨h1,h2,h3⟩:=h
 refine⟨h1,h2,ops[i],by simp[h1],fun e he hb=>?_⟩
 simp only[h1,getElem?_pos,Option.map_some,Option.getD_some,Array.all_eq_true_iff_forall_mem,Bool.or_eq_true,Bool.not_eq_true'] at h3
 have:=h3 e (by simpa using he)
 rw[hb] at this
 simpa using this
omit [aq] in
theorem mL {L:Array Bool}{i:Nat}{o:Oper}(ho:ops[i]? = some o)(h2:L.getD i true=false)(h3:∀ e∈o.after.toList,Region.binds .any e=true→L.getD e.on false=true) :
  i∈Region.ready .any ops L:=by
 unfold Region.ready
 simp only[List.mem_filter,List.mem_range,Bool.and_eq_true,Bool.not_eq_true']
 refine⟨(Array.getElem?_eq_some_iff.1 ho).1,h2,?_⟩
 rw[ho]
 simp only[Option.map_some,Option.getD_some,Array.all_eq_true_iff_forall_mem,Bool.or_eq_true,Bool.not_eq_true']
 intro e he
 cases hb:Region.binds .any e with
 | false=>exact .inl rfl
 | true=>exact .inr (h3 e (by simpa using he) hb)
omit [aq] in
theorem bu {L:Array Bool}{i:Nat}(d:Bool)(h:i<L.size)(j:Nat):(L.setIfInBounds i true).getD j d=if j=i then true else L.getD j d:=by
 simp only[Array.getD_eq_getD_getElem?]
 by_cases e:j=i
 ·subst e;simp[h]
 ·rw[Array.getElem?_setIfInBounds_ne (Ne.symm e),if_neg e]
omit [aq] in
theorem gu {n:Nat}{L:Array Bool}{i:Nat}(hs:L.size=n)(hi:i<n)(hl:L.getD i true=false) :
  ∃ p s,rem n L=p++i::s∧rem n (L.setIfInBounds i true)=p++s∧(∀ x∈p,x<i∧L.getD x true=false):=by
 have hr:List.range n=List.range i++i::(List.range' (i+1) (n-i-1)):=by
  rw[List.range_eq_range',List.range_eq_range',show n=i+(1+(n-i-1)) from by omega,← List.range'_append_1,Nat.zero_add,← List.range'_append_1]
  simp only[List.range'_succ,List.range'_zero,List.singleton_append]
  congr 3
  omega
 refine⟨(List.range i).filter fun j=>!L.getD j true,(List.range' (i+1) (n-i-1)).filter fun j=>!L.getD j true,?_,?_,fun x hx=>?_⟩
 ·unfold rem
  rw[hr,List.filter_append,List.filter_cons_of_pos (by simp[hl])]
 ·unfold rem
  rw[hr,List.filter_append,List.filter_cons_of_neg (by rw[bu true (by omega)];simp)]
  congr 1
  ·refine List.filter_congr fun x hx=>?_
   have:x<i:=List.mem_range.1 hx
   rw[bu true (by omega),if_neg (by omega)]
  ·refine List.filter_congr fun x hx=>?_
   have:=List.mem_range'_1.1 hx
   rw[bu true (by omega),if_neg (by omega)]
 ·simp only[List.mem_filter,List.mem_range,Bool.not_eq_true'] at hx
  exact hx
theorem yC (hC:bI P C){r:Option Nat}{N:ar}{Dt:Bool×List Deferred}{B:Nat}{w0:World}{Q:Exit→Act→World→Prop}(hr:yQ P C ops m) :
  ∀ (fuel:Nat) (L:Array Bool) (σ:St) (a:Act) (w:World) (μ:Mu) (S:ar),L.size=ops.size→(rem ops.size L).length≤fuel→j4 m L →
   cE P C ops m W base (rem ops.size L) σ=some σ'→AR N Dt μ S σ a→Rel μ S σ.heap B w0 w →
   (∀ a' w' μ' S',AR N Dt μ' S' σ' a'→Rel μ' S' σ'.heap B w0 w'→Carry B μ S σ.heap μ' S' σ'.heap→Q .normal a' w') →
   wpAnyIn (WF r) 0 P .any ops Q fuel L a w:=by
 intro fuel
 have none_left:∀ (L:Array Bool),Region.ready .any ops L=[]→rem ops.size L=[]:=by
  intro L hL
  have all:∀ i,i<ops.size→L.getD i true=true:=by
   intro i
   induction i using Nat.strongRecOn with
   | _ i ih=>
    intro hi
    cases hd:L.getD i true with
    | true=>rfl
    | false=>
     have ho:ops[i]? = some ops[i]:=by simp[hi]
     have:=mL ho hd fun e he hb=>by
      have hlt:=hr.LN i _ ho e he hb
      have:=ih e.on hlt (by omega)
      rw[Array.getD_eq_getD_getElem?] at this ⊢
      cases hx:L[e.on]? with
      | some b=>rw[hx] at this;simpa using this
      | none=>
       rw[hx] at this
       exfalso
       have h1:L.size≤e.on:=by simpa using hx
       have h2:L.getD i true=true:=by rw[Array.getD_eq_getD_getElem?];rw[Array.getElem?_eq_none (by omega)];rfl
       rw[h2] at hd;simp at hd
     rw[hL] at this;simp at this
  unfold rem
  rw[List.filter_eq_nil_iff]
  intro i hi
  rw[all i (List.mem_range.1 hi)];simp
 induction fuel with
 | zero=>
  intro L σ a w μ S hs hf hcl h A R hK
  have hnil:rem ops.size L=[]:=List.eq_nil_of_length_eq_zero (by omega)
  rw[hnil] at h
  simp only[cE,Option.some.injEq] at h;subst h
  refine⟨?_,hK a w μ S A R Carry.refl⟩
  cases hrd:Region.ready .any ops L with
  | nil=>rfl
  | cons i l=>
   have:=dR (L:=L) (i:=i) (ops:=ops) (by rw[hrd];simp)
   obtain⟨p,s,h1,_⟩:=gu hs this.1 this.2.1
   rw[hnil] at h1;simp at h1
 | succ fuel ih=>
  intro L σ a w μ S hs hf hcl h A R hK
  refine⟨fun hrd=>?_,fun i hi=>?_⟩
  ·rw[none_left L hrd] at h
   simp only[cE,Option.some.injEq] at h;subst h
   exact hK a w μ S A R Carry.refl
  ·obtain⟨hin,hli,oi,hoi,hed⟩:=dR hi
   obtain⟨p,s,e1,e2,hp⟩:=gu hs hin hli
   rw[e1] at h
   have hind:∀ x∈p,x≠i∧∃ ox,ops[x]? = some ox∧indep P C ops m x i ox oi=true:=by
    intro x hx
    obtain⟨hlt,hlx⟩:=hp x hx
    have hox:ops[x]? = some ops[x]:=by simp[show x<ops.size from by omega]
    refine⟨by omega,_,hox,?_⟩
    rcases hr.pair x i hlt _ _ hox hoi with hb|hb
    ·exfalso
     rw[hr.mask i oi hoi] at hb
     rcases bO m x _ _ hb with h0|⟨e,he,hbd,h0⟩
     ·simp at h0
     ·have hle:=hed e he hbd
      have hLx:L.getD x false=true:=by
       rcases h0 with rfl|h0
       ·exact hle
       ·exact hcl e.on hle x h0
      have hsz:x<L.size:=by omega
      simp[Array.getD_eq_getD_getElem?,hsz] at hLx hlx
      rw[hLx] at hlx;simp at hlx
    ·exact hb
   obtain⟨σ1,k1,k2⟩:=front hoi p s σ hind h
   unfold sE at k1
   obtain⟨_,k1⟩:=az k1
   refine eM hC (F:=cW) (fun _ _ _ _ _ _ _ _ h=>by simp[cW] at h) (fun H j o h=>(dJ h).2.1) k1 (.inr rfl) A R fun a1 w1 μ1 S1 A1 R1 C1=>?_
   have hsz:i<L.size:=by omega
   refine ih (L.setIfInBounds i true) σ1 a1 w1 μ1 S1 (by simp[hs]) ?_ ?_ (by rw[e2];exact k2) A1 R1 (fun a' w' μ' S' A' R' C'=>hK a' w' μ' S' A' R' (C1.trans C'))
   ·rw[e1] at hf
    rw[e2]
    simp at hf ⊢;omega
   ·intro j hj x hx
    rw[bu false hsz] at hj ⊢
    by_cases e:x=i
    ·rw[if_pos e]
    ·rw[if_neg e]
     by_cases ej:j=i
     ·subst ej
      rw[hr.mask j oi hoi] at hx
      rcases bO m x _ _ hx with h0|⟨e',he,hbd,h0⟩
      ·simp at h0
      ·have hle:=hed e' he hbd
       rcases h0 with rfl|h0
       ·exact hle
       ·exact hcl e'.on hle x h0
     ·rw[if_neg ej] at hj
      exact hcl j hj x hx
def j6 (n z:Nat)(L:Array Bool):List Nat:=(rem n L).filter fun i=>!(Nat.beq i z)
theorem tQ (hC:bI P C){r:Option Nat}{N:ar}{Dt:Bool×List Deferred}{B:Nat}{w0:World}{Q:Exit→Act→World→Prop}(hr:yQ P C ops m)
  {z:Nat} {oz:Oper} (hzo:ops[z]? = some oz) (hzn:z+1=ops.size) (hfull:∀ x,x<z→Nat.testBit (m.getD z 0) x=true) :
  ∀ (fuel:Nat) (L:Array Bool) (σ:St) (a:Act) (w:World) (μ:Mu) (S:ar),L.size=ops.size→L.getD z true=false→(j6 ops.size z L).length+1≤fuel→j4 m L →
   cE P C ops m W base (j6 ops.size z L) σ=some σ'→AR N Dt μ S σ a→Rel μ S σ.heap B w0 w →
   (∀ a' w' μ' S',AR N Dt μ' S' σ' a'→Rel μ' S' σ'.heap B w0 w'→Carry B μ S σ.heap μ' S' σ'.heap→wpOpIn (WF r) 0 P ops Q z (fun a w=>Q .normal a w) a' w') →
   wpAnyIn (WF r) 0 P .any ops Q fuel L a w:=by
 intro fuel
 induction fuel with
 | zero=>intro L σ a w μ S hs hz hf;omega
 | succ fuel ih=>
  intro L σ a w μ S hs hz hf hcl h A R hK
  have hzlt:z<ops.size:=by omega
  refine⟨fun hrd=>?_,fun i hi=>?_⟩
  ·
   exfalso
   have all:∀ i,i<ops.size→L.getD i true=true:=by
    intro i
    induction i using Nat.strongRecOn with
    | _ i ih2=>
     intro hi
     cases hd:L.getD i true with
     | true=>rfl
     | false=>
      have ho:ops[i]? = some ops[i]:=by simp[hi]
      have:=mL ho hd fun e he hb=>by
       have hlt:=hr.LN i _ ho e he hb
       have:=ih2 e.on hlt (by omega)
       have hsz:e.on<L.size:=by omega
       simpa [Array.getD_eq_getD_getElem?,hsz] using this
      rw[hrd] at this;simp at this
   rw[all z hzlt] at hz;simp at hz
  ·obtain⟨hin,hli,oi,hoi,hed⟩:=dR hi
   by_cases hiz:i=z
   ·
    subst hiz
    have hdone:∀ x,x<i→L.getD x false=true:=by
     intro x hx
     have hb:=hfull x hx
     rw[hr.mask i oi hoi] at hb
     rcases bO m x _ _ hb with h0|⟨e,he,hbd,h0⟩
     ·simp at h0
     ·have hle:=hed e he hbd
      rcases h0 with rfl|h0
      ·exact hle
      ·exact hcl e.on hle x h0
    have hnil:j6 ops.size i L=[]:=by
     unfold j6 rem
     rw[List.filter_filter,List.filter_eq_nil_iff]
     intro x hx
     have hx:=List.mem_range.1 hx
     by_cases e:x=i
     ·subst e;simp
     ·have hd:=hdone x (by omega)
      have hsz:x<L.size:=by omega
      have:L.getD x true=true:=by simpa [Array.getD_eq_getD_getElem?,hsz] using hd
      simp[this]
    rw[hnil] at h
    simp only[cE,Option.some.injEq] at h;subst h
    have hop:=hK a w μ S A R Carry.refl
    have hend:∀ a' w',Q .normal a' w'→wpAnyIn (WF r) 0 P .any ops Q fuel (L.setIfInBounds i true) a' w':=by
     intro a' w' hq
     have hno:Region.ready .any ops (L.setIfInBounds i true)=[]:=by
      cases hrd:Region.ready .any ops (L.setIfInBounds i true) with
      | nil=>rfl
      | cons j l=>
       exfalso
       obtain⟨hj,hlj,_⟩:=dR (L:=L.setIfInBounds i true) (i:=j) (ops:=ops) (by rw[hrd];simp)
       rw[bu true (by omega)] at hlj
       by_cases e:j=i
       ·rw[if_pos e] at hlj;simp at hlj
       ·rw[if_neg e] at hlj
        have hd:=hdone j (by omega)
        have hsz:j<L.size:=by omega
        have:L.getD j true=true:=by simpa [Array.getD_eq_getD_getElem?,hsz] using hd
        rw[this] at hlj;simp at hlj
     cases fuel with
     | zero=>exact⟨hno,hq⟩
     | succ f=>exact⟨fun _=>hq,fun j hj=>by rw[hno] at hj;simp at hj⟩
    exact wpOpIn_mono hend hop
   ·obtain⟨p,s,e1,e2,hp⟩:=gu hs hin hli
    have hbz:(!(Nat.beq i z))=true:=by
     cases hb:Nat.beq i z with
     | true=>exact absurd (Nat.eq_of_beq_eq_true hb) hiz
     | false=>rfl
    have f1:j6 ops.size z L=(p.filter fun i=>!(Nat.beq i z))++i::(s.filter fun i=>!(Nat.beq i z)):=by
     unfold j6
     rw[e1,List.filter_append,List.filter_cons_of_pos (by exact hbz)]
    have f2:j6 ops.size z (L.setIfInBounds i true)=(p.filter fun i=>!(Nat.beq i z))++(s.filter fun i=>!(Nat.beq i z)):=by
     unfold j6
     rw[e2,List.filter_append]
    rw[f1] at h
    have hind:∀ x∈(p.filter fun i=>!(Nat.beq i z)),x≠i∧∃ ox,ops[x]? = some ox∧indep P C ops m x i ox oi=true:=by
     intro x hx
     have hx:=(List.mem_filter.1 hx).1
     obtain⟨hlt,hlx⟩:=hp x hx
     have hox:ops[x]? = some ops[x]:=by simp[show x<ops.size from by omega]
     refine⟨by omega,_,hox,?_⟩
     rcases hr.pair x i hlt _ _ hox hoi with hb|hb
     ·exfalso
      rw[hr.mask i oi hoi] at hb
      rcases bO m x _ _ hb with h0|⟨e,he,hbd,h0⟩
      ·simp at h0
      ·have hle:=hed e he hbd
       have hLx:L.getD x false=true:=by
        rcases h0 with rfl|h0
        ·exact hle
        ·exact hcl e.on hle x h0
       have hsz:x<L.size:=by omega
       simp[Array.getD_eq_getD_getElem?,hsz] at hLx hlx
       rw[hLx] at hlx;simp at hlx
     ·exact hb
    obtain⟨σ1,k1,k2⟩:=front hoi _ _ σ hind h
    unfold sE at k1
    obtain⟨_,k1⟩:=az k1
    refine eM hC (F:=cW) (fun _ _ _ _ _ _ _ _ h=>by simp[cW] at h) (fun H j o h=>(dJ h).2.1) k1 (.inr rfl) A R fun a1 w1 μ1 S1 A1 R1 C1=>?_
    have hsz:i<L.size:=by omega
    refine ih (L.setIfInBounds i true) σ1 a1 w1 μ1 S1 (by simp[hs]) ?_ ?_ ?_ (by rw[f2];exact k2) A1 R1 (fun a' w' μ' S' A' R' C'=>hK a' w' μ' S' A' R' (C1.trans C'))
    ·rw[bu true hsz,if_neg (fun e=>hiz e.symm)];exact hz
    ·rw[f1] at hf
     rw[f2]
     simp at hf ⊢;omega
    ·intro j hj x hx
     rw[bu false hsz] at hj ⊢
     by_cases e:x=i
     ·rw[if_pos e]
     ·rw[if_neg e]
      by_cases ej:j=i
      ·subst ej
       rw[hr.mask j oi hoi] at hx
       rcases bO m x _ _ hx with h0|⟨e',he,hbd,h0⟩
       ·simp at h0
       ·have hle:=hed e' he hbd
        rcases h0 with rfl|h0
        ·exact hle
        ·exact hcl e'.on hle x h0
      ·rw[if_neg ej] at hj
       exact hcl j hj x hx
theorem G0 (hC:bI P C){r:Option Nat}{N:ar}{Dt:Bool×List Deferred}{B:Nat}{w w0:World}{a:Act}{μ:Mu}{S:ar}{Q:Exit→Act→World→Prop}{id:Nat}(h:pp P C ops base σ=some σ')(A:AR N Dt μ S σ a)(R:Rel μ S σ.heap B w0 w)
  (hK:∀ a' w' μ' S',AR N Dt μ' S' σ' a'→Rel μ' S' σ'.heap B w0 w'→Carry B μ S σ.heap μ' S' σ'.heap→Q .normal a' w'):(Code.region id ops true).wpIn (WF r) 0 P Q a w:=by
 unfold pp at h
 cases hr:bE P C ops (aA ops) with
 | false=>rw[hr] at h;simp at h
 | true=>
  rw[hr] at h
  have hr:=dU hr
  simp only[cond_true] at h
  split at h
  case h_2=>simp at h
  rename_i σ1 h1
  cases h
  refine wpIn_region_any hr.mixed ?_
  have hrem:rem ops.size (Array.replicate ops.size false)=List.range ops.size:=by
   unfold rem
   rw[List.filter_eq_self]
   intro i hi
   have:=List.mem_range.1 hi
   simp[Array.getD_eq_getD_getElem?,this]
  have R':Rel μ S σ.heap B w0 w.drew:=R.DQ
  refine yC hC hr ops.size _ σ a w.drew μ S (by simp) (by rw[hrem];simp) ?_ (by rw[hrem];exact h1) A R' (fun a' w' μ' S' A' R' C'=>hK a' w' μ' S' A'.ay R' C')
  intro i hi x hx
  by_cases hlt:i<ops.size
  ·simp[Array.getD_eq_getD_getElem?,hlt] at hi
  ·simp[Array.getD_eq_getD_getElem?,hlt] at hi
theorem Ft (hC:bI P C)(hF:cy P F){r:Option Nat}{N:ar}{Dt:Bool×List Deferred}{B:Nat}{w w0:World}{a:Act}{μ:Mu}{S:ar}{Q:Exit→Act→World→Prop}{id:Nat}{e:Ex}(h:ke P C F ops base σ=some (e,σ'))(hB:Bd σ)(A:AR N Dt μ S σ a)(R:Rel μ S σ.heap B w0 w)
  (hK:∀ a' w' μ' S' x,AR N Dt μ' S' σ' a'→Rel μ' S' σ'.heap B w0 w'→Carry B μ S σ.heap μ' S' σ'.heap→e.Is μ' S' σ'.heap x→Q x a' w'):(Code.region id ops true).wpIn (WF r) 0 P Q a w:=by
 unfold ke at h
 split at h
 ·split at h
  ·rename_i h1
   cases h
   exact G0 hC h1 A R fun a' w' μ' S' A' R' C'=>hK a' w' μ' S' _ A' R' C' rfl
  ·simp at h
 ·rename_i z hz
  obtain⟨hr,h⟩:=az h
  have hr:=dU hr
  split at h
  case h_2=>simp at h
  rename_i σ1 h1
  have hzf:z=ops.size-1∧0<ops.size∧∀ x,x<z→Nat.testBit ((aA ops).getD z 0) x=true:=by
   unfold rI at hz
   split at hz
   case h_2=>simp at hz
   rename_i o ho
   split at hz
   case h_2=>simp at hz
   split at hz
   case h_2=>simp at hz
   obtain⟨hc,rfl⟩:=ah hz
   simp only[Bool.and_eq_true,List.all_eq_true,List.mem_range] at hc
   refine⟨rfl,?_,fun x hx=>hc.2 x hx⟩
   have:=(Array.getElem?_eq_some_iff.1 ho).1
   omega
  obtain⟨hz1,hpos,hfull⟩:=hzf
  have hzo:ops[z]? = some ops[z]:=by simp[show z<ops.size by omega]
  have hBz:Bd (σ1.ay (cY P C ops (aA ops) (kz P C ops (aA ops) base σ) base (List.range z) σ)):=by
   have:=eF (List.range z) σ σ1 [] h1 (by intro q hq;have:=hB q hq;simpa [St.ay] using this)
   simpa using this
  refine wpIn_region_any hr.mixed ?_
  have hrem:j6 ops.size z (Array.replicate ops.size false)=List.range z:=by
   have e0:rem ops.size (Array.replicate ops.size false)=List.range ops.size:=by
    unfold rem
    rw[List.filter_eq_self]
    intro i hi
    have:=List.mem_range.1 hi
    simp[Array.getD_eq_getD_getElem?,this]
   unfold j6
   rw[e0,show ops.size=z+1 by omega,List.range_succ,List.filter_append]
   have e1:(List.range z).filter (fun i=>!(Nat.beq i z))=List.range z:=by
    rw[List.filter_eq_self]
    intro i hi
    have:=List.mem_range.1 hi
    cases hb:Nat.beq i z with
    | true=>have:=Nat.eq_of_beq_eq_true hb;omega
    | false=>rfl
   rw[e1]
   simp[show Nat.beq z z=true from Nat.beq_refl z]
  have R':Rel μ S σ.heap B w0 w.drew:=R.DQ
  refine tQ hC hr hzo (by omega) hfull ops.size _ σ a w.drew μ S (by simp) ?_ (by rw[hrem];simp;omega) ?_ (by rw[hrem];exact h1) A R' fun a' w' μ' S' A' R' C'=>?_
  ·simp[Array.getD_eq_getD_getElem?,show z<ops.size by omega]
  ·intro i hi x hx
   by_cases hlt:i<ops.size
   ·simp[Array.getD_eq_getD_getElem?,hlt] at hi
   ·simp[Array.getD_eq_getD_getElem?,hlt] at hi
  ·unfold jC at h
   split at h
   ·rename_i y H1 L1 hp
    cases h
    exact iT hF hp hBz A'.ay R' fun w2 μ2 S2 u A2 R2 C2 hv=>hK a' w2 μ2 S2 _ A2 R2 (C'.trans C2) ⟨u,rfl,hv⟩
   ·split at h
    ·rename_i σ2 hop
     cases h
     exact eM hC hF (fun H i o h=>h) hop (.inl hBz) A'.ay R' fun a2 w2 μ2 S2 A2 R2 C2=>hK a2 w2 μ2 S2 _ A2.ay R2 (C'.trans C2) rfl
    ·simp at h
end
def Eu:IntKind→IntKind→Bool
 | .i8,.i8=>true
 | .i16,.i16=>true
 | .i32,.i32=>true
 | .i64,.i64=>true
 | .u8,.u8=>true
 | .u16,.u16=>true
 | .u32,.u32=>true
 | .u64,.u64=>true
 | _,_=>false
theorem yz {a b:IntKind}(h:Eu a b=true):a=b:=by
 cases a<;>cases b<;>first|rfl|(simp[Eu] at h)
mutual
def ct:AV→AV→Bool
 | .ptr i o,.ptr j p=>Nat.beq i j&&Nat.beq o p
 | .sl i g,.sl j h=>Nat.beq i j&&Nat.beq g h
 | .ak,.ak=>true
 | .agg a,.agg b=>oc a b
 | .mp i,.mp j=>Nat.beq i j
 | .lit (.int k i),.lit (.int l j)=>Eu k l&&decide (i=j)
 | .lit (.tuple x),.lit (.tuple y)=>Nat.beq x.size 0&&Nat.beq y.size 0
 | _,_=>false
def oc:List AV→List AV→Bool
 | [],[]=>true
 | a::as,b::bs=>ct a b&&oc as bs
 | _,_=>false
end
mutual
theorem yj:∀ (a b:AV),ct a b=true→a=b
 | .ptr i o,b,h=>by
  cases b<;>simp only[ct,Bool.false_eq_true] at h
  simp only[Bool.and_eq_true] at h
  rw[Nat.eq_of_beq_eq_true h.1,Nat.eq_of_beq_eq_true h.2]
 | .sl i o,b,h=>by
  cases b<;>simp only[ct,Bool.false_eq_true] at h
  simp only[Bool.and_eq_true] at h
  rw[Nat.eq_of_beq_eq_true h.1,Nat.eq_of_beq_eq_true h.2]
 | .agg a,b,h=>by
  cases b<;>simp only[ct,Bool.false_eq_true] at h
  rw[tc _ _ h]
 | .ak,b,h=>by
  cases b<;>simp only[ct,Bool.false_eq_true] at h
  rfl
 | .mp i,b,h=>by
  cases b<;>simp only[ct,Bool.false_eq_true] at h
  rw[Nat.eq_of_beq_eq_true h]
 | .lit x,b,h=>by
  cases b with
  | lit y=>
   cases x with
   | int k i=>
    cases y<;>simp only[ct,Bool.false_eq_true,Bool.and_eq_true,decide_eq_true_eq] at h
    rw[yz h.1,h.2]
   | tuple x=>
    cases y<;>simp only[ct,Bool.false_eq_true,Bool.and_eq_true] at h
    rename_i y
    have h1:=Nat.eq_of_beq_eq_true h.1
    have h2:=Nat.eq_of_beq_eq_true h.2
    have e1:x = #[]:=by simpa using h1
    have e2:y = #[]:=by simpa using h2
    rw[e1,e2]
   | _=>simp[ct] at h
  | _=>cases x<;>simp[ct] at h
 | .fn f a b,y,h=>by cases y<;>simp[ct] at h
 | .Aq e x o,y,h=>by cases y<;>simp[ct] at h
 | .xG i g k o,y,h=>by cases y<;>simp[ct] at h
 | .cont e xs,y,h=>by cases y<;>simp[ct] at h
 | .DS i xs,y,h=>by cases y<;>simp[ct] at h
 | .pI l,y,h=>by cases y<;>simp[ct] at h
 | .sub i g a b,y,h=>by cases y<;>simp[ct] at h
 | .Gb i n,y,h=>by cases y<;>simp[ct] at h
 | .fG i,y,h=>by cases y<;>simp[ct] at h
 | .wL t v,y,h=>by cases y<;>simp[ct] at h
 | .dB v,y,h=>by cases y<;>simp[ct] at h
 | .xM,y,h=>by cases y<;>simp[ct] at h
theorem tc:∀ (as bs:List AV),oc as bs=true→as=bs
 | [],[],_=>rfl
 | [],_::_,h=>by simp[oc] at h
 | _::_,[],h=>by simp[oc] at h
 | a::as,b::bs,h=>by
  simp only[oc,Bool.and_eq_true] at h
  rw[yj a b h.1,tc as bs h.2]
end
def gM:Op→Bool
 | .load _ _=>true
 | .move _=>true
 | .assign _=>true
 | .nilCheck _=>true
 | .fieldAddr _ _ _=>true
 | .field _ _ _=>true
 | .extract _ _=>true
 | .indexAddr _ _ _=>true
 | .binOp _ _ _ _ _=>true
 | .unOp _ _ _=>true
 | .index _ _ _=>true
 | _=>false
def oe (m:List Nat)(z i:Nat):Bool:=!(Nat.beq i z) && !(Nat.testBit (m.getD z 0) i) && !(Nat.testBit (m.getD i 0) z)
def xH (m:List Nat)(z i:Nat):Bool:=!(Nat.beq i z) && !(Nat.testBit (m.getD i 0) z)
def Av (m:List Nat)(z i:Nat):Bool:=!(Nat.beq i z) && !(Nat.testBit (m.getD z 0) i)
def cS (m:List Nat)(z n:Nat):List Nat:=(List.range n).filter (xH m z)
def tf (m:List Nat)(z n:Nat):List Nat:=(List.range n).filter (Av m z)
def blind (ops:Array Oper)(o u:Oper):Bool:=
 match u.dst with
 | some d=>!(sF (o.looksAt ops) d)
 | none=>true
def fL (ops:Array Oper)(i u:Nat):Bool:=
 match ops[i]?,ops[u]? with
 | some o,some ou=>blind ops o ou
 | _,_=>true
def uB (ops:Array Oper)(u:Nat):Bool:=
 match ops[u]? with
 | some o=>gM o.op
 | none=>true
def D6 (ops:Array Oper)(m:List Nat)(z:Nat):Bool:=
 (List.range ops.size).all fun u=>!(oe m z u)||(uB ops u&&fL ops z u&&(List.range (u+1)).all fun i=>!(Av m z i)||fL ops i u)
def mj (C:Cons):List Oper→Nat→Option Nat
 | [],_=>none
 | o::l,n=>match o.op with
  | .call c=>match c.callee with
   | .value (.func k)=>cond ((C.kG k).isNone&&(C.aM k).isNone) (some n) (mj C l (n+1))
   | _=>mj C l (n+1)
  | _=>mj C l (n+1)
def Kk (C:Cons)(ops:Array Oper)(m:List Nat):Option Nat:=
 match rI C ops m with
 | some _=>none
 | none=>match mj C ops.toList 0 with
  | some z=>cond (D6 ops m z) (some z) none
  | none=>none
def eg (ops:Array Oper)(i:Nat):Option Tmp:=
 match ops[i]? with
 | some o=>o.dst
 | none=>none
def pX (ops:Array Oper)(i:Nat)(σ σ':St):Bool:=
 match eg ops i with
 | some d=>ct (σ'.tmps d) (σ.tmps d)
 | none=>true
def oI (P:Program)(C:Cons)(ops:Array Oper)(m:List Nat)(W:List (Option Nat))(base z:Nat):List Nat→St→Option St
 | [],σ=>some σ
 | i::l,σ=>match sE P C ops m W base i σ with
  | some σ'=>cond (oe m z i) (cond (pX ops i σ σ') (oI P C ops m W base z l σ) none) (oI P C ops m W base z l σ')
  | none=>none
def gx (P:Program)(C:Cons)(ops:Array Oper)(m:List Nat)(W:List (Option Nat))(base z:Nat):List Nat→St→List Nat
 | [],_=>[]
 | i::l,σ=>match sE P C ops m W base i σ with
  | some σ'=>cond (oe m z i) (gx P C ops m W base z l σ) (cU P C ops (bK base ops.size (m.getD i 0) (k7 m W ops.size i) σ.heap) (base+i * 16) i σ++gx P C ops m W base z l σ')
  | none=>[]
def qV (ops:Array Oper)(m:List Nat)(z t:Nat):Bool:=(List.range ops.size).any fun u=>oe m z u&&(match eg ops u with
 | some d=>Nat.beq d t
 | none=>false)
def uj (ops:Array Oper)(m:List Nat)(z:Nat)(σ:St):Nat→AV:=fun t=>cond (qV ops m z t) .ak (σ.tmps t)
def rW (P:Program)(C:Cons)(F:gv)(ops:Array Oper)(m:List Nat)(W:List (Option Nat))(base z:Nat)(σ:St):Option (Ex×St):=
 match dA P C F ops (fun H=>H) (base+z * 16) z σ with
 | some (x,H',L')=>some (.dB x,⟨σ.nt,uj ops m z σ,H',L'⟩)
 | none=>match ez P C F ops (fun H=>H) (base+z * 16) z σ with
  | some σ'=>match oI P C ops m W base z (tf m z ops.size) (σ'.ay (cU P C ops σ.heap (base+z * 16) z σ)) with
   | some σ2=>some (.cL,σ2.ay (gx P C ops m W base z (tf m z ops.size) (σ'.ay (cU P C ops σ.heap (base+z * 16) z σ))))
   | none=>none
  | none=>none
def zU (P:Program)(C:Cons)(F:gv)(ops:Array Oper)(base z:Nat)(σ:St):Option (Ex×St):=
 cond (bE P C ops (aA ops)) (match cE P C ops (aA ops) (kz P C ops (aA ops) base σ) base (cS (aA ops) z ops.size) σ with
  | some σ'=>rW P C F ops (aA ops) (kz P C ops (aA ops) base σ) base z (σ'.ay (cY P C ops (aA ops) (kz P C ops (aA ops) base σ) base (cS (aA ops) z ops.size) σ))
  | none=>none) none
def iW (m:List Nat)(z n z2:Nat):List Nat:=(List.range n).filter fun i=>Av m z i && !(Nat.beq i z2)
def mY (P:Program)(C:Cons)(F:gv)(ops:Array Oper)(m:List Nat)(W:List (Option Nat))(base z z2:Nat)(σ:St):Option (Ex×St):=
 match dA P C F ops (fun H=>H) (base+z * 16) z σ with
 | some (x,H',L')=>some (.dB x,⟨σ.nt,uj ops m z σ,H',L'⟩)
 | none=>match ez P C F ops (fun H=>H) (base+z * 16) z σ with
  | some σ'=>match oI P C ops m W base z (iW m z ops.size z2) (σ'.ay (cU P C ops σ.heap (base+z * 16) z σ)) with
   | some σ2=>jC P C F ops base z2 (σ2.ay (gx P C ops m W base z (iW m z ops.size z2) (σ'.ay (cU P C ops σ.heap (base+z * 16) z σ))))
   | none=>none
  | none=>none
def ry (P:Program)(C:Cons)(F:gv)(ops:Array Oper)(base z z2:Nat)(σ:St):Option (Ex×St):=
 cond (bE P C ops (aA ops)) (match cE P C ops (aA ops) (kz P C ops (aA ops) base σ) base (cS (aA ops) z ops.size) σ with
  | some σ'=>mY P C F ops (aA ops) (kz P C ops (aA ops) base σ) base z z2 (σ'.ay (cY P C ops (aA ops) (kz P C ops (aA ops) base σ) base (cS (aA ops) z ops.size) σ))
  | none=>none) none
def G3 (C:Cons)(ops:Array Oper)(m:List Nat):Option (Nat×Nat):=
 match rI C ops m with
 | some z2=>match mj C ops.toList 0 with
  | some z=>cond (kY z z2&&D6 ops m z) (some (z,z2)) none
  | none=>none
 | none=>none
def eL (P:Program)(C:Cons)(F:gv)(ops:Array Oper)(base:Nat)(σ:St):Option (Ex×St):=
 match G3 C ops (aA ops) with
 | some (z,z2)=>ry P C F ops base z z2 σ
 | none=>match Kk C ops (aA ops) with
  | some z=>zU P C F ops base z σ
  | none=>ke P C F ops base σ
section
variable [aq]{F:gv}{P:Program}{C:Cons}{ops:Array Oper}{σ σ' σ1 σ2 τ:St}{m:List Nat}{W:List (Option Nat)}{base z:Nat}
omit [aq] in
theorem EK {H:Heap}{id:Nat}{o:Oper}{ρ:Operand→AV}{out:Out}(hs:gM o.op=true)(h:sem P H id o ρ=some out):∃ c v,out = .val c v:=by
 obtain⟨dst,op,ty,pos,af,gd⟩:=o
 unfold sem at h
 cases op<;>simp only[gM,Bool.false_eq_true] at hs<;>simp only at h
 case move x=>cases h;exact⟨_,_,rfl⟩
 case assign x=>cases h;exact⟨_,_,rfl⟩
 case load t a=>
  unfold tD at h;(repeat' split at h)<;>first|(cases h;exact⟨_,_,rfl⟩)|(simp at h;done)|exact CA h|skip
  all_goals (obtain⟨_,h⟩:=az h;(repeat' split at h)<;>first|(cases h;exact⟨_,_,rfl⟩)|simp at h)
 case fieldAddr s x f=>
  unfold ki at h
  split at h
  case h_2=>simp at h
  split at h
  case h_2=>simp at h
  split at h
  case h_2=>simp at h
  rename_i ti _
  cases h0:Nat.beq ti.size 0<;>rw[h0] at h<;>simp only[cond_true,cond_false,reduceCtorEq] at h
  (repeat' split at h)<;>first|(cases h;exact⟨_,_,rfl⟩)|(simp at h;done)|(have h:=(az h).2;cases h;exact⟨_,_,rfl⟩)
 case field s x f=>unfold tL at h;(repeat' split at h)<;>first|(cases h;exact⟨_,_,rfl⟩)|simp at h
 case nilCheck x=>unfold EC at h;(repeat' split at h)<;>first|(cases h;exact⟨_,_,rfl⟩)|(simp at h;done)|(have h:=(az h).2;cases h;exact⟨_,_,rfl⟩)
 case binOp op t x y yt=>
  unfold E9 at h;split at h
  ·split at h<;>first|(cases h;exact⟨_,_,rfl⟩)|simp at h
  ·have h:=(bS h).2
   (repeat' split at h)<;>first|(cases h;exact⟨_,_,rfl⟩)|simp at h
  ·(repeat' split at h)<;>first|(cases h;exact⟨_,_,rfl⟩)|simp at h
  ·simp at h
 case unOp op t x=>unfold Rj at h;(repeat' split at h)<;>first|(cases h;exact⟨_,_,rfl⟩)|simp at h
 case extract t i=>unfold FI at h;(repeat' split at h)<;>first|(cases h;exact⟨_,_,rfl⟩)|simp at h
 case index t x i=>unfold oH at h;(repeat' split at h)<;>first|(cases h;exact⟨_,_,rfl⟩)|simp at h
 case indexAddr t x i=>unfold yT Ri at h;(repeat' split at h)<;>first|(cases h;exact⟨_,_,rfl⟩)|(simp at h;done)|(have h:=(az h).2;cases h;exact⟨_,_,rfl⟩)
omit [aq] in
theorem Bz {Hh:Heap}{id:Nat}{o:Oper}{e:AM}(hs:gM o.op=true)(h:dZ P C ops Hh id o σ=some e):e.sets=[]:=by
 unfold dZ at h
 cases hw:want ops σ o with
 | none=>rw[hw] at h;simp at h
 | some b=>
  rw[hw] at h
  cases b with
  | false=>simp only[Option.some.injEq] at h;subst h;rfl
  | true=>
   simp only at h
   unfold bz at h
   cases hz:i7 C id o with
   | true=>
    rw[hz] at h
    simp only[cond_true] at h
    split at h
    ·obtain⟨_,rfl⟩:=ah h;rfl
    ·simp at h
   | false=>
   rw[hz] at h
   simp only[cond_false] at h
   unfold bA at h
   cases hsm:sem P Hh id o σ.val with
   | none=>rw[hsm] at h;simp at h
   | some out=>
    obtain⟨c,v,rfl⟩:=EK hs hsm
    rw[hsm] at h
    simp only at h
    obtain⟨_,rfl⟩:=ah h
    rfl
structure sB (T:Nat→Prop)(σ σ':St):Prop where
 nt:σ'.nt=σ.nt
 heap:σ'.heap=σ.heap
 tmp:∀ t,¬ T t→σ'.tmps t=σ.tmps t
omit [aq] in
theorem sB.refl {T:Nat→Prop}{σ:St}:sB T σ σ:=⟨rfl,rfl,fun _ _=>rfl⟩
omit [aq] in
theorem sB.mono {T T':Nat→Prop}{σ σ':St}(h:sB T σ σ')(hT:∀ t,T t→T' t):sB T' σ σ':=⟨h.nt,h.heap,fun t ht=>h.tmp t fun k=>ht (hT t k)⟩
omit [aq] in
theorem D9 {T:Nat→Prop}{id:Nat}{dst:Option Tmp}{e:AM}(hO:sB T σ σ')(h:σ.zA id dst e=some τ):∃ τ',σ'.zA id dst e=some τ'∧sB (fun t=>T t∧dst≠some t) τ τ':=by
 obtain⟨h1,h2⟩:=jM h
 cases dst with
 | none=>
  simp only[St.put,St.with,Option.some.injEq] at h2;subst h2
  refine⟨⟨σ'.nt,σ'.tmps,aY σ.heap e.sets,σ'.ids⟩,vM (fun hn=>by rw[hO.heap];exact h1 hn) (by simp only[St.put,St.with,hO.heap]),⟨hO.nt,rfl,fun t ht=>hO.tmp t fun k=>ht ⟨k,by simp⟩⟩⟩
 | some d=>
  obtain⟨c,rfl⟩:=ah h2
  refine⟨⟨σ'.nt,aM σ'.tmps d e.v,aY σ.heap e.sets,σ'.ids⟩,vM (fun hn=>by rw[hO.heap];exact h1 hn) ?_,⟨hO.nt,rfl,fun t ht=>?_⟩⟩
  ·simp only[St.put,St.with] at c ⊢
   rw[hO.nt,c,hO.heap];rfl
  ·simp only[St.with]
   by_cases e:t=d
   ·subst e;rw[au,au]
   ·rw[ax _ _ e,ax _ _ e]
    exact hO.tmp t fun k=>ht ⟨k,fun x=>e (by cases x;rfl)⟩
omit [aq] in
theorem Dk {T:Nat→Prop}{i:Nat}{o:Oper}(ho:ops[i]? = some o)(hO:sB T σ σ')(hl:∀ t∈o.looksAt ops,¬ T t)(h:sE P C ops m W base i σ=some τ) :
  ∃ τ',sE P C ops m W base i σ'=some τ'∧sB (fun t=>T t∧o.dst≠some t) τ τ':=by
 unfold sE at h ⊢
 obtain⟨h0,h⟩:=az h
 have ht:∀ t,t∈o.looksAt ops→σ'.tmps t=σ.tmps t:=fun t k=>hO.tmp t (hl t k)
 rw[iL ho hO.nt ht,h0]
 rw[dF ho] at h ⊢
 rw[hO.heap,iX (H:=bK base ops.size (m.getD i 0) (k7 m W ops.size i) σ.heap) hO.nt ht (fun _=>rfl)]
 cases he:dZ P C ops (bK base ops.size (m.getD i 0) (k7 m W ops.size i) σ.heap) (base+i * 16) o σ with
 | none=>rw[he] at h;simp at h
 | some e=>
  rw[he] at h
  simp only[cond_true] at h ⊢
  exact D9 hO h
omit [aq] in
theorem ug {i:Nat}{o:Oper}(ho:ops[i]? = some o)(hs:gM o.op=true)(h:sE P C ops m W base i σ=some τ):τ.nt=σ.nt∧τ.heap=σ.heap∧τ.ids=σ.ids∧∀ t,o.dst≠some t→τ.tmps t=σ.tmps t:=by
 unfold sE at h
 obtain⟨_,h⟩:=az h
 rw[dF ho] at h
 cases he:dZ P C ops (bK base ops.size (m.getD i 0) (k7 m W ops.size i) σ.heap) (base+i * 16) o σ with
 | none=>rw[he] at h;simp at h
 | some e=>
  rw[he] at h
  simp only at h
  obtain⟨h1,h2⟩:=jM h
  obtain⟨f1,f2,f3⟩:=nY h2
  refine⟨f1,by rw[f2,Bz hs he];rfl,?_,f3⟩
  have:=(gj h2).2
  exact this
omit [aq] in
theorem kw:∀ (l:List Nat) (σ τ:St),(∀ i∈l,∃ o,ops[i]? = some o∧gM o.op=true)→cE P C ops m W base l σ=some τ →
  sB (fun t=>∃ i∈l,eg ops i=some t) τ σ∧τ.ids=σ.ids
 | [],σ,τ,_,h=>by
  simp only[cE,Option.some.injEq] at h;subst h
  exact⟨sB.refl,rfl⟩
 | i::l,σ,τ,hs,h=>by
  simp only[cE] at h
  split at h
  case h_2=>simp at h
  rename_i σ1 h1
  obtain⟨o,ho,hst⟩:=hs i (by simp)
  obtain⟨f1,f2,f3,f4⟩:=ug ho hst h1
  obtain⟨g,g2⟩:=kw l σ1 τ (fun j hj=>hs j (by simp[hj])) h
  refine⟨⟨by rw[← f1,g.nt],by rw[← f2,g.heap],fun t ht=>?_⟩,by rw[g2,f3]⟩
  rw[← g.tmp t fun⟨j,hj,hd⟩=>ht ⟨j,by simp[hj],hd⟩]
  refine (f4 t fun hd=>ht ⟨i,by simp,?_⟩).symm
  unfold eg;rw[ho];exact hd
omit [aq] in
theorem kS {i u t:Nat}{o:Oper}(ho:ops[i]? = some o)(hb:fL ops i u=true)(hd:eg ops u=some t):t∉o.looksAt ops:=by
 unfold eg at hd
 split at hd
 case h_2=>simp at hd
 rename_i ou hu
 unfold fL at hb
 rw[ho,hu] at hb
 simp only[blind,hd] at hb
 intro ht
 unfold sF at hb
 simp only[Bool.not_eq_true',List.any_eq_false] at hb
 exact hb t ht (Nat.beq_refl t)
structure sU (ops:Array Oper)(m:List Nat)(z:Nat):Prop where
 still:∀ u o,ops[u]? = some o→oe m z u=true→gM o.op=true
 call:∀ u,u<ops.size→oe m z u=true→fL ops z u=true
 back:∀ u,u<ops.size→oe m z u=true→∀ i,i≤u→Av m z i=true→fL ops i u=true
omit [aq] in
theorem qZ (h:D6 ops m z=true):sU ops m z:=by
 unfold D6 at h
 simp only[List.all_eq_true,List.mem_range,Bool.or_eq_true,Bool.not_eq_true',Bool.and_eq_true] at h
 have key:∀ u,u<ops.size→oe m z u=true→(uB ops u=true∧fL ops z u=true)∧∀ i,i<u+1→Av m z i=false∨fL ops i u=true:=by
  intro u hu hU
  rcases h u hu with h|h
  ·rw[hU] at h;simp at h
  ·exact h
 refine⟨fun u o ho hU=>?_,fun u hu hU=>(key u hu hU).1.2,fun u hu hU i hi hB=>?_⟩
 ·have:=(key u (Array.getElem?_eq_some_iff.1 ho).1 hU).1.1
  unfold uB at this
  rw[ho] at this
  exact this
 ·rcases (key u hu hU).2 i (by omega) with h|h
  ·rw[hB] at h;simp at h
  ·exact h
omit [aq] in
theorem qD (hM:sU ops m z)(und:Nat→Bool):∀ (l:List Nat) (σ σ' τ:St),l.Pairwise (· < ·)→(∀ i∈l,i<ops.size∧Av m z i=true)→(∀ i∈l,oe m z i=false→und i=true) →
  sB (fun t=>∃ u∈l,oe m z u=true∧und u=true∧eg ops u=some t) σ σ'→oI P C ops m W base z l σ=some τ →
  ∃ τ',cE P C ops m W base (l.filter und) σ'=some τ'∧sB (fun _=>False) τ τ'
 | [],σ,σ',τ,_,_,_,hO,h=>by
  simp only[oI,Option.some.injEq] at h;subst h
  exact⟨σ',rfl,hO.mono fun t ⟨u,hu,_⟩=>by simp at hu⟩
 | i::l,σ,σ',τ,hp,hl,hd,hO,h=>by
  simp only[oI] at h
  split at h
  case h_2=>simp at h
  rename_i σ1 h1
  have hp2:=List.pairwise_cons.1 hp
  have hin:=(hl i (by simp)).1
  have ho:ops[i]? = some ops[i]:=by simp[hin]
  have hlook:∀ t∈ops[i].looksAt ops,¬ ∃ u∈i::l,oe m z u=true∧und u=true∧eg ops u=some t:=by
   rintro t ht ⟨u,hu,hU,_,hdu⟩
   have hle:i≤u:=by
    rcases List.mem_cons.1 hu with rfl|hu
    ·exact Nat.le_refl _
    ·exact Nat.le_of_lt (hp2.1 u hu)
   exact kS ho (hM.back u (hl u hu).1 hU i hle (hl i (by simp)).2) hdu ht
  have hdst:eg ops i=ops[i].dst:=by unfold eg;rw[ho]
  have rest:=fun σ σ' hO h=>qD hM und l σ σ' τ hp2.2 (fun j hj=>hl j (by simp[hj])) (fun j hj=>hd j (by simp[hj])) hO h
  cases hU:oe m z i with
  | true=>
   rw[hU] at h
   obtain⟨hsame,h⟩:=az h
   cases hu:und i with
   | false=>
    rw[List.filter_cons_of_neg (by rw[hu];simp)]
    refine rest σ σ' (hO.mono ?_) h
    rintro t ⟨u,hm,q1,q2,q3⟩
    rcases List.mem_cons.1 hm with rfl|hm
    ·rw[hu] at q2;simp at q2
    ·exact⟨u,hm,q1,q2,q3⟩
   | true=>
    rw[List.filter_cons_of_pos (by exact hu)]
    obtain⟨σ1',k1,k2⟩:=Dk ho hO hlook h1
    obtain⟨f1,f2,f3,f4⟩:=ug ho (hM.still i _ ho hU) h1
    simp only[cE,k1]
    refine rest σ σ1' ⟨by rw[k2.nt,f1],by rw[k2.heap,f2],fun t ht=>?_⟩ h
    have hT:¬ ((∃ u∈i::l,oe m z u=true∧und u=true∧eg ops u=some t)∧ops[i].dst≠some t):=by
     rintro ⟨⟨u,hm,q1,q2,q3⟩,q4⟩
     rcases List.mem_cons.1 hm with rfl|hm
     ·exact q4 (by rw[← hdst];exact q3)
     ·exact ht ⟨u,hm,q1,q2,q3⟩
    rw[k2.tmp t hT]
    by_cases e:ops[i].dst=some t
    ·unfold pX at hsame
     rw[hdst,e] at hsame
     exact yj _ _ hsame
    ·exact f4 t e
  | false=>
   rw[hU] at h
   simp only[cond_false] at h
   rw[List.filter_cons_of_pos (by exact hd i (by simp) hU)]
   obtain⟨σ1',k1,k2⟩:=Dk ho hO hlook h1
   simp only[cE,k1]
   refine rest σ1 σ1' (k2.mono ?_) h
   rintro t ⟨⟨u,hm,q1,q2,q3⟩,q4⟩
   rcases List.mem_cons.1 hm with rfl|hm
   ·rw[hU] at q1;simp at q1
   ·exact⟨u,hm,q1,q2,q3⟩
section
variable {T:Nat→Prop}{i:Nat}{o:Oper}{hide:Heap→Heap}{id:Nat}
omit [aq] in
theorem tZ (ho:ops[i]? = some o)(hO:sB T σ σ')(hl:∀ t∈o.looksAt ops,¬ T t)(Hh:Heap):bz P C Hh id o σ'.val=bz P C Hh id o σ.val∧(∀ H L,dn P C F Hh id o σ'.val H L=dn P C F Hh id o σ.val H L)∧(∀ x∈o.op.operands,σ'.val x=σ.val x):=by
 have hx:∀ x∈o.op.operands,σ'.val x=σ.val x:=fun x hx=>val_congr hO.nt fun t e=>by
  subst e
  refine hO.tmp t (hl t ?_)
  unfold Oper.looksAt
  exact List.mem_append.2 (.inl (List.mem_filterMap.2 ⟨.tmp t,by simpa using hx,rfl⟩))
 refine⟨py hx,fun H L=>?_,hx⟩
 unfold dn
 rw[nS hx]
omit [aq] in
theorem ya (ho:ops[i]? = some o)(hO:sB T σ σ')(hids:σ'.ids=σ.ids)(hl:∀ t∈o.looksAt ops,¬ T t)(h:ez P C F ops hide id i σ=some τ) :
  ∃ τ',ez P C F ops hide id i σ'=some τ'∧sB T τ τ':=by
 unfold ez at h ⊢
 rw[ho] at h ⊢
 simp only at h ⊢
 rw[j9 hO.nt fun t k=>hO.tmp t (hl t k),hO.heap,hids]
 obtain⟨e1,e2,_⟩:=tZ (P:=P) (C:=C) (F:=F) (id:=id) ho hO hl (hide σ.heap)
 have put:∀ {H:Heap} {L:List Nat} {v:AV},(⟨σ.nt,σ.tmps,H,L⟩:St).put o.dst v=some τ→∃ τ',(⟨σ'.nt,σ'.tmps,H,L⟩:St).put o.dst v=some τ'∧sB T τ τ':=by
  intro H L v h
  cases hd:o.dst with
  | none=>
   rw[hd] at h
   simp only[St.put,Option.some.injEq] at h;subst h
   exact⟨_,rfl,hO.nt,rfl,hO.tmp⟩
  | some d=>
   rw[hd] at h
   obtain⟨c,rfl⟩:=ah h
   simp only at c
   refine⟨⟨σ'.nt,aM σ'.tmps d v,H,L⟩,by simp only[St.put];rw[hO.nt,c];rfl,hO.nt,rfl,fun t ht=>?_⟩
   by_cases e:t=d
   ·subst e;simp only[au]
   ·simp only[ax _ _ e];exact hO.tmp t ht
 cases hw:want ops σ o with
 | none=>rw[hw] at h;simp at h
 | some b=>
  rw[hw] at h
  cases b with
  | false=>obtain⟨nt',tm',hp',id'⟩:=σ';obtain⟨nt0,tm0,hp0,id0⟩:=σ;simp only at hids;have:=hO.heap;simp only at this;subst hids;subst this;exact put h
  | true=>
   simp only at h ⊢
   rw[e1,e2]
   cases he:bz P C (hide σ.heap) id o σ.val with
   | some e=>
    rw[he] at h
    simp only at h ⊢
    obtain⟨τ',k1,k2⟩:=D9 hO h
    exact⟨τ',k1,k2.mono fun t h=>h.1⟩
   | none=>
    rw[he] at h
    simp only at h ⊢
    cases hi:dn P C F (hide σ.heap) id o σ.val σ.heap σ.ids with
    | none=>rw[hi] at h;simp at h
    | some p=>
     obtain⟨v,H',L'⟩:=p
     rw[hi] at h
     simp only at h ⊢
     cases hp:v.cT with
     | true=>rw[hp] at h;simp at h
     | false=>
      rw[hp] at h
      simp only[cond_false] at h ⊢
      exact put h
omit [aq] in
theorem tF (ho:ops[i]? = some o)(hO:sB T σ σ')(hids:σ'.ids=σ.ids)(hl:∀ t∈o.looksAt ops,¬ T t):dA P C F ops hide id i σ'=dA P C F ops hide id i σ:=by
 unfold dA
 rw[ho]
 simp only
 rw[j9 hO.nt fun t k=>hO.tmp t (hl t k),hO.heap,hids]
 obtain⟨e1,e2,e3⟩:=tZ (P:=P) (C:=C) (F:=F) (id:=id) ho hO hl (hide σ.heap)
 rw[e1,e2]
 cases hop:o.op with
 | panic x=>simp only;rw[e3 x (by rw[hop];simp[Op.operands])]
 | _=>rfl
end
def gy (m:List Nat)(n z:Nat)(L:Array Bool):List Nat:=(rem n L).filter (xH m z)
omit [aq] in
theorem sR {n:Nat}{f:Nat→Bool}:(List.filter f (List.range n)).Pairwise (· < ·):=List.Pairwise.filter _ List.pairwise_lt_range
theorem G5 (hC:bI P C)(hF:cy P F){r:Option Nat}{N:ar}{Dt:Bool×List Deferred}{B:Nat}{w0:World}{Q:Exit→Act→World→Prop}(hr:yQ P C ops m)(hM:sU ops m z)
  (hzn:z<ops.size) {σA:St} {L0:List Nat} {e:Ex} (hfin:rW P C F ops m W base z (σA.ay L0)=some (e,σ')) (hB:Bd (σA.ay L0)) :
  ∀ (fuel:Nat) (L:Array Bool) (σ:St) (a:Act) (w:World) (μ:Mu) (S:ar),L.size=ops.size→L.getD z true=false→(rem ops.size L).length≤fuel→j4 m L →
   cE P C ops m W base (gy m ops.size z L) σ=some σA→AR N Dt μ S σ a→Rel μ S σ.heap B w0 w →
   (∀ a' w' μ' S' x,AR N Dt μ' S' σ' a'→Rel μ' S' σ'.heap B w0 w'→Carry B μ S σ.heap μ' S' σ'.heap→e.Is μ' S' σ'.heap x→Q x a' w') →
   wpAnyIn (WF r) 0 P .any ops Q fuel L a w:=by
 intro fuel
 induction fuel with
 | zero=>
  intro L σ a w μ S hs hz hf
  exfalso
  have hnil:rem ops.size L=[]:=List.eq_nil_of_length_eq_zero (by omega)
  have:z∈rem ops.size L:=List.mem_filter.2 ⟨List.mem_range.2 hzn,by rw[hz];rfl⟩
  rw[hnil] at this;simp at this
 | succ fuel ih=>
  intro L σ a w μ S hs hz hf hcl h A R hK
  refine⟨fun hrd=>?_,fun i hi=>?_⟩
  ·
   exfalso
   have all:∀ i,i<ops.size→L.getD i true=true:=by
    intro i
    induction i using Nat.strongRecOn with
    | _ i ih2=>
     intro hi
     cases hd:L.getD i true with
     | true=>rfl
     | false=>
      have ho:ops[i]? = some ops[i]:=by simp[hi]
      have:=mL ho hd fun e he hb=>by
       have hlt:=hr.LN i _ ho e he hb
       have:=ih2 e.on hlt (by omega)
       have hsz:e.on<L.size:=by omega
       simpa [Array.getD_eq_getD_getElem?,hsz] using this
      rw[hrd] at this;simp at this
   rw[all z hzn] at hz;simp at hz
  ·obtain⟨hin,hli,oi,hoi,hed⟩:=dR hi
   have hsz:i<L.size:=by omega
   have ahead:∀ x,Nat.testBit (m.getD i 0) x=true→L.getD x false=true:=by
    intro x hb
    rw[hr.mask i oi hoi] at hb
    rcases bO m x _ _ hb with h0|⟨e,he,hbd,h0⟩
    ·simp at h0
    ·have hle:=hed e he hbd
     rcases h0 with rfl|h0
     ·exact hle
     ·exact hcl e.on hle x h0
   have hcl2:j4 m (L.setIfInBounds i true):=by
    intro j hj x hx
    rw[bu false hsz] at hj ⊢
    by_cases e:x=i
    ·rw[if_pos e]
    ·rw[if_neg e]
     by_cases ej:j=i
     ·subst ej;exact ahead x hx
     ·rw[if_neg ej] at hj
      exact hcl j hj x hx
   obtain⟨p,s,e1,e2,hp⟩:=gu hs hin hli
   have hf2:(rem ops.size (L.setIfInBounds i true)).length≤fuel:=by
    rw[e1] at hf;rw[e2];simp at hf ⊢;omega
   by_cases hiz:i=z
   ·
    subst hiz
    have doneT:∀ x,x<ops.size→Nat.testBit (m.getD i 0) x=true→L.getD x true=true:=by
     intro x hx hb
     have:=ahead x hb
     have hsz:x<L.size:=by omega
     simpa [Array.getD_eq_getD_getElem?,hsz] using this
    have hRU:∀ x∈gy m ops.size i L,x<ops.size∧oe m i x=true:=by
     intro x hx
     obtain⟨h1,h2⟩:=List.mem_filter.1 hx
     obtain⟨h3,h4⟩:=List.mem_filter.1 h1
     have hxn:=List.mem_range.1 h3
     refine⟨hxn,?_⟩
     unfold xH at h2
     unfold oe
     simp only[Bool.and_eq_true,Bool.not_eq_true'] at h2 h4 ⊢
     refine⟨⟨h2.1,?_⟩,h2.2⟩
     cases hb:Nat.testBit (m.getD i 0) x with
     | false=>rfl
     | true=>rw[doneT x hxn hb] at h4;simp at h4
    obtain⟨hO0,hids⟩:=kw _ σ σA (fun x hx=>by
     have hx2:=hRU x hx
     exact⟨ops[x],by simp[hx2.1],hM.still x _ (by simp[hx2.1]) hx2.2⟩) h
    have hO:sB (fun t=>∃ u∈gy m ops.size i L,eg ops u=some t) (σA.ay L0) (σ.ay L0):=⟨hO0.nt,hO0.heap,hO0.tmp⟩
    have hids2:(σ.ay L0).ids=(σA.ay L0).ids:=by simp only[St.ay,hids]
    have hlook:∀ t∈oi.looksAt ops,¬ ∃ u∈gy m ops.size i L,eg ops u=some t:=by
     rintro t ht ⟨u,hu,hd⟩
     have hu2:=hRU u hu
     exact kS hoi (hM.call u hu2.1 hu2.2) hd ht
    have hBσ:Bd (σ.ay L0):=by
     intro q hq
     rw[hids2]
     refine hB q ?_
     rw[← hO.heap];exact hq
    unfold rW at hfin
    split at hfin
    ·rename_i y H1 L1 hpan
     cases hfin
     rw[← tF hoi hO hids2 hlook] at hpan
     refine iT hF hpan hBσ A.ay R fun w2 μ2 S2 u A2 R2 C2 hv=>hK a w2 μ2 S2 _ ⟨A2.defers,?_,fun t ht=>?_⟩ R2 C2 ⟨u,rfl,hv⟩
     ·rw[A2.size];exact hO.nt
     ·have hnt:(σ.ay L0).nt=(σA.ay L0).nt:=hO.nt
      have:=A2.tmp t (by simp only at ht ⊢;rw[hnt];exact ht)
      simp only[uj]
      cases hu:qV ops m i t with
      | true=>simp only[cond_true,VR]
      | false=>
       simp only[cond_false]
       rw[← hO.tmp t ?_];exact this
       rintro ⟨u,hu',hd⟩
       have hu2:=hRU u hu'
       have:qV ops m i t=true:=by
        unfold qV
        rw[List.any_eq_true]
        exact⟨u,List.mem_range.2 hu2.1,by rw[hu2.2,hd];simp⟩
       rw[hu] at this;simp at this
    ·split at hfin
     case h_2=>simp at hfin
     rename_i σ2 hop
     split at hfin
     case h_2=>simp at hfin
     rename_i σ3 hre
     cases hfin
     obtain⟨σ2',hop',hO2⟩:=ya hoi hO hids2 hlook hop
     refine eM hC hF (fun H i o h=>h) hop' (.inl hBσ) A.ay R fun a2 w2 μ2 S2 A2 R2 C2=>?_
     have hund:(tf m i ops.size).filter (fun x=>!(L.setIfInBounds i true).getD x true)=rem ops.size (L.setIfInBounds i true):=by
      unfold tf rem
      rw[List.filter_filter]
      refine List.filter_congr fun x hx=>?_
      have hxn:=List.mem_range.1 hx
      rw[bu true hsz]
      by_cases e:x=i
      ·rw[if_pos e];rfl
      ·rw[if_neg e]
       cases hd:L.getD x true with
       | true=>rfl
       | false=>
        simp only[Bool.not_false,Bool.true_and,Av,Bool.and_eq_true,Bool.not_eq_true']
        refine⟨?_,?_⟩
        ·cases hb:Nat.beq x i with
         | false=>rfl
         | true=>exact absurd (Nat.eq_of_beq_eq_true hb) e
        ·cases hb:Nat.testBit (m.getD i 0) x with
         | false=>rfl
         | true=>rw[doneT x hxn hb] at hd;simp at hd
     obtain⟨σ3',k1,k2⟩:=qD (P:=P) (C:=C) (W:=W) (base:=base) hM (fun x=>!(L.setIfInBounds i true).getD x true) (tf m i ops.size) (σ2.ay (cU P C ops (σA.ay L0).heap (base+i * 16) i (σA.ay L0))) (σ2'.ay []) σ3 sR (fun x hx=>by
       obtain⟨h1,h2⟩:=List.mem_filter.1 hx
       exact⟨List.mem_range.1 h1,h2⟩) (fun x hx hU=>by
       obtain⟨h1,h2⟩:=List.mem_filter.1 hx
       have hxn:=List.mem_range.1 h1
       have hxi:x≠i:=by
        intro e;subst e
        unfold Av at h2
        simp at h2
       have hb:Nat.testBit (m.getD x 0) i=true:=by
        unfold Av at h2
        unfold oe at hU
        cases hb:Nat.testBit (m.getD x 0) i with
        | true=>rfl
        | false=>rw[h2,hb] at hU;simp at hU
       rw[bu true hsz,if_neg hxi]
       cases hd:L.getD x true with
       | false=>rfl
       | true=>
        exfalso
        have hxs:x<L.size:=by omega
        have h3:=hcl x (by simpa [Array.getD_eq_getD_getElem?,hxs] using hd) i hb
        have h4:L.getD i true=true:=by simpa [Array.getD_eq_getD_getElem?,hsz] using h3
        rw[h4] at hz;simp at hz) (sB.mono (T:=fun t=>∃ u∈gy m ops.size i L,eg ops u=some t) ⟨hO2.nt,hO2.heap,hO2.tmp⟩ (by
       rintro t ⟨u,hu,hd⟩
       have hu2:=hRU u hu
       obtain⟨h1,_⟩:=List.mem_filter.1 hu
       obtain⟨_,h4⟩:=List.mem_filter.1 h1
       have hne:u≠i:=by
        intro e;subst e
        have:=hu2.2
        unfold oe at this
        simp at this
       refine⟨u,List.mem_filter.2 ⟨List.mem_range.2 hu2.1,?_⟩,hu2.2,?_,hd⟩
       ·have:=hu2.2
        unfold oe at this
        unfold Av
        simp only[Bool.and_eq_true] at this ⊢
        exact this.1
       ·rw[bu true hsz,if_neg hne];exact h4)) hre
     rw[hund] at k1
     refine yC hC hr fuel _ (σ2'.ay []) a2 w2 μ2 S2 (by simp[hs]) hf2 hcl2 k1 A2.ay R2 fun a3 w3 μ3 S3 A3 R3 C3=>?_
     have hheap:σ3'.heap=σ3.heap:=k2.heap
     rw[hheap] at R3 C3
     refine hK a3 w3 μ3 S3 _ ⟨A3.defers,by rw[A3.size];exact k2.nt,fun t ht=>?_⟩ R3 (C2.trans C3) rfl
     have:=A3.tmp t (by rw[k2.nt];exact ht)
     rw[hheap,k2.tmp t (fun h=>h)] at this
     exact this
   ·
    have hAi:xH m z i=true:=by
     unfold xH
     simp only[Bool.and_eq_true,Bool.not_eq_true']
     refine⟨?_,?_⟩
     ·cases hb:Nat.beq i z with
      | true=>exact absurd (Nat.eq_of_beq_eq_true hb) hiz
      | false=>rfl
     ·cases hb:Nat.testBit (m.getD i 0) z with
      | false=>rfl
      | true=>
       exfalso
       have h3:=ahead z hb
       have hzs:z<L.size:=by omega
       have h4:L.getD z true=true:=by simpa [Array.getD_eq_getD_getElem?,hzs] using h3
       rw[h4] at hz;simp at hz
    have f1:gy m ops.size z L=(p.filter (xH m z))++i::(s.filter (xH m z)):=by
     unfold gy
     rw[e1,List.filter_append,List.filter_cons_of_pos (by exact hAi)]
    have f2:gy m ops.size z (L.setIfInBounds i true)=(p.filter (xH m z))++(s.filter (xH m z)):=by
     unfold gy
     rw[e2,List.filter_append]
    rw[f1] at h
    have hind:∀ x∈(p.filter (xH m z)),x≠i∧∃ ox,ops[x]? = some ox∧indep P C ops m x i ox oi=true:=by
     intro x hx
     have hx:=(List.mem_filter.1 hx).1
     obtain⟨hlt,hlx⟩:=hp x hx
     have hox:ops[x]? = some ops[x]:=by simp[show x<ops.size from by omega]
     refine⟨by omega,_,hox,?_⟩
     rcases hr.pair x i hlt _ _ hox hoi with hb|hb
     ·exfalso
      have hLx:=ahead x hb
      have hsz:x<L.size:=by omega
      simp[Array.getD_eq_getD_getElem?,hsz] at hLx hlx
      rw[hLx] at hlx;simp at hlx
     ·exact hb
    obtain⟨σ1,k1,k2⟩:=front hoi _ _ σ hind h
    unfold sE at k1
    obtain⟨_,k1⟩:=az k1
    refine eM hC (F:=cW) (fun _ _ _ _ _ _ _ _ h=>by simp[cW] at h) (fun H j o h=>(dJ h).2.1) k1 (.inr rfl) A R fun a1 w1 μ1 S1 A1 R1 C1=>?_
    refine ih (L.setIfInBounds i true) σ1 a1 w1 μ1 S1 (by simp[hs]) ?_ hf2 hcl2 (by rw[f2];exact k2) A1 R1 (fun a' w' μ' S' x A' R' C' hx=>hK a' w' μ' S' x A' R' (C1.trans C') hx)
    rw[bu true hsz,if_neg (fun e=>hiz e.symm)];exact hz
omit [aq] in
theorem mG:∀ (l:List Nat) (σ σ':St) (L:List Nat),oI P C ops m W base z l σ=some σ'→Bd (σ.ay L)→Bd (σ'.ay (L++gx P C ops m W base z l σ))
 | [],σ,σ',L,h,hB=>by
  simp only[oI,Option.some.injEq] at h;subst h
  intro q hq
  have:=hB q hq
  simpa [gx,St.ay] using this
 | i::l,σ,σ',L,h,hB=>by
  simp only[oI] at h
  split at h
  case h_2=>simp at h
  rename_i σ1 h1
  have one:=eF (P:=P) (C:=C) (ops:=ops) (m:=m) (W:=W) (base:=base) [i] σ σ1 L (by simp only[cE,h1]) hB
  cases hU:oe m z i with
  | true=>
   rw[hU] at h
   obtain⟨_,h⟩:=az h
   have:=mG l σ σ' L h hB
   simp only[gx,h1,hU,cond_true]
   exact this
  | false=>
   rw[hU] at h
   simp only[cond_false] at h
   have:=mG l σ1 σ' _ h one
   simp only[gx,h1,hU,cond_false]
   simp only[cY,h1,List.append_nil] at this
   rw[← List.append_assoc];exact this
theorem Fk (hC:bI P C)(hF:cy P F){r:Option Nat}{N:ar}{Dt:Bool×List Deferred}{B:Nat}{w0:World}{Q:Exit→Act→World→Prop}(hr:yQ P C ops m)(hM:sU ops m z)
  {z2:Nat} (hzn:z<z2) (sC:z2+1=ops.size) (hfull:∀ x,x<z2→Nat.testBit (m.getD z2 0) x=true) {σA:St} {L0:List Nat} {e:Ex} (hfin:mY P C F ops m W base z z2 (σA.ay L0)=some (e,σ')) (hB:Bd (σA.ay L0)) :
  ∀ (fuel:Nat) (L:Array Bool) (σ:St) (a:Act) (w:World) (μ:Mu) (S:ar),L.size=ops.size→L.getD z true=false→(rem ops.size L).length≤fuel→j4 m L →
   cE P C ops m W base (gy m ops.size z L) σ=some σA→AR N Dt μ S σ a→Rel μ S σ.heap B w0 w →
   (∀ a' w' μ' S' x,AR N Dt μ' S' σ' a'→Rel μ' S' σ'.heap B w0 w'→Carry B μ S σ.heap μ' S' σ'.heap→e.Is μ' S' σ'.heap x→Q x a' w') →
   wpAnyIn (WF r) 0 P .any ops Q fuel L a w:=by
 have hzn':z<ops.size:=by omega
 have hz2o:ops[z2]? = some ops[z2]:=by simp[show z2<ops.size by omega]
 intro fuel
 induction fuel with
 | zero=>
  intro L σ a w μ S hs hz hf
  exfalso
  have hnil:rem ops.size L=[]:=List.eq_nil_of_length_eq_zero (by omega)
  have:z∈rem ops.size L:=List.mem_filter.2 ⟨List.mem_range.2 hzn',by rw[hz];rfl⟩
  rw[hnil] at this;simp at this
 | succ fuel ih=>
  intro L σ a w μ S hs hz hf hcl h A R hK
  refine⟨fun hrd=>?_,fun i hi=>?_⟩
  ·
   exfalso
   have all:∀ i,i<ops.size→L.getD i true=true:=by
    intro i
    induction i using Nat.strongRecOn with
    | _ i ih2=>
     intro hi
     cases hd:L.getD i true with
     | true=>rfl
     | false=>
      have ho:ops[i]? = some ops[i]:=by simp[hi]
      have:=mL ho hd fun e he hb=>by
       have hlt:=hr.LN i _ ho e he hb
       have:=ih2 e.on hlt (by omega)
       have hsz:e.on<L.size:=by omega
       simpa [Array.getD_eq_getD_getElem?,hsz] using this
      rw[hrd] at this;simp at this
   rw[all z hzn'] at hz;simp at hz
  ·obtain⟨hin,hli,oi,hoi,hed⟩:=dR hi
   have hsz:i<L.size:=by omega
   have ahead:∀ x,Nat.testBit (m.getD i 0) x=true→L.getD x false=true:=by
    intro x hb
    rw[hr.mask i oi hoi] at hb
    rcases bO m x _ _ hb with h0|⟨e,he,hbd,h0⟩
    ·simp at h0
    ·have hle:=hed e he hbd
     rcases h0 with rfl|h0
     ·exact hle
     ·exact hcl e.on hle x h0
   have hcl2:j4 m (L.setIfInBounds i true):=by
    intro j hj x hx
    rw[bu false hsz] at hj ⊢
    by_cases e:x=i
    ·rw[if_pos e]
    ·rw[if_neg e]
     by_cases ej:j=i
     ·subst ej;exact ahead x hx
     ·rw[if_neg ej] at hj
      exact hcl j hj x hx
   obtain⟨p,s,e1,e2,hp⟩:=gu hs hin hli
   have hf2:(rem ops.size (L.setIfInBounds i true)).length≤fuel:=by
    rw[e1] at hf;rw[e2];simp at hf ⊢;omega
   by_cases hiz:i=z
   ·
    subst hiz
    have doneT:∀ x,x<ops.size→Nat.testBit (m.getD i 0) x=true→L.getD x true=true:=by
     intro x hx hb
     have:=ahead x hb
     have hsz:x<L.size:=by omega
     simpa [Array.getD_eq_getD_getElem?,hsz] using this
    have hRU:∀ x∈gy m ops.size i L,x<ops.size∧oe m i x=true:=by
     intro x hx
     obtain⟨h1,h2⟩:=List.mem_filter.1 hx
     obtain⟨h3,h4⟩:=List.mem_filter.1 h1
     have hxn:=List.mem_range.1 h3
     refine⟨hxn,?_⟩
     unfold xH at h2
     unfold oe
     simp only[Bool.and_eq_true,Bool.not_eq_true'] at h2 h4 ⊢
     refine⟨⟨h2.1,?_⟩,h2.2⟩
     cases hb:Nat.testBit (m.getD i 0) x with
     | false=>rfl
     | true=>rw[doneT x hxn hb] at h4;simp at h4
    obtain⟨hO0,hids⟩:=kw _ σ σA (fun x hx=>by
     have hx2:=hRU x hx
     exact⟨ops[x],by simp[hx2.1],hM.still x _ (by simp[hx2.1]) hx2.2⟩) h
    have hO:sB (fun t=>∃ u∈gy m ops.size i L,eg ops u=some t) (σA.ay L0) (σ.ay L0):=⟨hO0.nt,hO0.heap,hO0.tmp⟩
    have hids2:(σ.ay L0).ids=(σA.ay L0).ids:=by simp only[St.ay,hids]
    have hlook:∀ t∈oi.looksAt ops,¬ ∃ u∈gy m ops.size i L,eg ops u=some t:=by
     rintro t ht ⟨u,hu,hd⟩
     have hu2:=hRU u hu
     exact kS hoi (hM.call u hu2.1 hu2.2) hd ht
    have hBσ:Bd (σ.ay L0):=by
     intro q hq
     rw[hids2]
     refine hB q ?_
     rw[← hO.heap];exact hq
    unfold mY at hfin
    split at hfin
    ·rename_i y H1 L1 hpan
     cases hfin
     rw[← tF hoi hO hids2 hlook] at hpan
     refine iT hF hpan hBσ A.ay R fun w2 μ2 S2 u A2 R2 C2 hv=>hK a w2 μ2 S2 _ ⟨A2.defers,?_,fun t ht=>?_⟩ R2 C2 ⟨u,rfl,hv⟩
     ·rw[A2.size];exact hO.nt
     ·have hnt:(σ.ay L0).nt=(σA.ay L0).nt:=hO.nt
      have:=A2.tmp t (by simp only at ht ⊢;rw[hnt];exact ht)
      simp only[uj]
      cases hu:qV ops m i t with
      | true=>simp only[cond_true,VR]
      | false=>
       simp only[cond_false]
       rw[← hO.tmp t ?_];exact this
       rintro ⟨u,hu',hd⟩
       have hu2:=hRU u hu'
       have:qV ops m i t=true:=by
        unfold qV
        rw[List.any_eq_true]
        exact⟨u,List.mem_range.2 hu2.1,by rw[hu2.2,hd];simp⟩
       rw[hu] at this;simp at this
    ·split at hfin
     case h_2=>simp at hfin
     rename_i σ2 hop
     split at hfin
     case h_2=>simp at hfin
     rename_i σ3 hre
     obtain⟨σ2',hop',hO2⟩:=ya hoi hO hids2 hlook hop
     refine eM hC hF (fun H i o h=>h) hop' (.inl hBσ) A.ay R fun a2 w2 μ2 S2 A2 R2 C2=>?_
     have hund:(iW m i ops.size z2).filter (fun x=>!(L.setIfInBounds i true).getD x true)=j6 ops.size z2 (L.setIfInBounds i true):=by
      unfold iW j6 rem
      rw[List.filter_filter,List.filter_filter]
      refine List.filter_congr fun x hx=>?_
      have hxn:=List.mem_range.1 hx
      rw[bu true hsz]
      by_cases e:x=i
      ·rw[if_pos e];simp
      ·rw[if_neg e]
       cases hd:L.getD x true with
       | true=>simp
       | false=>
        have hBx:Av m i x=true:=by
         simp only[Av,Bool.and_eq_true,Bool.not_eq_true']
         refine⟨?_,?_⟩
         ·cases hb:Nat.beq x i with
          | false=>rfl
          | true=>exact absurd (Nat.eq_of_beq_eq_true hb) e
         ·cases hb:Nat.testBit (m.getD i 0) x with
          | false=>rfl
          | true=>rw[doneT x hxn hb] at hd;simp at hd
        rw[hBx];simp
     obtain⟨σ3',k1,k2⟩:=qD (P:=P) (C:=C) (W:=W) (base:=base) hM (fun x=>!(L.setIfInBounds i true).getD x true) (iW m i ops.size z2) (σ2.ay (cU P C ops (σA.ay L0).heap (base+i * 16) i (σA.ay L0))) (σ2'.ay []) σ3 sR (fun x hx=>by
       obtain⟨h1,h2⟩:=List.mem_filter.1 hx
       exact⟨List.mem_range.1 h1,(Bool.and_eq_true _ _ ▸ h2).1⟩) (fun x hx hU=>by
       obtain⟨h1,h2⟩:=List.mem_filter.1 hx
       have h2:Av m i x=true:=(Bool.and_eq_true _ _ ▸ h2).1
       have hxn:=List.mem_range.1 h1
       have hxi:x≠i:=by
        intro e;subst e
        unfold Av at h2
        simp at h2
       have hb:Nat.testBit (m.getD x 0) i=true:=by
        unfold Av at h2
        unfold oe at hU
        cases hb:Nat.testBit (m.getD x 0) i with
        | true=>rfl
        | false=>rw[h2,hb] at hU;simp at hU
       rw[bu true hsz,if_neg hxi]
       cases hd:L.getD x true with
       | false=>rfl
       | true=>
        exfalso
        have hxs:x<L.size:=by omega
        have h3:=hcl x (by simpa [Array.getD_eq_getD_getElem?,hxs] using hd) i hb
        have h4:L.getD i true=true:=by simpa [Array.getD_eq_getD_getElem?,hsz] using h3
        rw[h4] at hz;simp at hz) (sB.mono (T:=fun t=>∃ u∈gy m ops.size i L,eg ops u=some t) ⟨hO2.nt,hO2.heap,hO2.tmp⟩ (by
       rintro t ⟨u,hu,hd⟩
       have hu2:=hRU u hu
       obtain⟨h1,_⟩:=List.mem_filter.1 hu
       obtain⟨_,h4⟩:=List.mem_filter.1 h1
       have hne:u≠i:=by
        intro e;subst e
        have:=hu2.2
        unfold oe at this
        simp at this
       refine⟨u,List.mem_filter.2 ⟨List.mem_range.2 hu2.1,?_⟩,hu2.2,?_,hd⟩
       ·have:=hu2.2
        have hu3:u≠z2:=by
         intro e;subst e
         unfold oe at this
         rw[hfull i hzn] at this
         simp at this
        unfold oe at this
        unfold Av
        simp only[Bool.and_eq_true] at this ⊢
        refine⟨this.1,?_⟩
        cases hb:Nat.beq u z2 with
        | false=>rfl
        | true=>exact absurd (Nat.eq_of_beq_eq_true hb) hu3
       ·rw[bu true hsz,if_neg hne];exact h4)) hre
     rw[hund] at k1
     have hlz:(L.setIfInBounds i true).getD z2 true=false:=by
      rw[bu true hsz,if_neg (by omega)]
      cases hd:L.getD z2 true with
      | false=>rfl
      | true=>
       exfalso
       have hxs:z2<L.size:=by omega
       have h3:=hcl z2 (by simpa [Array.getD_eq_getD_getElem?,hxs] using hd) i (hfull i hzn)
       have h4:L.getD i true=true:=by simpa [Array.getD_eq_getD_getElem?,hsz] using h3
       rw[h4] at hz;simp at hz
     have hfz:(j6 ops.size z2 (L.setIfInBounds i true)).length+1≤fuel:=by
      have hm:z2∈rem ops.size (L.setIfInBounds i true):=List.mem_filter.2 ⟨List.mem_range.2 (by omega),by rw[hlz];rfl⟩
      have:(j6 ops.size z2 (L.setIfInBounds i true)).length<(rem ops.size (L.setIfInBounds i true)).length:=by
       unfold j6
       exact List.length_filter_lt_length_iff_exists.2 ⟨z2,hm,by simp⟩
      omega
     have hB2:Bd ((σ3.ay (gx P C ops m W base i (iW m i ops.size z2) (σ2.ay (cU P C ops (σA.ay L0).heap (base+i * 16) i (σA.ay L0)))))):=by
      have b2:=jH hF (fun H i o h=>h) hop hB
      have:=mG _ _ σ3 [] hre (by intro q hq;have:=b2 q hq;simpa [St.ay] using this)
      simpa using this
     refine tQ hC hr hz2o sC hfull fuel _ (σ2'.ay []) a2 w2 μ2 S2 (by simp[hs]) hlz hfz hcl2 k1 A2.ay R2 fun a3 w3 μ3 S3 A3 R3 C3=>?_
     have hheap:σ3'.heap=σ3.heap:=k2.heap
     rw[hheap] at R3 C3
     have A3':AR N Dt μ3 S3 (σ3.ay (gx P C ops m W base i (iW m i ops.size z2) (σ2.ay (cU P C ops (σA.ay L0).heap (base+i * 16) i (σA.ay L0))))) a3:=⟨A3.defers,by rw[A3.size];exact k2.nt,fun t ht=>by
      have:=A3.tmp t (by rw[k2.nt];exact ht)
      rw[hheap,k2.tmp t (fun h=>h)] at this
      exact this⟩
     unfold jC at hfin
     split at hfin
     ·rename_i y H1 L1 hp
      cases hfin
      exact iT hF hp hB2 A3' R3 fun w4 μ4 S4 u A4 R4 C4 hv=>hK a3 w4 μ4 S4 _ A4 R4 (C2.trans (C3.trans C4)) ⟨u,rfl,hv⟩
     ·split at hfin
      ·rename_i σ4 hop4
       cases hfin
       exact eM hC hF (fun H i o h=>h) hop4 (.inl hB2) A3' R3 fun a4 w4 μ4 S4 A4 R4 C4=>hK a4 w4 μ4 S4 _ A4.ay R4 (C2.trans (C3.trans C4)) rfl
      ·simp at hfin
   ·
    have hAi:xH m z i=true:=by
     unfold xH
     simp only[Bool.and_eq_true,Bool.not_eq_true']
     refine⟨?_,?_⟩
     ·cases hb:Nat.beq i z with
      | true=>exact absurd (Nat.eq_of_beq_eq_true hb) hiz
      | false=>rfl
     ·cases hb:Nat.testBit (m.getD i 0) z with
      | false=>rfl
      | true=>
       exfalso
       have h3:=ahead z hb
       have hzs:z<L.size:=by omega
       have h4:L.getD z true=true:=by simpa [Array.getD_eq_getD_getElem?,hzs] using h3
       rw[h4] at hz;simp at hz
    have f1:gy m ops.size z L=(p.filter (xH m z))++i::(s.filter (xH m z)):=by
     unfold gy
     rw[e1,List.filter_append,List.filter_cons_of_pos (by exact hAi)]
    have f2:gy m ops.size z (L.setIfInBounds i true)=(p.filter (xH m z))++(s.filter (xH m z)):=by
     unfold gy
     rw[e2,List.filter_append]
    rw[f1] at h
    have hind:∀ x∈(p.filter (xH m z)),x≠i∧∃ ox,ops[x]? = some ox∧indep P C ops m x i ox oi=true:=by
     intro x hx
     have hx:=(List.mem_filter.1 hx).1
     obtain⟨hlt,hlx⟩:=hp x hx
     have hox:ops[x]? = some ops[x]:=by simp[show x<ops.size from by omega]
     refine⟨by omega,_,hox,?_⟩
     rcases hr.pair x i hlt _ _ hox hoi with hb|hb
     ·exfalso
      have hLx:=ahead x hb
      have hsz:x<L.size:=by omega
      simp[Array.getD_eq_getD_getElem?,hsz] at hLx hlx
      rw[hLx] at hlx;simp at hlx
     ·exact hb
    obtain⟨σ1,k1,k2⟩:=front hoi _ _ σ hind h
    unfold sE at k1
    obtain⟨_,k1⟩:=az k1
    refine eM hC (F:=cW) (fun _ _ _ _ _ _ _ _ h=>by simp[cW] at h) (fun H j o h=>(dJ h).2.1) k1 (.inr rfl) A R fun a1 w1 μ1 S1 A1 R1 C1=>?_
    refine ih (L.setIfInBounds i true) σ1 a1 w1 μ1 S1 (by simp[hs]) ?_ hf2 hcl2 (by rw[f2];exact k2) A1 R1 (fun a' w' μ' S' x A' R' C' hx=>hK a' w' μ' S' x A' R' (C1.trans C') hx)
    rw[bu true hsz,if_neg (fun e=>hiz e.symm)];exact hz
omit [aq] in
theorem Aa:∀ (l:List Oper) (n z:Nat),mj C l n=some z→z<n+l.length
 | [],n,z,h=>by simp[mj] at h
 | o::l,n,z,h=>by
  unfold mj at h
  have rest:mj C l (n+1)=some z→z<n+(o::l).length:=fun h=>by
   have:=Aa l (n+1) z h
   simp;omega
  split at h
  ·split at h
   ·rename_i k hk
    cases hb:(Option.isNone (C.kG _)&&Option.isNone (C.aM _)) with
    | true=>rw[hb] at h;simp only[cond_true,Option.some.injEq] at h;simp;omega
    | false=>rw[hb] at h;exact rest h
   ·exact rest h
  ·exact rest h
omit [aq] in
theorem EY (h:Kk C ops m=some z):z<ops.size∧sU ops m z:=by
 unfold Kk at h
 split at h
 ·simp at h
 ·split at h
  ·rename_i z' hz
   obtain⟨hc,rfl⟩:=ah h
   exact⟨by have:=Aa _ _ _ hz;simpa using this,qZ hc⟩
  ·simp at h
omit [aq] in
theorem E3 {z2:Nat}(h:G3 C ops m=some (z,z2)):z<z2∧sU ops m z∧z2+1=ops.size∧∀ x,x<z2→Nat.testBit (m.getD z2 0) x=true:=by
 unfold G3 at h
 split at h
 case h_2=>simp at h
 rename_i z2' hz
 split at h
 case h_2=>simp at h
 obtain⟨hc,he⟩:=ah h
 cases he
 simp only[Bool.and_eq_true] at hc
 have hzf:z2=ops.size-1∧0<ops.size∧∀ x,x<z2→Nat.testBit (m.getD z2 0) x=true:=by
  unfold rI at hz
  split at hz
  case h_2=>simp at hz
  rename_i o ho
  split at hz
  case h_2=>simp at hz
  split at hz
  case h_2=>simp at hz
  obtain⟨hcc,he⟩:=ah hz
  subst he
  simp only[Bool.and_eq_true,List.all_eq_true,List.mem_range] at hcc
  refine⟨rfl,?_,fun x hx=>hcc.2 x hx⟩
  have:=(Array.getElem?_eq_some_iff.1 ho).1
  omega
 exact⟨cq hc.1,qZ hc.2,by omega,hzf.2.2⟩
theorem qQ (hC:bI P C)(hF:cy P F){r:Option Nat}{N:ar}{Dt:Bool×List Deferred}{B:Nat}{w w0:World}{a:Act}{μ:Mu}{S:ar}{Q:Exit→Act→World→Prop}{id:Nat}{e:Ex}(h:eL P C F ops base σ=some (e,σ'))(hB:Bd σ)(A:AR N Dt μ S σ a)(R:Rel μ S σ.heap B w0 w)
  (hK:∀ a' w' μ' S' x,AR N Dt μ' S' σ' a'→Rel μ' S' σ'.heap B w0 w'→Carry B μ S σ.heap μ' S' σ'.heap→e.Is μ' S' σ'.heap x→Q x a' w'):(Code.region id ops true).wpIn (WF r) 0 P Q a w:=by
 unfold eL at h
 have R':Rel μ S σ.heap B w0 w.drew:=R.DQ
 have hrem:rem ops.size (Array.replicate ops.size false)=List.range ops.size:=by
  unfold rem
  rw[List.filter_eq_self]
  intro i hi
  have:=List.mem_range.1 hi
  simp[Array.getD_eq_getD_getElem?,this]
 have hcl:j4 (aA ops) (Array.replicate ops.size false):=by
  intro i hi x hx
  by_cases hlt:i<ops.size
  ·simp[Array.getD_eq_getD_getElem?,hlt] at hi
  ·simp[Array.getD_eq_getD_getElem?,hlt] at hi
 split at h
 ·rename_i z z2 hz
  obtain⟨hzn,hM,sC,hfull⟩:=E3 hz
  unfold ry at h
  obtain⟨hr,h⟩:=az h
  have hr:=dU hr
  split at h
  case h_2=>simp at h
  rename_i σ1 h1
  have hBz:Bd (σ1.ay (cY P C ops (aA ops) (kz P C ops (aA ops) base σ) base (cS (aA ops) z ops.size) σ)):=by
   have:=eF (cS (aA ops) z ops.size) σ σ1 [] h1 (by intro q hq;have:=hB q hq;simpa [St.ay] using this)
   simpa using this
  refine wpIn_region_any hr.mixed ?_
  refine Fk hC hF hr hM hzn sC hfull h hBz ops.size _ σ a w.drew μ S (by simp) ?_ (by rw[hrem];simp) hcl (by unfold gy;rw[hrem];exact h1) A R' hK
  simp[Array.getD_eq_getD_getElem?,show z<ops.size by omega]
 split at h
 case h_2=>exact Ft hC hF h hB A R hK
 rename_i z hz
 obtain⟨hzn,hM⟩:=EY hz
 unfold zU at h
 obtain⟨hr,h⟩:=az h
 have hr:=dU hr
 split at h
 case h_2=>simp at h
 rename_i σ1 h1
 have hBz:Bd (σ1.ay (cY P C ops (aA ops) (kz P C ops (aA ops) base σ) base (cS (aA ops) z ops.size) σ)):=by
  have:=eF (cS (aA ops) z ops.size) σ σ1 [] h1 (by intro q hq;have:=hB q hq;simpa [St.ay] using this)
  simpa using this
 refine wpIn_region_any hr.mixed ?_
 have hrem:rem ops.size (Array.replicate ops.size false)=List.range ops.size:=by
  unfold rem
  rw[List.filter_eq_self]
  intro i hi
  have:=List.mem_range.1 hi
  simp[Array.getD_eq_getD_getElem?,this]
 have R':Rel μ S σ.heap B w0 w.drew:=R.DQ
 refine G5 hC hF hr hM hzn h hBz ops.size _ σ a w.drew μ S (by simp) ?_ (by rw[hrem];simp) ?_ (by unfold gy;rw[hrem];exact h1) A R' hK
 ·simp[Array.getD_eq_getD_getElem?,hzn]
 ·intro i hi x hx
  by_cases hlt:i<ops.size
  ·simp[Array.getD_eq_getD_getElem?,hlt] at hi
  ·simp[Array.getD_eq_getD_getElem?,hlt] at hi
theorem rH (hF:cy P F){e:Ex}(h:eL P C F ops base σ=some (e,σ'))(hB:Bd σ):Bd σ':=by
 unfold eL at h
 split at h
 ·rename_i z z2 hz
  unfold ry at h
  obtain⟨_,h⟩:=az h
  split at h
  case h_2=>simp at h
  rename_i σ1 h1
  have hBz:Bd (σ1.ay (cY P C ops (aA ops) (kz P C ops (aA ops) base σ) base (cS (aA ops) z ops.size) σ)):=by
   have:=eF (cS (aA ops) z ops.size) σ σ1 [] h1 (by intro q hq;have:=hB q hq;simpa [St.ay] using this)
   simpa using this
  unfold mY at h
  split at h
  ·rename_i hp;cases h
   exact nA hF hp hBz
  ·split at h
   case h_2=>simp at h
   rename_i σ2 hop
   split at h
   case h_2=>simp at h
   rename_i σ3 hre
   have b2:=jH hF (fun H i o h=>h) hop hBz
   have:=mG _ _ σ3 [] hre (by intro q hq;have:=b2 q hq;simpa [St.ay] using this)
   exact tC hF h (by simpa using this)
 split at h
 case h_2=>exact FM hF h hB
 rename_i z hz
 unfold zU at h
 obtain⟨_,h⟩:=az h
 split at h
 case h_2=>simp at h
 rename_i σ1 h1
 have hBz:Bd (σ1.ay (cY P C ops (aA ops) (kz P C ops (aA ops) base σ) base (cS (aA ops) z ops.size) σ)):=by
  have:=eF (cS (aA ops) z ops.size) σ σ1 [] h1 (by intro q hq;have:=hB q hq;simpa [St.ay] using this)
  simpa using this
 unfold rW at h
 split at h
 ·rename_i hp;cases h
  exact nA hF hp hBz
 ·split at h
  case h_2=>simp at h
  rename_i σ2 hop
  split at h
  case h_2=>simp at h
  rename_i σ3 hre
  cases h
  have b2:=jH hF (fun H i o h=>h) hop hBz
  have:=mG _ _ σ3 [] hre (by intro q hq;have:=b2 q hq;simpa [St.ay] using this)
  simpa using this
end
def bump (H0:Heap)(j off:Nat)(H:Heap):Heap:=
 match H j with
 | some (.box t cs)=>match cs[off]? with
  | some (.sl i g)=>match H0 i,H i with
   | some (.row _ _ g0 _),some (.row te e g1 xs)=>cond (Nat.beq g g1&&Nat.beq g0 g1) (aM (aM H i (some (.row te e (g1+1) xs))) j (some (.box t (cs.set off (.sl i (g1+1)))))) H
   | _,_=>H
  | _=>H
 | _=>H
def s6 (H0:Heap)(j:Nat):List Nat→Heap→Heap
 | [],H=>H
 | off::l,H=>s6 H0 j l (bump H0 j off H)
def Iu:Option aO→Nat
 | some (.box _ cs)=>cs.length
 | _=>0
def St.align (σ:St)(j:Nat)(σ':St):St:=⟨σ'.nt,σ'.tmps,s6 σ.heap j (List.range (Iu (σ.heap j))) σ'.heap,σ'.ids⟩
def En (P:Program)(ops:Array Oper)(σ:St):List Oper→Nat→Option Nat
 | [],_=>none
 | o::l,b=>match (match o.op with
  | .indexAddr t x (.tmp _)=>match P.underlying t with
   | some (.array _ _)=>match vo P ops σ 9 b x with
    | .ptr j _=>some j
    | _=>none
   | _=>none
  | _=>none) with
  | some r=>some r
  | none=>En P ops σ l (b+1)
def fD (P:Program)(C:Cons)(F:gv)(ops:Array Oper)(base:Nat)(σ:St):Option (Ex×St):=
 match En P ops σ ops.toList 0 with
 | some j=>match eL P C F ops base σ with
  | some (e,σ')=>some (e,σ.align j σ')
  | none=>none
 | none=>eL P C F ops base σ
section
variable [aq]{F:gv}{P:Program}{C:Cons}{ops:Array Oper}{σ σ':St}{base:Nat}{μ:Mu}{S:ar}{H H0:Heap}{B:Nat}{w0 w:World}
structure Told (μ:Mu)(S:ar)(H H':Heap):Prop where
 ext:Ext μ S H μ S H'
 dom:∀ i,(H' i).isSome=(H i).isSome
 rel:∀ B w0 w,Rel μ S H B w0 w→Rel μ S H' B w0 w
omit [aq] in
theorem Ext.SR:Ext μ S H μ S H:=Ext.refl
omit [aq] in
theorem x8 {as:List AV}{vs:List Value}(h:aE μ S H as vs):∀ {off:Nat} {x:AV},(∀ v,vs[off]? = some v→VR μ S H x v)→aE μ S H (as.set off x) vs:=by
 induction as generalizing vs with
 | nil=>intro off x _;simpa using h
 | cons a as ih=>
  intro off x hx
  simp only[aE] at h
  obtain⟨v,r,rfl,h1,h2⟩:=h
  cases off with
  | zero=>simp only[List.set_cons_zero,aE];exact⟨v,r,rfl,hx v (by simp),h2⟩
  | succ n=>simp only[List.set_cons_succ,aE];exact⟨v,r,rfl,h1,ih h2 fun v hv=>hx v (by simpa using hv)⟩
omit [aq] in
theorem wi {as:List AV}{vs:List Value}(h:aE μ S H as vs):∀ {off:Nat} {a:AV} {v:Value},as[off]? = some a→vs[off]? = some v→VR μ S H a v:=by
 induction as generalizing vs with
 | nil=>intro off a v h1;simp at h1
 | cons b as ih=>
  intro off a v h1 h2
  simp only[aE] at h
  obtain⟨u,r,rfl,k1,k2⟩:=h
  cases off with
  | zero=>simp only[List.getElem?_cons_zero,Option.some.injEq] at h1 h2;subst h1;subst h2;exact k1
  | succ n=>exact ih k2 (by simpa using h1) (by simpa using h2)
theorem tK (j off:Nat):Told μ S H (bump H0 j off H):=by
 have same:Told μ S H H:=⟨Ext.SR,fun _=>rfl,fun _ _ _ h=>h⟩
 unfold bump
 split
 case h_2=>exact same
 rename_i t cs hj
 split
 case h_2=>exact same
 rename_i i g hc
 split
 case h_2=>exact same
 rename_i te0 e0 g0 xs0 te e g1 xs h0 hi
 cases hb:(Nat.beq g g1&&Nat.beq g0 g1) with
 | false=>exact same
 | true=>
 simp only[cond_true]
 simp only[Bool.and_eq_true] at hb
 have hg:g=g1:=Nat.eq_of_beq_eq_true hb.1
 subst hg
 have hij:i≠j:=by intro e;subst e;rw[hj] at hi;simp at hi
 have ext:Ext μ S H μ S (aM (aM H i (some (.row te e (g+1) xs))) j (some (.box t (cs.set off (.sl i (g+1)))))):=by
  refine⟨fun _ _ h=>.inl h,fun _ _ h=>h,fun k t' e' g' ys _ hk=>?_,fun k t' ti' q' ys st _ hk=>?_⟩
  ·by_cases ek:k=j
   ·subst ek;rw[au] at hk;simp at hk
   ·rw[ax _ _ ek] at hk
    by_cases ei:k=i
    ·subst ei;rw[au] at hk
     injection hk with hk
     injection hk with a1 a2 a3 a4
     subst a2;subst a3
     exact⟨te,g,xs,hi,by omega,fun h=>by omega⟩
    ·rw[ax _ _ ei] at hk
     exact⟨t',g',ys,hk,Nat.le_refl _,fun _=>rfl⟩
  ·by_cases ek:k=j
   ·subst ek;rw[au] at hk;simp at hk
   ·rw[ax _ _ ek] at hk
    by_cases ei:k=i
    ·subst ei;rw[au] at hk;simp at hk
    ·rw[ax _ _ ei] at hk
     exact⟨t',ti',q',ys,st,hk,Nat.le_refl _,rfl,fun _ _ h=>h⟩
 have dom:∀ k,((aM (aM H i (some (.row te e (g+1) xs))) j (some (.box t (cs.set off (.sl i (g+1)))))) k).isSome=(H k).isSome:=by
  intro k
  by_cases ek:k=j
  ·subst ek;rw[au,hj];rfl
  ·rw[ax _ _ ek]
   by_cases ei:k=i
   ·subst ei;rw[au,hi];rfl
   ·rw[ax _ _ ei]
 refine⟨ext,dom,fun B w0 w R=>⟨R.below,R.size,R.st,fun k=>by rw[dom];exact R.dom k,fun k o hk=>?_,R.sep,fun k lk hk=>?_,R.pre⟩⟩
 rotate_left
 ·rcases R.b7 k lk hk with h|⟨t',ti',q',ys,st,h⟩
  ·exact .inl h
  ·refine .inr ⟨t',ti',q',ys,st,?_⟩
   rw[ax _ _ (fun e=>by subst e;rw[hj] at h;cases h),ax _ _ (fun e=>by subst e;rw[hi] at h;cases h)]
   exact h
 by_cases ek:k=j
 ·subst ek
  rw[au] at hk;cases hk
  obtain⟨l,h1,h2⟩:=R.obj k _ hj
  refine⟨l,h1,?_⟩
  obtain⟨b,vs,q1,q2,q3,q4,q5⟩:=bw ext (w':=w) (fun _ _=>rfl) (fun b hb=>(R.xL h1 hb).2) h2
  refine⟨b,vs,q1,q2,q3,q4,x8 q5 fun v hv=>?_⟩
  have:=wi q5 hc hv
  obtain⟨b',vs',p1,p2,p3,p4,p5⟩:=h2
  have evs:vs'=vs:=by
   have eb:b'=b:=Option.some.inj (p1.symm.trans q1)
   subst eb
   have:=p4.symm.trans q4
   simpa using this
  subst evs
  have hold:=wi p5 hc hv
  simp only[VR] at hold ⊢
  obtain⟨s0,l2,s1,s2⟩:=hold
  refine⟨s0,l2,s1,fun t' e' gc ys hH=>?_⟩
  rw[ax _ _ hij,au] at hH
  injection hH with hH
  injection hH with a1 a2 a3 a4
  subst a2;subst a3
  have a5:=eq_of_heq a4
  subst a5
  exact⟨Nat.le_refl _,fun _=>(s2 te e g xs hi).2 rfl⟩
 ·rw[ax _ _ ek] at hk
  by_cases ei:k=i
  ·subst ei
   rw[au] at hk;cases hk
   obtain⟨l,h1,h2⟩:=R.obj k _ hi
   exact⟨l,h1,h2⟩
  ·rw[ax _ _ ei] at hk
   obtain⟨l,h1,h2⟩:=R.obj k o hk
   exact⟨l,h1,bw ext (w':=w) (fun _ _=>rfl) (fun b hb=>(R.xL h1 hb).2) h2⟩
theorem yO {N:ar}{Dt:Bool×List Deferred}{nt:Nat}{tm:Nat→AV}{ids:List Nat}{a:Act}{j:Nat}:∀ (l:List Nat) (H:Heap),AR N Dt μ S ⟨nt,tm,H,ids⟩ a→Rel μ S H B w0 w →
  AR N Dt μ S ⟨nt,tm,s6 H0 j l H,ids⟩ a∧Rel μ S (s6 H0 j l H) B w0 w∧∀ x v,VR μ S H x v→VR μ S (s6 H0 j l H) x v
 | [],H,A,R=>⟨A,R,fun _ _ h=>h⟩
 | off::l,H,A,R=>by
  have T:=tK (μ:=μ) (S:=S) (H:=H) (H0:=H0) j off
  obtain⟨h1,h2,h4⟩:=yO (j:=j) l (bump H0 j off H) (a:=a) (N:=N) (Dt:=Dt) (nt:=nt) (tm:=tm) (ids:=ids) ⟨A.defers,A.size,fun t ht=>cJ T.ext _ _ (A.tmp t ht)⟩ (T.rel _ _ _ R)
  exact⟨h1,h2,fun x v h=>h4 x v (cJ T.ext _ _ h)⟩
theorem HA (j off i:Nat)(h:bump H0 j off H i≠none):H i≠none:=by
 have:=(tK (μ:=fun _=>none) (S:=fun _=>none) (H:=H) (H0:=H0) j off).dom i
 intro e
 rw[e] at this
 cases hb:bump H0 j off H i with
 | none=>exact h hb
 | some o=>rw[hb] at this;simp at this
theorem th {j:Nat}:∀ (l:List Nat) (H:Heap) (i:Nat),s6 H0 j l H i≠none→H i≠none
 | [],H,i,h=>h
 | off::l,H,i,h=>HA j off i (th l _ i h)
theorem CC (hF:cy P F){e:Ex}(h:fD P C F ops base σ=some (e,σ'))(hB:Bd σ):Bd σ':=by
 unfold fD at h
 split at h
 ·split at h
  ·rename_i e1 σ1 h1
   cases h
   intro q hq
   exact rH hF h1 hB q (th _ _ q hq)
  ·simp at h
 ·exact rH hF h hB
theorem De (hC:bI P C)(hF:cy P F){r:Option Nat}{N:ar}{Dt:Bool×List Deferred}{a:Act}{Q:Exit→Act→World→Prop}{id:Nat}{e:Ex}(h:fD P C F ops base σ=some (e,σ'))(hB:Bd σ)(A:AR N Dt μ S σ a)(R:Rel μ S σ.heap B w0 w)
  (hK:∀ a' w' μ' S' x,AR N Dt μ' S' σ' a'→Rel μ' S' σ'.heap B w0 w'→Carry B μ S σ.heap μ' S' σ'.heap→e.Is μ' S' σ'.heap x→Q x a' w'):(Code.region id ops true).wpIn (WF r) 0 P Q a w:=by
 unfold fD at h
 split at h
 case h_2=>exact qQ hC hF h hB A R hK
 rename_i j hj
 split at h
 case h_2=>simp at h
 rename_i e1 σ1 h1
 cases h
 refine qQ hC hF h1 hB A R fun a1 w1 μ1 S1 x A1 R1 C1 hx=>?_
 obtain⟨h2,h3,h4⟩:=yO (H0:=σ.heap) (j:=j) (List.range (Iu (σ.heap j))) σ1.heap (ids:=σ1.ids) A1 R1
 refine hK a1 w1 μ1 S1 x h2 h3 ⟨fun y v hv=>h4 y v (C1.vr y v hv),C1.st,C1.sub⟩ ?_
 cases e with
 | dB v=>
  obtain⟨u,e1,e2⟩:=hx
  exact⟨u,e1,h4 _ _ e2⟩
 | _=>exact hx
end
def iB (j off n:Nat)(σ:St):St:=
 match σ.heap j with
 | some (.box t cs)=>match cs[off]? with
  | some (.sl i g)=>match σ.heap i,σ.heap n with
   | some (.row te e g1 xs),none=>cond (Nat.beq g g1) ⟨σ.nt,σ.tmps,aM (aM (aM σ.heap n (some (.row te e 0 xs))) i (some (.row te e (g1+1) []))) j (some (.box t (cs.set off (.sl n 0)))),σ.ids++[n]⟩ σ
   | _,_=>σ
  | _=>σ
 | _=>σ
def St.dD (σ:St):List (Nat×Nat×Nat)→St
 | []=>σ
 | p::l=>(iB p.1 p.2.1 p.2.2 σ).dD l
section
variable [aq]{N:ar}{Dt:Bool×List Deferred}{σ:St}{a:Act}{μ μo:Mu}{S So:ar}{Ho:Heap}{B:Nat}{w0 w:World}
theorem BR (j off n:Nat)(A:AR N Dt μ S σ a)(R:Rel μ S σ.heap B w0 w)(Co:Carry B μo So Ho μ S σ.heap) :
  ∃ μ',AR N Dt μ' S (iB j off n σ) a∧Rel μ' S (iB j off n σ).heap B w0 w∧Carry B μo So Ho μ' S (iB j off n σ).heap:=by
 have same:∃ μ',AR N Dt μ' S σ a∧Rel μ' S σ.heap B w0 w∧Carry B μo So Ho μ' S σ.heap:=⟨μ,A,R,Co⟩
 unfold iB
 split
 case h_2=>exact same
 rename_i t cs hj
 split
 case h_2=>exact same
 rename_i i g hc
 split
 case h_2=>exact same
 rename_i te e g1 xs hi hn
 cases hb:Nat.beq g g1 with
 | false=>exact same
 | true=>
 simp only[cond_true]
 have hg:g=g1:=Nat.eq_of_beq_eq_true hb
 subst hg
 have hij:i≠j:=by intro e;subst e;rw[hj] at hi;simp at hi
 have hni:n≠i:=by intro e;subst e;rw[hi] at hn;simp at hn
 have hnj:n≠j:=by intro e;subst e;rw[hj] at hn;simp at hn
 have hmn:μ n=none:=by
  have:=R.dom n
  rw[hn] at this
  cases h:μ n with
  | none=>rfl
  | some _=>rw[h] at this;simp at this
 obtain⟨li,hmi,hOi⟩:=R.obj i _ hi
 have eH:∀ q,q≠n→q≠i→q≠j→(aM (aM (aM σ.heap n (some (.row te e 0 xs))) i (some (.row te e (g+1) []))) j (some (.box t (cs.set off (.sl n 0))))) q=σ.heap q:=by
  intro q h1 h2 h3
  rw[ax _ _ h3,ax _ _ h2,ax _ _ h1]
 have eHn:(aM (aM (aM σ.heap n (some (.row te e 0 xs))) i (some (.row te e (g+1) []))) j (some (.box t (cs.set off (.sl n 0))))) n=some (.row te e 0 xs):=by
  rw[ax _ _ hnj,ax _ _ hni,au]
 have eHi:(aM (aM (aM σ.heap n (some (.row te e 0 xs))) i (some (.row te e (g+1) []))) j (some (.box t (cs.set off (.sl n 0))))) i=some (.row te e (g+1) []):=by
  rw[ax _ _ hij,au]
 have eHj:(aM (aM (aM σ.heap n (some (.row te e 0 xs))) i (some (.row te e (g+1) []))) j (some (.box t (cs.set off (.sl n 0))))) j=some (.box t (cs.set off (.sl n 0))):=au _ _ _
 generalize (aM (aM (aM σ.heap n (some (.row te e 0 xs))) i (some (.row te e (g+1) []))) j (some (.box t (cs.set off (.sl n 0)))))=H' at eH eHn eHi eHj
 have mn:(aM (aM μ n (some li)) i (some ⟨none,0,aP⟩)) n=some li:=by rw[ax _ _ hni,au]
 have mi:(aM (aM μ n (some li)) i (some ⟨none,0,aP⟩)) i=some ⟨none,0,aP⟩:=au _ _ _
 have mq:∀ q,q≠n→q≠i→(aM (aM μ n (some li)) i (some ⟨none,0,aP⟩)) q=μ q:=fun q h1 h2=>by rw[ax _ _ h2,ax _ _ h1]
 generalize (aM (aM μ n (some li)) i (some ⟨none,0,aP⟩))=μ' at mn mi mq
 have ext:Ext μ S σ.heap μ' S H':=by
  refine⟨fun q l hq=>?_,fun _ _ h=>h,fun q t' e' g' ys hq hk=>?_,fun q t' ti' q' ys st hq hk=>?_⟩
  ·by_cases e1:q=n
   ·subst e1;rw[hmn] at hq;simp at hq
   ·by_cases e2:q=i
    ·subst e2
     exact .inr ⟨_,_,_,mi,hi,eHi,.row (by omega)⟩
    ·rw[mq q e1 e2];exact .inl hq
  ·by_cases e1:q=n
   ·subst e1;rw[hmn] at hq;simp at hq
   ·by_cases e3:q=j
    ·subst e3;rw[eHj] at hk;simp at hk
    ·by_cases e2:q=i
     ·subst e2
      rw[eHi] at hk
      injection hk with hk
      injection hk with a1 a2 a3 a4
      subst a2;subst a3
      exact⟨te,g,xs,hi,by omega,fun h=>by omega⟩
     ·rw[eH q e1 e2 e3] at hk
      exact⟨t',g',ys,hk,Nat.le_refl _,fun _=>rfl⟩
  ·by_cases e1:q=n
   ·subst e1;rw[hmn] at hq;simp at hq
   ·by_cases e3:q=j
    ·subst e3;rw[eHj] at hk;simp at hk
    ·by_cases e2:q=i
     ·subst e2;rw[eHi] at hk;simp at hk
     ·rw[eH q e1 e2 e3] at hk
      exact⟨t',ti',q',ys,st,hk,Nat.le_refl _,rfl,fun _ _ h=>h⟩
 refine⟨μ',⟨A.defers,A.size,fun q hq=>cJ ext _ _ (A.tmp q hq)⟩,⟨R.below,R.size,R.st,fun q=>?_,fun q o hq=>?_,fun p q lp lq b hpq hp hq hbp=>?_,fun q lq hq=>?_,R.pre⟩,⟨fun x v h=>cJ ext _ _ (Co.vr x v h),Co.st,Co.sub⟩⟩
 ·by_cases e1:q=n
  ·subst e1;rw[eHn,mn];rfl
  ·by_cases e2:q=i
   ·subst e2;rw[eHi,mi];rfl
   ·by_cases e3:q=j
    ·subst e3
     rw[eHj,mq _ e1 e2,← R.dom,hj];rfl
    ·rw[eH q e1 e2 e3,mq q e1 e2];exact R.dom q
 ·by_cases e1:q=n
  ·subst e1
   rw[eHn] at hq;cases hq
   exact⟨li,mn,hOi⟩
  ·by_cases e2:q=i
   ·subst e2
    rw[eHi] at hq;cases hq
    exact⟨_,mi,⟨by simp,Nat.zero_le _⟩,.inl ⟨rfl,rfl⟩⟩
   ·by_cases e3:q=j
    ·subst e3
     rw[eHj] at hq;cases hq
     obtain⟨l,h1,h2⟩:=R.obj q _ hj
     refine⟨l,by rw[mq q e1 e2];exact h1,?_⟩
     obtain⟨b,vs,q1,q2,q3,q4,q5⟩:=bw ext (w':=w) (fun _ _=>rfl) (fun b hb=>(R.xL h1 hb).2) h2
     refine⟨b,vs,q1,q2,q3,q4,x8 q5 fun v hv=>?_⟩
     obtain⟨b',vs',p1,p2,p3,p4,p5⟩:=h2
     have evs:vs'=vs:=by
      have eb:b'=b:=Option.some.inj (p1.symm.trans q1)
      subst eb
      have:=p4.symm.trans q4
      simpa using this
     subst evs
     have hold:=wi p5 hc hv
     simp only[VR] at hold ⊢
     obtain⟨s0,l2,s1,s2⟩:=hold
     rw[hmi] at s1;cases s1
     refine⟨s0,li,mn,fun t' e' gc ys hH=>?_⟩
     rw[eHn] at hH
     injection hH with hH
     injection hH with a1 a2 a3 a4
     subst a2;subst a3
     have a5:=eq_of_heq a4
     subst a5
     exact⟨Nat.le_refl _,fun _=>(s2 te e g xs hi).2 rfl⟩
    ·rw[eH q e1 e2 e3] at hq
     obtain⟨l,h1,h2⟩:=R.obj q o hq
     exact⟨l,by rw[mq q e1 e2];exact h1,bw ext (w':=w) (fun _ _=>rfl) (fun b hb=>(R.xL h1 hb).2) h2⟩
 ·
  intro hbq
  have nb:∀ q l,μ' q=some l→l.has b→∃ q',μ q'=some l∧(q=n∧q'=i∨q≠n∧q≠i∧q'=q):=by
   intro q l hq hb
   by_cases e1:q=n
   ·subst e1;rw[mn] at hq;cases hq;exact⟨i,hmi,.inl ⟨rfl,rfl⟩⟩
   ·by_cases e2:q=i
    ·subst e2;rw[mi] at hq;cases hq;rw[Lc.dy rfl] at hb;simp at hb
    ·rw[mq q e1 e2] at hq;exact⟨q,hq,.inr ⟨e1,e2,rfl⟩⟩
  obtain⟨p',k1,k2⟩:=nb p lp hp hbp
  obtain⟨q',k3,k4⟩:=nb q lq hq hbq
  have hne:p'≠q':=by
   rcases k2 with⟨rfl,rfl⟩|⟨h1,h2,rfl⟩
   ·rcases k4 with⟨rfl,rfl⟩|⟨h3,h4,rfl⟩
    ·exact absurd rfl hpq
    ·exact fun e=>h4 e.symm
   ·rcases k4 with⟨rfl,rfl⟩|⟨h3,h4,rfl⟩
    ·exact h2
    ·exact hpq
  exact R.sep p' q' lp lq b hne k1 k3 hbp hbq
 ·by_cases e1:q=n
  ·subst e1;rw[mn] at hq;cases hq;exact .inl (R.fM hmi hi)
  ·by_cases e2:q=i
   ·subst e2;rw[mi] at hq;cases hq;exact .inl rfl
   ·rw[mq q e1 e2] at hq
    rcases R.b7 q lq hq with h|⟨t',ti',q',ys,st,h⟩
    ·exact .inl h
    ·exact .inr ⟨t',ti',q',ys,st,by rw[eH q e1 e2 (fun e=>by subst e;rw[hj] at h;cases h)];exact h⟩
omit [aq] in
theorem A5 (j off n:Nat)(h:Bd σ):Bd (iB j off n σ):=by
 unfold iB
 split
 case h_2=>exact h
 rename_i t cs hj
 split
 case h_2=>exact h
 rename_i i g hc
 split
 case h_2=>exact h
 rename_i hi hn
 cases Nat.beq _ _ with
 | false=>exact h
 | true=>
  intro q hq
  simp only[cond_true] at hq ⊢
  rw[List.mem_append]
  by_cases e3:q=j
  ·subst e3;exact .inl (h q (by rw[hj];simp))
  ·rw[ax _ _ e3] at hq
   by_cases e2:q=i
   ·exact .inl (h q (by rw[e2,hi];simp))
   ·rw[ax _ _ e2] at hq
    by_cases e1:q=n
    ·exact .inr (by simp[e1])
    ·rw[ax _ _ e1] at hq;exact .inl (h q hq)
theorem zk:∀ (l:List (Nat×Nat×Nat)) {σ:St} {μ:Mu},AR N Dt μ S σ a→Rel μ S σ.heap B w0 w→Carry B μo So Ho μ S σ.heap →
  ∃ μ',AR N Dt μ' S (σ.dD l) a∧Rel μ' S (σ.dD l).heap B w0 w∧Carry B μo So Ho μ' S (σ.dD l).heap
 | [],σ,μ,A,R,Co=>⟨μ,A,R,Co⟩
 | p::l,σ,μ,A,R,Co=>by
  obtain⟨μ1,A1,R1,C1⟩:=BR p.1 p.2.1 p.2.2 A R Co
  exact zk l A1 R1 C1
omit [aq] in
theorem yB:∀ (l:List (Nat×Nat×Nat)) {σ:St},Bd σ→Bd (σ.dD l)
 | [],σ,h=>h
 | p::l,σ,h=>yB l (A5 p.1 p.2.1 p.2.2 h)
end
end Go.Sy
