/- Sym9, Sym10, Sym11, Sym11b, Sym11c. -/
import Derived.Test.YtckgffnmfgjehaaGreatFA2
import Derived.OrdersIn
import Derived.LoopNIn
import Derived.RangeFuncIn
open Array renaming getD_eq_getD_getElem? → ae, mem_toList_iff → cf, getElem?_eq_some_iff → cn, replicate → eI, all_eq_true_iff_forall_mem → fb, getElem?_setIfInBounds_ne → fj
open Option.some renaming injEq → al, inj → ik
open Bool renaming and_eq_true → ap, not_eq_true' → cd, false_eq_true → da, or_eq_true → eh
open Nat renaming eq_of_beq_eq_true → aw, testBit → ba, beq → bm, le_refl → eJ, strongRecOn → gg
open List renaming mem_range → be, mem_filter → bi, range → bj, filter_append → db, map_cons → dd, mem_append → dj, filter_cons_of_pos → dk, mem_cons → dp, all_eq_true → dq, mem_singleton → dt, map_congr_left → dv, filter_eq_self → dC, eq_nil_of_length_eq_zero → dE, mem_filterMap → eK, filter_filter → eQ, map_nil → fa, filter_congr → fg, any_eq_true → ft, append_nil → fx, append_assoc → gk, filter_cons_of_neg → gl, filter_eq_nil_iff → h9
open Go.Region renaming binds → du, ready → ee
open Go.Oper renaming looksAt → gn
open Go.Code renaming region → ib
namespace Go.Sy
open Go Go.RowKit
set_option linter.unusedSimpArgs false
set_option linter.unusedVariables false
def St.put (σ:St)(dst:Option Tmp)(v:AV):Option St:=
 match dst with
 | none=>some σ
 | some d=>cond (ol d σ.nt) (some ⟨σ.nt,aP σ.tmps d v,σ.heap,σ.ids⟩) none
def St.with (σ:St)(H:Heap):St:=⟨σ.nt,σ.tmps,H,σ.ids⟩
def St.ay (σ:St)(l:List Nat):St:=⟨σ.nt,σ.tmps,σ.heap,σ.ids++l⟩
def Bd (σ:St):Prop:=∀ q,σ.heap q≠none→q∈σ.ids
structure adI where
 pg:FuncId→Option aX
 aP:FuncId→Option b5
 Mo:List Nat
abbrev Cons:=adI
def bK:Code→Option Nat
 | .region id _ _=>some id
 | .seq x y=>match bK x with
  | some i=>some i
  | none=>bK y
 | .cond _ x y=>match bK x with
  | some i=>some i
  | none=>bK y
 | .block _ x=>bK x
 | .loop x=>bK x
 | .scope x=>bK x
 | _=>none
abbrev cE:=Array Tmp×Code×Code
def aY:Code→List cE
 | .seq x y=>aY x++aY y
 | .cond _ x y=>aY x++aY y
 | .block _ x=>aY x
 | .loop x=>aY x
 | .scope x=>aY x
 | .rangeFunc _ ps asn body=>[(ps,asn,body)]
 | _=>[]
def cE.is (x:cE)(r:Nat):Bool:=match bK x.2.2 with
 | some q=>bm q r
 | none=>false
def vG (r:Nat):List cE→Option cE
 | []=>none
 | x::l=>cond (cE.is x r) (cond (l.any fun y=>cE.is y r) none (some x)) (vG r l)
theorem ze {r:Nat}:∀ {l:List cE} {x y:cE},vG r l=some y→x∈l→cE.is x r=true→y=x
 | [],x,y,h,hx,_=>by simp at hx
 | z::l,x,y,h,hx,hr=>by
  simp only[vG] at h
  rcases dp.1 hx with rfl|hx
  ·rw[hr] at h
   simp only[cond_true] at h
   cases hb:(l.any fun y=>cE.is y r) with
   | true=>rw[hb] at h;simp at h
   | false=>rw[hb] at h;simpa using h.symm
  ·cases hz:cE.is z r with
   | true=>
    rw[hz] at h
    have:(l.any fun y=>cE.is y r)=true:=ft.2 ⟨x,hx,hr⟩
    rw[this] at h;simp at h
   | false=>rw[hz] at h;exact ze h hx hr
def dB (P:Program)(k r:Nat):Option cE:=
 match P.funcs[k]? with
 | some fn=>match fn.body with
  | some c=>vG r (aY c)
  | none=>none
 | none=>none
def bX [aq](P:Program)(C:Cons):Prop:=
 (∀ k c,C.pg k=some c→c.OK P k)∧(∀ k u,C.aP k=some u→u.OK P k)∧∀ k r,aq.fX k r=dB P k r
def yl (C:Cons)(o:Oper)(k:FuncId):Option b5:=
 match o.op with
 | .call c=>match c.callee with
  | .value (.func k')=>cond (bm k' k) (C.aP k) none
  | _=>none
 | _=>none
def Fi (C:Cons)(o:Oper):Bool:=
 match o.op with
 | .call c=>match c.callee with
  | .value (.func k)=>(C.aP k).isSome
  | _=>false
 | _=>false
theorem s8 {C:Cons}{o:Oper}{k:FuncId}{u:b5}(h:yl C o k=some u):Fi C o=true∧C.aP k=some u:=by
 unfold yl at h
 unfold Fi
 split at h
 ·rename_i c hc
  split at h
  ·rename_i k' hk
   obtain⟨h1,h2⟩:=(show bm k' k=true∧C.aP k=some u by
    cases hb:bm k' k with
    | true=>rw[hb] at h;exact⟨rfl,h⟩
    | false=>rw[hb] at h;simp at h)
   have:=aw h1
   subst this
   exact⟨by rw[h2];rfl,h2⟩
  ·simp at h
 ·simp at h
def sS (C:Cons):Callee→Option aX
 | .fn k=>C.pg k
 | .iK _=>none
def iH (C:Cons)(o:Oper):Callee→Option b5
 | .fn k=>yl C o k
 | .iK _=>none
theorem AZ {C:Cons}{o:Oper}{k:Callee}{u:b5}(h:iH C o k=some u):Fi C o=true:=by
 cases k with
 | fn k=>exact (s8 h).1
 | iK i=>simp[iH] at h
abbrev jy:=Nat→Callee→List AV→Heap→List Nat→Option (AV×Heap×List Nat)
def AV.ep:AV→Bool
 | .fE _=>true
 | _=>false
abbrev DH (u:Value):List PanicEntry:=[{ v:=u,recovered:=false }]
def fq (μ:Mu)(S:ar)(H:Heap)(v:AV)(e:Ending):Prop:=
 match v with
 | .fE x=>∃ u,e = .panicked (DH u)∧VR μ S H x u
 | v=>∃ u,e = .returned u∧VR μ S H v u
theorem fq.ret {μ:Mu}{S:ar}{H:Heap}{v:AV}{u:Value}(h:VR μ S H v u):fq μ S H v (.returned u):=by
 cases v<;>first|exact⟨u,rfl,h⟩|(simp only[VR] at h)
theorem fq.val {μ:Mu}{S:ar}{H:Heap}{v:AV}{e:Ending}(h:fq μ S H v e)(hp:v.ep=false):∃ u,e = .returned u∧VR μ S H v u:=by
 cases v<;>first|exact h|(simp[AV.ep] at hp)
structure Ix where
 sets:List (Nat×aS)
 new:Bool
 v:AV
def eY (id:Nat):List (Nat×aS)→Bool
 | []=>true
 | (i,_)::l=>Nat.ble id i&&ol i (id+16)&&eY id l
def CU (P:Program)(o:Oper):Bool:=
 match o.op with
 | .move _=>false
 | .assign _=>false
 | .pick _ _ _=>false
 | .alloc _=>false
 | .box _ _=>false
 | .field _ _ _=>false
 | .binOp _ _ _ _ _=>false
 | .unOp _ _ _=>false
 | .convert s _ _=>match P.underlying s with
  | some (.slice _)=>true
  | _=>false
 | .extract _ _=>false
 | .index _ _ _=>false
 | .makeFunc _ _ _=>false
 | _=>true
def vl (c:aX)(Hh:Heap)(id:Nat)(as:List AV):Option Ix:=
 match cy (iA c Hh) c.ps as with
 | some x=>match c.f x with
  | some y=>some ⟨iG c.rs y id,true,gw (p7 c.rs y id)⟩
  | none=>none
 | none=>none
mutual
def AV.pure:AV→Bool
 | .lit _=>true
 | .cont _ _=>true
 | .FI _ _ _=>true
 | .agg l=>qF l
 | .uo l=>qF l
 | _=>false
def qF:List AV→Bool
 | []=>true
 | a::l=>a.pure&&qF l
end
def wD (a:AV):AV:=cond a.pure a .ah
def mO (C:Cons)(id:Nat)(o:Oper):Bool:=C.Mo.any (bm id)&&(match o.op with
 | .buildSlice _ _ _=>true
 | .call c=>match c.callee with
  | .builtin .append=>true
  | _=>false
 | _=>false)
def mX (P:Program)(id:Nat)(o:Oper)(ρ:Operand→AV):Option (Bool×AV):=
 match sem P gr id o (fun x=>wD (ρ x)) with
 | some (.new c i (.row _ e g xs) (.sl j g'))=>cond (bm i j&&bm g g') (some (c,.cont e xs)) none
 | _=>none
def bI (P:Program)(C:Cons)(Hh:Heap)(id:Nat)(o:Oper)(ρ:Operand→AV):Option Ix:=
 match sem P Hh id o ρ with
 | some (.val c v)=>cond c (some ⟨[],false,v⟩) none
 | some (.new c i ob v)=>cond c (some ⟨[(i,ob)],true,v⟩) none
 | some (.wr c i ob v)=>cond c (some ⟨[(i,ob)],false,v⟩) none
 | some (.RB c i ob v u)=>cond c (some ⟨[(i,ob)],false,v⟩) (some ⟨[],false,u⟩)
 | some (.call k as)=>match iH C o k with
  | some u=>match jm u Hh as with
   | some (i,ob,v)=>some ⟨[(i,ob)],false,v⟩
   | none=>none
  | none=>match CU P o,sS C k with
   | true,some pg=>vl pg Hh id as
   | _,_=>none
 | none=>none
def bF (P:Program)(C:Cons)(Hh:Heap)(id:Nat)(o:Oper)(ρ:Operand→AV):Option Ix:=
 cond (mO C id o) (match mX P id o ρ with
  | some (c,v)=>cond c (some ⟨[],false,v⟩) none
  | none=>none) (bI P C Hh id o ρ)
def St.ED (σ:St)(id:Nat)(dst:Option Tmp)(e:Ix):Option St:=
 cond (e.new && !(bn σ.heap e.sets&&eY id e.sets)) none ((σ.with (bc σ.heap e.sets)).put dst e.v)
def eM (P:Program)(C:Cons)(F:jy)(Hh:Heap)(id:Nat)(o:Oper)(ρ:Operand→AV)(H:Heap)(L:List Nat):Option (AV×Heap×List Nat):=
 match sem P Hh id o ρ with
 | some (.call k as)=>match sS C k with
  | some _=>none
  | none=>F id k as H L
 | _=>none
def want (ops:Array Oper)(σ:St)(o:Oper):Option Bool:=
 match o.guard with
 | none=>some true
 | some (j,b)=>match ops[j]? with
  | some g=>match g.dst with
   | some d=>match σ.val (.tmp d) with
    | .lit (.bool c)=>some (c == b)
    | .lit (.tuple _)=>some false
    | _=>none
   | none=>some false
  | none=>some false
inductive Ex where
 | dS
 | exit (id:Nat)
 | goto (l:Nat)
 | ret
 | fE (v:AV)
def gq (P:Program)(C:Cons)(F:jy)(ops:Array Oper)(hide:Heap→Heap)(id i:Nat)(σ:St):Option St:=
 match ops[i]? with
 | none=>some σ
 | some o=>match want ops σ o with
  | some true=>match bF P C (hide σ.heap) id o σ.val with
   | some e=>σ.ED id o.dst e
   | none=>match eM P C F (hide σ.heap) id o σ.val σ.heap σ.ids with
    | some (v,H',L')=>cond v.ep none ((⟨σ.nt,σ.tmps,H',L'⟩:St).put o.dst v)
    | none=>none
  | some false=>σ.put o.dst (.lit undef)
  | none=>none
def fC (P:Program)(C:Cons)(F:jy)(ops:Array Oper)(hide:Heap→Heap)(id i:Nat)(σ:St):Option (AV×Heap×List Nat):=
 match ops[i]? with
 | none=>none
 | some o=>match want ops σ o with
  | some true=>match o.op with
   | .panic x=>match σ.val x with
    | .AJ t v=>some (.AJ t v,σ.heap,σ.ids)
    | _=>none
   | _=>match bF P C (hide σ.heap) id o σ.val with
    | some _=>none
    | none=>match eM P C F (hide σ.heap) id o σ.val σ.heap σ.ids with
     | some (.fE x,H',L')=>some (x,H',L')
     | _=>none
  | _=>none
def eB (P:Program)(C:Cons)(ops:Array Oper)(Hh:Heap)(id i:Nat)(σ:St):List Nat:=
 match ops[i]? with
 | none=>[]
 | some o=>match want ops σ o with
  | some true=>match bF P C Hh id o σ.val with
   | some e=>cond e.new (e.sets.map (·.1)) []
   | none=>[]
  | _=>[]
def eX:jy:=fun _ _ _ _ _=>none
def ul (P:Program)(μ:Mu)(c:Callee)(us:Array Value)(w:World)(R:Ending→World→Prop):Prop:=
 match c with
 | .fn k=>Calls P k us w R
 | .iK i=>∀ b cp,μ i=some ⟨some b,cp,aT⟩→∃ f tmps asn body,(Instr.yield b us).run P w = .ok (.round b f tmps asn body) w∧RoundIn Fence.wide 0 P b f tmps asn body w R
theorem ul.mono {P:Program}{μ:Mu}{c:Callee}{us:Array Value}{w:World}{R R':Ending→World→Prop}(h:ul P μ c us w R)(hR:∀ e w',R e w'→R' e w'):ul P μ c us w R':=by
 cases c with
 | fn k=>exact Calls.mono h hR
 | iK i=>
  intro b cp hm
  obtain⟨f,tmps,asn,body,h1,h2,h3⟩:=h b cp hm
  refine⟨f,tmps,asn,body,h1,h2,fun c cs hr=>?_⟩
  obtain⟨e,w',q1,q2⟩:=h3 c cs hr
  exact⟨e,w',hR e w' q1,q2⟩
abbrev WF (r:Option Nat):Fence:={ Fence.wide with round:=r }
theorem iE {r:Option Nat}{n:Nat}{P:Program}{f:FuncId}{args:Array Value}{w:World}{R:Ending→World→Prop}:CallsIn (WF r) n P f args w R↔Calls P f args w R:=callsIn_wide
theorem IB {r:Option Nat}{P:Program}{o:Oper}{a:Act}{next:Act→World→Prop}{Q:Exit→Act→World→Prop}{μ:Mu}{k:Callee}{us:Array Value}{w:World}{res:Result Next}
  (h:K7 P μ w k us res) (hc:ul P μ k us w fun e w'=>(∃ v,e = .returned v∧next (a.put o.dst v) w')∨∃ u,e = .panicked (DH u)∧Q (.panic (DH u)) a w'):o.uponIn (WF r) 0 P a next Q res:=by
 cases k with
 | fn k=>
  simp only[K7] at h
  subst h
  rw[Oper.uponIn_enter]
  refine⟨fun h=>(by cases h),iE.2 (Calls.mono hc ?_)⟩
  rintro e w' (⟨v,rfl,h⟩|⟨u,rfl,h⟩)
  ·exact h
  ·exact h
 | iK i=>
  obtain⟨b,c,hm,rfl⟩:=h
  obtain⟨f,tmps,asn,body,h1,h2,h3⟩:=hc b c hm
  rw[h1,Oper.uponIn_round]
  refine⟨fun h=>(by cases h),h2,fun c cs hr=>?_⟩
  obtain⟨e,w',q1,q2⟩:=h3 c cs hr
  rcases q1 with⟨v,rfl,q1⟩|⟨u,rfl,q1⟩
  ·exact⟨.returned v,w',q1,q2⟩
  ·exact⟨.panicked (DH u),w',q1,q2⟩
theorem eW {P:Program}{Hh:Heap}{id:Nat}{o:Oper}{ρa:Operand→AV}{out:Out}{r:Option Nat}{ρ:Operand→Value}(h:sem P Hh id o ρa=some out):o.semAt r ρ=execOp ρ o:=by
 refine Oper.semAt_eq r ρ o fun c hc=>?_
 unfold sem at h
 rw[hc] at h
 simp at h
theorem rP {r:Option Nat}{P:Program}{o:Oper}{a:Act}{next:Act→World→Prop}{Q:Exit→Act→World→Prop}{μ:Mu}{k:Callee}{us:Array Value}{w:World}{res:Result Next}
  (h:K7 P μ w k us res) (hc:ul P μ k us w fun e w'=>∃ v,e = .returned v∧next (a.put o.dst v) w'):o.uponIn (WF r) 0 P a next Q res:=by
 cases k with
 | fn k=>
  simp only[K7] at h
  subst h
  rw[Oper.uponIn_enter]
  refine⟨fun h=>(by cases h),iE.2 (Calls.mono hc ?_)⟩
  rintro e w' ⟨v,rfl,h⟩
  exact h
 | iK i=>
  obtain⟨b,c,hm,rfl⟩:=h
  obtain⟨f,tmps,asn,body,h1,h2,h3⟩:=hc b c hm
  rw[h1,Oper.uponIn_round]
  refine⟨fun h=>(by cases h),h2,fun c cs hr=>?_⟩
  obtain⟨e,w',⟨v,rfl,q1⟩,q2⟩:=h3 c cs hr
  exact⟨.returned v,w',q1,q2⟩
def cV [aq](P:Program)(F:jy):Prop:=
 ∀ id k as H L v H' L',F id k as H L=some (v,H',L')→(∀ q,H q≠none→q∈L)→(∀ q,H' q≠none→q∈L')∧∀ (μ:Mu) (S:ar) (B:Nat) (w0 w:World) (us:Array Value),Rel μ S H B w0 w→aH μ S H as us.toList →
  ul P μ k us w fun e w'=>∃ μ' S',fq μ' S' H' v e∧Rel μ' S' H' B w0 w'∧Carry B μ S H μ' S' H'
section
variable [aq]{P:Program}{C:Cons}{F:jy}{r:Option Nat}{N:ar}{Dt:Bool×List Deferred}{w w0:World}{μ μ':Mu}{S S':ar}{B:Nat}{σ σ':St}{a:Act}{H':Heap}{L':List Nat}{Q:Exit→Act→World→Prop}{K:Act→World→Prop}
omit [aq] in
theorem AR.put {B:Nat}(A:AR N Dt μ S σ a)(hc:Carry B μ S σ.heap μ' S' H'){v:AV}{u:Value}(hv:VR μ' S' H' v u){dst:Option Tmp}(h:(⟨σ.nt,σ.tmps,H',L'⟩:St).put dst v=some σ') :
  AR N Dt μ' S' σ' (a.put dst u)∧σ'.heap=H':=by
 have mk_defers:∃ ms:List Nat,a.defers=ms.map (fun D=>⟨.collected D,#[]⟩)++Dt.2∧Mark S' N ms∧(Dt.1=true→ms=[]):=by
  obtain⟨ms,h1,⟨h2,h3⟩,h4⟩:=A.defers
  exact⟨ms,h1,⟨h2,fun D hD=>⟨(h3 D hD).1,hc.sub _ _ (h3 D hD).2⟩⟩,h4⟩
 cases dst with
 | none=>
  simp only[St.put,al] at h;subst h
  exact⟨⟨mk_defers,A.size,fun t ht=>hc.vr _ _ (A.tmp t ht)⟩,rfl⟩
 | some d=>
  obtain⟨hd,rfl⟩:=ai h
  have hd:=cP hd
  refine⟨⟨mk_defers,by simp only[Act.put,Array.size_setIfInBounds];exact A.size,fun t ht=>?_⟩,rfl⟩
  simp only at hd ht ⊢
  by_cases e:t=d
  ·subst e
   rw[au]
   simp only[Act.put]
   have:t<a.tmps.size:=by rw[A.size];exact hd
   simpa [ae,this] using hv
  ·rw[ax _ _ e]
   simp only[Act.put]
   have:=hc.vr _ _ (A.tmp t ht)
   rw[ae] at this ⊢
   rw[fj (Ne.symm e)];exact this
omit [aq] in
theorem Ao (A:AR N Dt μ S σ a){ops:Array Oper}{o:Oper}{b:Bool}(h:want ops σ o=some b):Region.wanted o (yielded ops a.tmps)=b:=by
 unfold want at h
 unfold Region.wanted
 split at h
 ·rename_i hg;rw[hg];simpa using h
 ·rename_i j bb hg
  rw[hg]
  simp only[yielded]
  split at h
  ·rename_i g hj
   rw[hj]
   simp only[Option.bind_some]
   split at h
   ·rename_i d hd
    rw[hd]
    simp only[Option.bind_some]
    have hv:∀ {x:AV},σ.val (.tmp d)=x→x ≠ .ah→∃ u,a.tmps[d]? = some u∧VR μ S σ.heap x u:=by
     intro x hx hx2
     simp only[St.val] at hx
     cases hl:ol d σ.nt with
     | false=>rw[hl] at hx;exact absurd hx.symm hx2
     | true=>
      rw[hl] at hx
      have:=A.tmp d (cP hl)
      simp only[cond_true] at hx
      rw[hx] at this
      have hs:d<a.tmps.size:=by rw[A.size];exact cP hl
      refine⟨a.tmps[d],by simp[hs],?_⟩
      simpa [ae,hs] using this
    split at h
    ·rename_i c hx
     obtain⟨u,h1,h2⟩:=hv hx (by simp)
     simp only[VR] at h2;subst h2
     rw[h1]
     simp only[al] at h
     rw[← h];cases c<;>cases bb<;>rfl
    ·rename_i vs hx
     obtain⟨u,h1,h2⟩:=hv hx (by simp)
     simp only[VR] at h2;subst h2
     rw[h1]
     simp only[al] at h
     rw[← h];rfl
    ·simp at h
   ·rename_i hd
    rw[hd]
    simp only[al] at h
    rw[← h];rfl
  ·rename_i hj
   rw[hj]
   simp only[al] at h
   rw[← h];rfl
omit [aq] in
mutual
theorem J3 {μ':Mu}{H H':Heap}:∀ (a:AV) (v:Value),a.pure=true→VR μ S H a v→VR μ' S H' a v
 | .lit _,v,_,h=>by simp only[VR] at h ⊢;exact h
 | .cont _ _,v,_,h=>by simp only[VR] at h ⊢;exact h
 | .FI _ _ _,v,_,h=>by simp only[VR] at h ⊢;exact h
 | .agg l,v,hp,h=>by
  simp only[VR] at h ⊢
  obtain⟨x,h1,h2⟩:=h
  exact⟨x,h1,mb l _ hp h2⟩
 | .uo l,v,hp,h=>by
  simp only[VR] at h ⊢
  obtain⟨x,h1,h2⟩:=h
  exact⟨x,h1,mb l _ hp h2⟩
theorem mb {μ':Mu}{H H':Heap}:∀ (l:List AV) (vs:List Value),qF l=true→aH μ S H l vs→aH μ' S H' l vs
 | [],vs,_,h=>by simp only[aH] at h ⊢;exact h
 | a::l,vs,hp,h=>by
  simp only[qF,ap] at hp
  simp only[aH] at h ⊢
  obtain⟨v,r,h1,h2,h3⟩:=h
  exact⟨v,r,h1,J3 a v hp.1 h2,mb l r hp.2 h3⟩
end
omit [aq] in
theorem Lw {μ':Mu}{H H':Heap}{a:AV}{v:Value}(h:VR μ S H a v):VR μ' S H' (wD a) v:=by
 unfold wD
 cases hp:a.pure with
 | true=>exact J3 a v hp h
 | false=>simp only[cond_false,VR]
theorem Xx {id:Nat}{o:Oper}{v:AV}(h:mX P id o σ.val=some (true,v))(A:AR N Dt μ S σ a)(R:Rel μ S σ.heap B w0 w) :
  o.semAt r a.eval=execOp a.eval o∧∃ n u w' S',(execOp a.eval o).run P w = .ok n w'∧V2 n u∧Rel μ S' σ.heap B w0 w'∧Carry B μ S σ.heap μ S' σ.heap∧VR μ S' σ.heap v u:=by
 unfold mX at h
 split at h
 case h_2=>simp at h
 rename_i c i te e g xs j g' hsem
 obtain⟨hb,h3⟩:=ai h
 clear h
 simp only[ap] at hb
 have h1:=aw hb.1
 have h2:=aw hb.2
 subst h1 h2
 cases h3
 have R0:Rel (fun _=>none) S gr w.heap.size w w:=⟨Below.refl _ _,eJ _,R.st,fun _=>rfl,fun _ _ h=>by simp[gr] at h,fun _ _ _ _ _ _ h=>by simp at h,fun _ _ h=>by simp at h,R.pre⟩
 obtain⟨n,u,w',μ',k1,k2,k3,k4,k5⟩:=wS (Hh:=gr) (fun _ _ h=>h) R0 (fun x=>Lw (μ':=fun _=>none) (H':=gr) (A.val x)) hsem rfl rfl
 refine⟨eW hsem,n,u,w',?_⟩
 simp only[Out.res,Out.heap] at k3 k5
 obtain⟨l,m1,m2⟩:=k3.obj i _ (au _ _ _)
 have m2:iD S w' w.heap.size l te e xs:=m2
 simp only[VR] at k5
 obtain⟨_,l',m3,m4⟩:=k5
 cases m1.symm.trans m3
 have hu:=(m4 _ _ _ _ (au _ _ _)).2 rfl
 subst hu
 let S':ar:=fun b=>if l.blk=some b then w'.heap[b]? else S b
 have e1:∀ b,l.blk=some b→S' b=w'.heap[b]?:=fun b hb=>if_pos hb
 have e2:∀ b,l.blk≠some b→S' b=S b:=fun b hb=>if_neg hb
 have hsub:∀ b o,S b=some o→S' b=some o:=fun b o' hs=>by
  rw[e2 b (fun hb=>by rw[(fU m2 hb).2.2] at hs;simp at hs)];exact hs
 obtain⟨R',E⟩:=R.grow (S':=S') k3.below hsub (fun b o' hs=>by
  by_cases hb:l.blk=some b
  ·rw[← e1 b hb];exact hs
  ·rw[e2 b hb] at hs;exact k3.st b o' hs) (fun b hs=>by
  by_cases hb:l.blk=some b
  ·exact .inr (fU m2 hb).2.1
  ·rw[e2 b hb] at hs;exact .inl hs)
 refine⟨S',k1,k2,R',⟨fun a v=>dA E a v,fun b hs=>?_,hsub⟩,?_⟩
 ·by_cases hb:l.blk=some b
  ·exact .inr (Nat.le_trans R.size (fU m2 hb).2.1)
  ·rw[e2 b hb] at hs;exact .inl hs
 ·simp only[VR]
  exact jN hsub (fun b hb=>e1 b hb) m2
theorem gH (hC:bX P C)(hF:cV P F){ops:Array Oper}{hide:Heap→Heap}(hs:∀ H i o,hide H i=some o→H i=some o){id i:Nat}
  (h:gq P C F ops hide id i σ=some σ') (hBd:Bd σ∨F=eX) (A:AR N Dt μ S σ a) (R:Rel μ S σ.heap B w0 w)
  (hK:∀ a' w' μ' S',AR N Dt μ' S' σ' a'→Rel μ' S' σ'.heap B w0 w'→Carry B μ S σ.heap μ' S' σ'.heap→K a' w'):wpOpIn (WF r) 0 P ops Q i K a w:=by
 unfold gq at h
 unfold wpOpIn
 split at h
 ·rename_i ho
  rw[ho];cases h
  exact hK a w μ S A R Carry.refl
 ·rename_i o ho
  rw[ho]
  split at h
  ·rename_i hw
   simp only[Ao A hw,if_true]
   unfold Oper.wpIn
   refine⟨fun _ _=>trivial,?_⟩
   have sub:=hs σ.heap
   split at h
   ·rename_i e he
    unfold bF at he
    cases hz:mO C id o with
    | true=>
     rw[hz] at he
     simp only[cond_true] at he
     split at he
     case h_2=>simp at he
     rename_i c v hv
     obtain⟨hc,rfl⟩:=ai he
     subst hc
     obtain⟨g1,n,u,w',S',k1,k2,k3,k4,k5⟩:=Xx hv A R (r:=r)
     rw[g1,k1]
     have h':(σ.with σ.heap).put o.dst v=some σ':=h
     obtain⟨A',e'⟩:=A.put k4 k5 h'
     have fin:=hK _ w' μ S' A' (by rw[e'];exact k3) (by rw[e'];exact k4)
     rcases k2 with rfl|⟨rfl,rfl⟩<;>exact fin
    | false=>
    rw[hz] at he
    simp only[cond_false] at he
    unfold bI at he
    split at he
    ·rename_i c v hsem
     obtain⟨hc,rfl⟩:=ai he
     obtain⟨n,u,w',μ',k1,k2,k3,k4,k5⟩:=wS sub R (fun x=>A.val x) hsem hc rfl
     rw[eW hsem,k1]
     have h':(σ.with σ.heap).put o.dst v=some σ':=h
     obtain⟨A',e'⟩:=A.put (Carry.of (B:=B) k4) k5 h'
     have fin:=hK _ w' μ' S A' (by rw[e'];exact k3) (by rw[e'];exact Carry.of k4)
     rcases k2 with rfl|⟨rfl,rfl⟩<;>exact fin
    ·rename_i c i' ob v hsem
     obtain⟨hc,rfl⟩:=ai he
     have h2:(bn σ.heap [(i',ob)]&&eY id [(i',ob)])=true∧(σ.with (bc σ.heap [(i',ob)])).put o.dst v=some σ':=by
      unfold St.ED at h
      cases hb:(bn σ.heap [(i',ob)]&&eY id [(i',ob)]) with
      | false=>rw[hb] at h;simp at h
      | true=>rw[hb] at h;exact⟨rfl,h⟩
     obtain⟨h2,h'⟩:=h2
     have hfr:(Out.new c i' ob v).fresh σ.heap=true:=by
      simp only[ap,bn] at h2
      exact h2.1.1
     obtain⟨n,u,w',μ',k1,k2,k3,k4,k5⟩:=wS sub R (fun x=>A.val x) hsem hc hfr
     rw[eW hsem,k1]
     obtain⟨A',e'⟩:=A.put (Carry.of (B:=B) k4) k5 h'
     have fin:=hK _ w' μ' S A' (by rw[e'];exact k3) (by rw[e'];exact Carry.of k4)
     rcases k2 with rfl|⟨rfl,rfl⟩<;>exact fin
    ·rename_i c i' ob v hsem
     obtain⟨hc,rfl⟩:=ai he
     obtain⟨n,u,w',μ',k1,k2,k3,k4,k5⟩:=wS sub R (fun x=>A.val x) hsem hc rfl
     rw[eW hsem,k1]
     have h':(σ.with (bc σ.heap [(i',ob)])).put o.dst v=some σ':=h
     obtain⟨A',e'⟩:=A.put (Carry.of (B:=B) k4) k5 h'
     have fin:=hK _ w' μ' S A' (by rw[e'];exact k3) (by rw[e'];exact Carry.of k4)
     rcases k2 with rfl|⟨rfl,rfl⟩<;>exact fin
    ·rename_i c i' ob v u' hsem
     obtain⟨n,u,w',μ',k1,k2,k3,k4,k5⟩:=wS sub R (fun x=>A.val x) hsem rfl rfl
     rw[eW hsem,k1]
     cases c with
     | true=>
      simp only[cond_true,al] at he;subst he
      have h':(σ.with (bc σ.heap [(i',ob)])).put o.dst v=some σ':=h
      obtain⟨A',e'⟩:=A.put (Carry.of (B:=B) k4) k5 h'
      have fin:=hK _ w' μ' S A' (by rw[e'];exact k3) (by rw[e'];exact Carry.of k4)
      rcases k2 with rfl|⟨rfl,rfl⟩<;>exact fin
     | false=>
      simp only[cond_false,al] at he;subst he
      have h':(σ.with σ.heap).put o.dst u'=some σ':=h
      obtain⟨A',e'⟩:=A.put (Carry.of (B:=B) k4) k5 h'
      have fin:=hK _ w' μ' S A' (by rw[e'];exact k3) (by rw[e'];exact Carry.of k4)
      rcases k2 with rfl|⟨rfl,rfl⟩<;>exact fin
    ·rename_i k as hsem
     split at he
     ·rename_i u hupd
      split at he
      ·rename_i i' ob v hout
       cases he
       obtain⟨us,k1,k2⟩:=qy (w:=w) (fun x=>A.val x) hsem
       rw[eW hsem]
       cases k with
       | iK _=>simp[iH] at hupd
       | fn k=>
       refine rP k1 (ul.mono (c:=.fn k) (Qp (hC.2.1 _ _ (s8 hupd).2) sub R k2 hout) ?_)
       rintro e w' ⟨v,μ',rfl,q1,q2,q3⟩
       refine⟨_,rfl,?_⟩
       have h':(σ.with (aP σ.heap i' (some ob))).put o.dst _=some σ':=h
       obtain⟨A',e'⟩:=A.put q3 q1 h'
       exact hK _ w' μ' S A' (by rw[e'];exact q2) (by rw[e'];exact q3)
      ·simp at he
     split at he
     ·rename_i pg _ hcon
      unfold vl at he
      split at he
      ·rename_i x hx
       split at he
       ·rename_i y hy
        cases he
        have h2:(bn σ.heap (iG pg.rs y id)&&eY id (iG pg.rs y id))=true∧(σ.with (bc σ.heap (iG pg.rs y id))).put o.dst (gw (p7 pg.rs y id))=some σ':=by
         unfold St.ED at h
         cases hb:(bn σ.heap (iG pg.rs y id)&&eY id (iG pg.rs y id)) with
         | false=>rw[hb] at h;simp at h
         | true=>rw[hb] at h;exact⟨rfl,h⟩
        obtain⟨h2,h'⟩:=h2
        simp only[ap] at h2
        obtain⟨us,k1,k2⟩:=qy (w:=w) (fun x=>A.val x) hsem
        rw[eW hsem]
        cases k with
        | iK _=>simp[sS] at hcon
        | fn k=>
        refine rP k1 (ul.mono (c:=.fn k) (Q9 (hC.1 _ _ hcon) sub R k2 hx hy h2.1) ?_)
        rintro e w' ⟨v,μ',S',rfl,q1,q2,q3⟩
        refine⟨_,rfl,?_⟩
        obtain⟨A',e'⟩:=A.put q3 q1 h'
        exact hK _ w' μ' S' A' (by rw[e'];exact q2) (by rw[e'];exact q3)
       ·simp at he
      ·simp at he
     ·simp at he
    ·simp at he
   ·split at h
    ·rename_i v H' L' hi
     unfold eM at hi
     split at hi
     ·rename_i k as hsem
      split at hi
      ·simp at hi
      ·obtain⟨us,k1,k2⟩:=qy (w:=w) (fun x=>A.val x) hsem
       rw[eW hsem]
       have hBd:Bd σ:=by
        rcases hBd with h|h
        ·exact h
        ·subst h;simp[eX] at hi
       obtain⟨hnp,h⟩:=cu h
       refine rP k1 (((hF _ _ _ _ _ _ _ _ hi hBd).2 μ S B w0 w us R k2).mono ?_)
       rintro e w' ⟨μ',S',q0,q2,q3⟩
       obtain⟨u,rfl,q1⟩:=q0.val hnp
       refine⟨_,rfl,?_⟩
       obtain⟨A',e'⟩:=A.put q3 q1 h
       exact hK _ w' μ' S' A' (by rw[e'];exact q2) (by rw[e'];exact q3)
     ·simp at hi
    ·simp at h
  ·rename_i hw
   simp only[Ao A hw,da,if_false]
   have h':(σ.with σ.heap).put o.dst (.lit undef)=some σ':=h
   obtain⟨A',e'⟩:=A.put (Carry.refl (B:=B) (H:=σ.heap)) (v:=.lit undef) (u:=undef) (by simp only[VR]) h'
   exact⟨fun _ _=>trivial,hK _ w μ S A' (by rw[e'];exact R) (by rw[e'];exact Carry.refl)⟩
  ·simp at h
theorem mF (hF:cV P F){ops:Array Oper}{hide:Heap→Heap}{id i:Nat}{x:AV}(h:fC P C F ops hide id i σ=some (x,H',L'))(hBd:Bd σ)(A:AR N Dt μ S σ a)(R:Rel μ S σ.heap B w0 w)
  (hK:∀ w' μ' S' u,AR N Dt μ' S' ⟨σ.nt,σ.tmps,H',L'⟩ a→Rel μ' S' H' B w0 w'→Carry B μ S σ.heap μ' S' H'→VR μ' S' H' x u→Q (.panic (DH u)) a w'):wpOpIn (WF r) 0 P ops Q i K a w:=by
 unfold fC at h
 unfold wpOpIn
 split at h
 case h_1=>simp at h
 rename_i o ho
 rw[ho]
 split at h
 case h_2=>simp at h
 rename_i hw
 simp only[Ao A hw,if_true]
 unfold Oper.wpIn
 refine⟨fun _ _=>trivial,?_⟩
 have keep:∀ {μ' S' w'} {H':Heap} {L':List Nat},Rel μ' S' H' B w0 w'→Carry B μ S σ.heap μ' S' H'→AR N Dt μ' S' ⟨σ.nt,σ.tmps,H',L'⟩ a:=fun {μ' S' w' H' L'} R' C'=>
  (A.put (σ':=⟨σ.nt,σ.tmps,H',L'⟩) (H':=H') (L':=L') C' (v:=.lit undef) (u:=undef) (by simp only[VR]) (dst:=none) rfl).1
 split at h
 ·rename_i y hop
  split at h
  case h_2=>simp at h
  rename_i t v hv
  cases h
  have hx:=A.val y
  rw[hv] at hx
  have hx':=hx
  simp only[VR] at hx
  obtain⟨u,he,hu⟩:=hx
  have hs:(o.semAt r a.eval).run P w = .halt (.panic (.iface t u)) w:=by
   rw[Oper.semAt_eq r a.eval o (by rw[hop];simp)]
   unfold execOp
   rw[hop]
   simp only[he]
   rfl
  rw[hs]
  rw[Oper.uponIn_panic]
  rw[he] at hx'
  exact hK w μ S (.iface t u) A R Carry.refl hx'
 ·split at h
  ·simp at h
  split at h
  case h_2=>simp at h
  rename_i y H1 L1 hi
  cases h
  unfold eM at hi
  split at hi
  case h_2=>simp at hi
  rename_i k as hsem
  split at hi
  ·simp at hi
  ·obtain⟨us,k1,k2⟩:=qy (w:=w) (fun x=>A.val x) hsem
   rw[eW hsem]
   refine IB k1 (((hF _ _ _ _ _ _ _ _ hi hBd).2 μ S B w0 w us R k2).mono ?_)
   rintro e w' ⟨μ',S',q0,q2,q3⟩
   obtain⟨u,rfl,q1⟩:=q0
   exact .inr ⟨u,rfl,hK w' μ' S' u (keep q2 q3) q2 q3 q1⟩
theorem qU (hF:cV P F){ops:Array Oper}{hide:Heap→Heap}{id i:Nat}{x:AV}(h:fC P C F ops hide id i σ=some (x,H',L'))(hBd:Bd σ):∀ q,H' q≠none→q∈L':=by
 unfold fC at h
 split at h
 case h_1=>simp at h
 split at h
 case h_2=>simp at h
 split at h
 ·split at h
  case h_2=>simp at h
  cases h
  exact hBd
 ·split at h
  ·simp at h
  split at h
  case h_2=>simp at h
  rename_i hi
  cases h
  unfold eM at hi
  split at hi
  case h_2=>simp at hi
  split at hi
  ·simp at hi
  ·exact (hF _ _ _ _ _ _ _ _ hi hBd).1
omit [aq] in
theorem yw:∀ (l:List (Nat×aS)) (H:Heap) (q:Nat),bc H l q≠none→q∈l.map (·.1)∨H q≠none
 | [],H,q,h=>.inr h
 | (i,o)::l,H,q,h=>by
  rcases yw l _ q h with h|h
  ·exact .inl (by simp only[dd,dp];exact .inr h)
  ·by_cases e:q=i
   ·subst e;exact .inl (by simp)
   ·rw[ax _ _ e] at h;exact .inr h
omit [aq] in
theorem jH {σ σ':St}{dst:Option Tmp}{v:AV}(h:σ.put dst v=some σ'):σ'.heap=σ.heap∧σ'.ids=σ.ids:=by
 cases dst with
 | none=>simp only[St.put,al] at h;subst h;exact⟨rfl,rfl⟩
 | some d=>obtain⟨_,rfl⟩:=ai h;exact⟨rfl,rfl⟩
omit [aq] in
theorem yD {σ σ':St}{id:Nat}{dst:Option Tmp}{e:Ix}(h:σ.ED id dst e=some σ'):σ'.heap=bc σ.heap e.sets∧σ'.ids=σ.ids:=by
 unfold St.ED at h
 cases hb:(e.new && !(bn σ.heap e.sets&&eY id e.sets)) with
 | true=>rw[hb] at h;simp at h
 | false=>rw[hb] at h;exact jH h
end
def SM (o:Oper):Bool:=
 match o.op with
 | .store _ _ _=>true
 | .next _ _=>true
 | .mapEntry _ _ _=>true
 | .entryStore _ _ _ _=>true
 | .mapUpdate _ _ _ _=>true
 | .call c=>match c.callee with
  | .builtin .append=>true
  | .builtin .clear=>true
  | .builtin .delete=>true
  | _=>false
 | _=>false
def RF (C:Cons)(o:Oper):Bool:=SM o||Fi C o
theorem SI {P:Program}{C:Cons}{o:Oper}(h:RF C o=true):CU P o=true:=by
 obtain⟨dst,op,ty,pos,af,gd⟩:=o
 cases op<;>simp only[RF,SM,Fi,Bool.or_self,da] at h<;>rfl
def Be (m:List Nat)(o:Oper):Nat:=o.after.toList.foldl (fun s e=>cond (du .any e) (s ||| 2 ^ e.on ||| m.getD e.on 0) s) 0
def Ee:List Oper→List Nat→List Nat
 | [],acc=>acc
 | o::l,acc=>Ee l (acc++[Be acc o])
def aB (ops:Array Oper):List Nat:=Ee ops.toList []
def indep (P:Program)(C:Cons)(ops:Array Oper)(m:List Nat)(x i:Nat)(ox oi:Oper):Bool:=
 ox.apart ops oi && !(ba (m.getD i 0) x) && !(ba (m.getD x 0) i)
def Iu (P:Program)(C:Cons)(ops:Array Oper)(m:List Nat)(x i:Nat):Bool:=
 match ops[x]?,ops[i]? with
 | some ox,some oi=>ba (m.getD i 0) x||indep P C ops m x i ox oi
 | _,_=>false
def Cy (o:Oper)(i:Nat):Bool:=o.after.toList.all fun e=>cond (du .any e) (ol e.on i) true
def bO (P:Program)(C:Cons)(ops:Array Oper)(m:List Nat):Bool:=
 P.follows .mixedOrders &&
 (bj ops.size).all fun i=>match ops[i]? with
  | some o=>bm (m.getD i 0) (Be m o)&&Cy o i&&(bj i).all fun x=>Iu P C ops m x i
  | none=>false
def VD (base n mask q:Nat):Bool:=cond (Nat.ble base q&&ol q (base+n * 16)) (ba mask ((q-base) / 16)) true
def jh:AV→Option Nat
 | .ptr i _=>some i
 | .CY i _ _ _=>some i
 | .sl i _=>some i
 | .sub i _ _ _=>some i
 | .mp i=>some i
 | .zR i=>some i
 | .ur i _ _=>some i
 | .cH i _ _ _ _=>some i
 | .Mp i _ _ _=>some i
 | .Ks i _=>some i
 | _=>none
def gj (ρ:Operand→AV)(o:Oper):Option Nat:=
 match o.op with
 | .store _ a _=>jh (ρ a)
 | .next x _=>jh (ρ x)
 | .mapEntry _ x _=>jh (ρ x)
 | .mapUpdate _ x _ _=>jh (ρ x)
 | .entryStore _ x _ _=>jh (ρ x)
 | .call c=>match c.args.toList with
  | x::_=>jh (ρ x)
  | []=>none
 | _=>none
def uT (t b:Nat):List Oper→Nat→Option (Nat×Oper)
 | [],_=>none
 | o::l,n=>cond (ol n b) (match uT t b l (n+1) with
  | some r=>some r
  | none=>match o.dst with
   | some d=>cond (bm d t) (some (n,o)) none
   | none=>none) none
def Ak (P:Program)(ops:Array Oper)(σ:St):Nat→Nat→Operand→AV
 | 0,_,_=>.ah
 | n+1,b,.tmp t=>match uT t b ops.toList 0 with
  | some (y,o)=>match o.op with
   | .move x=>Ak P ops σ n y x
   | .assign x=>Ak P ops σ n y x
   | .nilCheck x=>Ak P ops σ n y x
   | .fieldAddr s x f=>match pJ P σ.heap s (Ak P ops σ n y x) f with
    | some (.val _ v)=>v
    | _=>.ah
   | .indexAddr t x i=>match Eu P σ.heap t (Ak P ops σ n y x) (Ak P ops σ n y i) with
    | some (.val _ v)=>v
    | _=>.ah
   | .load _ x=>match Ak P ops σ n y x with
    | .ptr j off=>match σ.heap j with
     | some (.box _ cs)=>match cs[off]? with
      | some a=>a
      | none=>.ah
     | _=>.ah
    | _=>.ah
   | _=>.ah
  | none=>σ.tmps t
 | _,_,x=>σ.val x
def uj (P:Program)(ops:Array Oper)(base:Nat)(σ:St):Nat→Nat→Operand→Option Nat
 | 0,_,_=>none
 | n+1,b,.tmp t=>match uT t b ops.toList 0 with
  | some (y,o)=>match o.op with
   | .alloc _=>some (base+y * 16)
   | .box _ _=>some (base+y * 16)
   | .move x=>uj P ops base σ n y x
   | .assign x=>uj P ops base σ n y x
   | .fieldAddr _ x _=>uj P ops base σ n y x
   | .indexAddr _ x _=>uj P ops base σ n y x
   | .load _ x=>match Ak P ops σ n y x with
    | .ptr j off=>match σ.heap j with
     | some (.box _ cs)=>match cs[off]? with
      | some a=>jh a
      | none=>none
     | _=>none
    | .ur j _ _=>some j
    | _=>none
   | .nilCheck x=>uj P ops base σ n y x
   | .call c=>match c.args.toList with
    | x::_=>match uj P ops base σ n y x with
     | some j=>some j
     | none=>some (base+y * 16)
    | []=>none
   | _=>none
  | none=>jh (σ.tmps t)
 | _,_,_=>none
def adm (P:Program)(C:Cons)(ops:Array Oper)(base:Nat)(σ:St)(i:Nat)(o:Oper):Option Nat:=
 cond (RF C o) (match o.op with
  | .store _ a _=>uj P ops base σ 9 i a
  | .next x _=>uj P ops base σ 9 i x
  | .mapEntry _ x _=>uj P ops base σ 9 i x
  | .mapUpdate _ x _ _=>uj P ops base σ 9 i x
  | .entryStore _ x _ _=>uj P ops base σ 9 i x
  | .call c=>match c.args.toList with
   | x::_=>uj P ops base σ 9 i x
   | []=>none
  | _=>none) none
def acX (P:Program)(C:Cons)(ops:Array Oper)(base:Nat)(σ:St):List (Option Nat):=
 (bj ops.size).map fun i=>match ops[i]? with
  | some o=>adm P C ops base σ i o
  | none=>none
def eqO:Option Nat→Nat→Bool
 | some i,j=>bm i j
 | none,_=>false
def Cp (P:Program)(ops:Array Oper)(m:List Nat)(i:Nat):Bool:=
 (bj ops.size).all fun x=>bm x i||ba (m.getD i 0) x||ba (m.getD x 0) i||(match ops[x]? with
  | some ox=>!(CU P ox)
  | none=>true)
def lK (P:Program)(C:Cons)(ops:Array Oper)(m:List Nat)(W:List (Option Nat))(i:Nat)(σ:St):Bool:=
 match ops[i]? with
 | some o=>cond (RF C o) (match gj σ.val o with
  | some j=>eqO (W.getD i none) j||Cp P ops m i
  | none=>true) true
 | none=>true
def adp (P:Program)(C:Cons)(ops:Array Oper)(m:List Nat):Bool:=
 (bj ops.size).any fun i=>match ops[i]? with
  | some o=>RF C o && !(Cp P ops m i)
  | none=>false
def pp (P:Program)(C:Cons)(ops:Array Oper)(m:List Nat)(base:Nat)(σ:St):List (Option Nat):=
 cond (adp P C ops m) (acX P C ops base σ) []
def xV (L:List Nat)(i:Nat):Bool:=L.any (bm i)
def pS (m:List Nat)(W:List (Option Nat))(n i:Nat):List Nat:=
 match W with
 | []=>[]
 | _::_=>(bj n).filterMap fun x=>cond (bm x i||ba (m.getD i 0) x||ba (m.getD x 0) i) none (W.getD x none)
def b6 (base n mask:Nat)(ot:List Nat)(H:Heap):Heap:=fun q=>cond (VD base n mask q && !xV ot q) (H q) none
def xQ (P:Program)(C:Cons)(ops:Array Oper)(m:List Nat)(W:List (Option Nat))(base i:Nat)(σ:St):Option St:=
 cond (lK P C ops m W i σ) (gq P C eX ops (b6 base ops.size (m.getD i 0) (pS m W ops.size i)) (base+i * 16) i σ) none
def dM (P:Program)(C:Cons)(ops:Array Oper)(m:List Nat)(W:List (Option Nat))(base:Nat):List Nat→St→Option St
 | [],σ=>some σ
 | i::l,σ=>match xQ P C ops m W base i σ with
  | some σ'=>dM P C ops m W base l σ'
  | none=>none
def fw (P:Program)(C:Cons)(ops:Array Oper)(m:List Nat)(W:List (Option Nat))(base:Nat):List Nat→St→List Nat
 | [],_=>[]
 | i::l,σ=>eB P C ops (b6 base ops.size (m.getD i 0) (pS m W ops.size i) σ.heap) (base+i * 16) i σ++(match xQ P C ops m W base i σ with
  | some σ'=>fw P C ops m W base l σ'
  | none=>[])
def tP (P:Program)(C:Cons)(ops:Array Oper)(base:Nat)(σ:St):Option St:=
 cond (bO P C ops (aB ops)) (match dM P C ops (aB ops) (pp P C ops (aB ops) base σ) base (bj ops.size) σ with
  | some σ'=>some (σ'.ay (fw P C ops (aB ops) (pp P C ops (aB ops) base σ) base (bj ops.size) σ))
  | none=>none) none
def oo (P:Program)(C:Cons)(F:jy)(ops:Array Oper)(base:Nat):List Nat→St→Option (Ex×St)
 | [],σ=>some (.dS,σ)
 | i::l,σ=>match fC P C F ops (fun H=>H) (base+i * 16) i σ with
  | some (x,H',L')=>some (.fE x,⟨σ.nt,σ.tmps,H',L'⟩)
  | none=>match gq P C F ops (fun H=>H) (base+i * 16) i σ with
   | some σ'=>oo P C F ops base l (σ'.ay (eB P C ops σ.heap (base+i * 16) i σ))
   | none=>none
def Ex.to:Ex→Exit
 | .dS=>.normal
 | .exit i=>.exit i
 | .goto l=>.goto l
 | .ret=>.ret
 | .fE _=>.normal
def Ex.Is (μ:Mu)(S:ar)(H:Heap)(e:Ex)(x:Exit):Prop:=
 match e with
 | .fE v=>∃ u,x = .panic (DH u)∧VR μ S H v u
 | e=>x=e.to
def wL (C:Cons)(ops:Array Oper)(m:List Nat):Option Nat:=
 match ops[ops.size-1]? with
 | some o=>match o.op with
  | .call c=>match c.callee with
   | .value (.func k)=>cond ((C.pg k).isNone&&(C.aP k).isNone&&(bj (ops.size-1)).all fun x=>ba (m.getD (ops.size-1) 0) x) (some (ops.size-1)) none
   | _=>none
  | _=>none
 | none=>none
def nc (P:Program)(C:Cons)(F:jy)(ops:Array Oper)(base z:Nat)(σ:St):Option (Ex×St):=
 match fC P C F ops (fun H=>H) (base+z * 16) z σ with
 | some (x,H',L')=>some (.fE x,⟨σ.nt,σ.tmps,H',L'⟩)
 | none=>match gq P C F ops (fun H=>H) (base+z * 16) z σ with
  | some σ'=>some (.dS,σ'.ay (eB P C ops σ.heap (base+z * 16) z σ))
  | none=>none
def o9 (P:Program)(C:Cons)(F:jy)(ops:Array Oper)(base:Nat)(σ:St):Option (Ex×St):=
 match wL C ops (aB ops) with
 | none=>match tP P C ops base σ with
  | some σ'=>some (.dS,σ')
  | none=>none
 | some z=>cond (bO P C ops (aB ops)) (match dM P C ops (aB ops) (pp P C ops (aB ops) base σ) base (bj z) σ with
  | some σ'=>nc P C F ops base z (σ'.ay (fw P C ops (aB ops) (pp P C ops (aB ops) base σ) base (bj z) σ))
  | none=>none) none
def gm (P:Program)(C:Cons)(ops:Array Oper)(Hh:Heap)(id:Nat)(o:Oper)(σ:St):Option Ix:=
 match want ops σ o with
 | some true=>bF P C Hh id o σ.val
 | some false=>some ⟨[],false,.lit undef⟩
 | none=>none
theorem fI {P:Program}{C:Cons}{ops:Array Oper}{hide:Heap→Heap}{id i:Nat}{σ:St}{o:Oper}(ho:ops[i]? = some o) :
  gq P C eX ops hide id i σ=match gm P C ops (hide σ.heap) id o σ with
   | some e=>σ.ED id o.dst e
   | none=>none:=by
 unfold gq gm
 rw[ho]
 simp only
 cases hw:want ops σ o with
 | none=>rfl
 | some b=>
  cases b with
  | true=>
   simp only
   cases he:bF P C (hide σ.heap) id o σ.val with
   | some e=>rfl
   | none=>
    have:eM P C eX (hide σ.heap) id o σ.val σ.heap σ.ids=none:=by
     unfold eM;split<;>first|rfl|(split<;>rfl)
    simp only[this]
  | false=>rfl
section
variable [aq]{P:Program}{C:Cons}{ops:Array Oper}{σ σ' σ1 σ2:St}{H H':Heap}
omit [aq] in
theorem val_congr {x:Operand}(hn:σ'.nt=σ.nt)(h:∀ t,x = .tmp t→σ'.tmps t=σ.tmps t):σ'.val x=σ.val x:=by
 cases x with
 | tmp t=>simp only[St.val,hn,h t rfl]
 | _=>rfl
omit [aq] in
theorem oV {o:Oper}(hn:σ'.nt=σ.nt)(h:∀ t,t∈o.looksAt ops→σ'.tmps t=σ.tmps t):want ops σ' o=want ops σ o:=by
 unfold want
 cases hg:o.guard with
 | none=>rfl
 | some p=>
  obtain⟨j,b⟩:=p
  simp only
  cases hj:ops[j]? with
  | none=>rfl
  | some g=>
   simp only
   cases hd:g.dst with
   | none=>rfl
   | some d=>
    simp only
    have:σ'.val (.tmp d)=σ.val (.tmp d):=val_congr hn fun t e=>by
     cases e
     refine h d ?_
     unfold gn
     rw[hg];simp[hj,hd]
    rw[this]
omit [aq] in
theorem sR {o:Oper}{id:Nat}{ρ ρ':Operand→AV}(h:∀ x∈o.op.operands,ρ' x=ρ x):sem P H id o ρ'=sem P H id o ρ:=by
 obtain⟨dst,op,ty,pos,af,gd⟩:=o
 cases op<;>simp only[Op.operands] at h<;>simp only[sem]
 case move x=>rw[h x (by simp)]
 case assign x=>rw[h x (by simp)]
 case pick c a b=>rw[h c (by simp),h a (by simp),h b (by simp)]
 case box t x=>rw[h x (by simp)]
 case load t x=>rw[h x (by simp)]
 case store t a x=>rw[h a (by simp),h x (by simp)]
 case fieldAddr s x f=>rw[h x (by simp)]
 case field s x f=>rw[h x (by simp)]
 case nilCheck x=>rw[h x (by simp)]
 case binOp op t x y yt=>rw[h x (by simp),h y (by simp)]
 case unOp op t x=>rw[h x (by simp)]
 case makeInterface t x=>rw[h x (by simp)]
 case typeAssert x s t ok=>rw[h x (by simp)]
 case convert s d x=>rw[h x (by simp)]
 case build t parts=>
  have e1:(parts.toList.map fun p=>(p.1,ρ' p.2))=parts.toList.map fun p=>(p.1,ρ p.2):=dv fun p hp=>by rw[h p.2 (by simp;exact⟨p.1,by simpa using hp⟩)]
  rw[e1]
 case buildSlice t n parts=>
  have e1:(parts.toList.map fun p=>(p.1,ρ' p.2))=parts.toList.map fun p=>(p.1,ρ p.2):=dv fun p hp=>by rw[h p.2 (by simp;exact⟨p.1,by simpa using hp⟩)]
  rw[e1]
 case makeSlice t l c=>rw[h l (by simp),h c (by simp)]
 case slice t x lo hi mx=>
  have e:∀ o:Option Operand,(∀ y,o=some y→ρ' y=ρ y)→o.map ρ'=o.map ρ:=by
   intro o ho;cases o with
   | none=>rfl
   | some y=>simp[ho y rfl]
  rw[h x (by simp),e lo (fun y e=>h y (by subst e;simp)),e hi (fun y e=>h y (by subst e;simp)),e mx (fun y e=>h y (by subst e;simp))]
 case range t x=>rw[h x (by simp)]
 case next x s=>rw[h x (by simp)]
 case extract t i=>rw[h t (by simp)]
 case index t x i=>rw[h x (by simp),h i (by simp)]
 case mapEntry t m k=>rw[h m (by simp),h k (by simp)]
 case mapUpdate t m k x=>rw[h m (by simp),h k (by simp),h x (by simp)]
 case entryStore t m s x=>rw[h m (by simp),h s (by simp),h x (by simp)]
 case lookup t x k ok=>rw[h x (by simp),h k (by simp)]
 case indexAddr t x i=>rw[h x (by simp),h i (by simp)]
 case makeFunc fn first caps=>
  have e1:first.toList.map ρ'=first.toList.map ρ:=dv fun x hx=>h x (by simp;exact .inl (by simpa using hx))
  have e2:caps.toList.map ρ'=caps.toList.map ρ:=dv fun x hx=>h x (by simp;exact .inr (by simpa using hx))
  rw[e1,e2]
 case call c=>
  obtain⟨callee,args,argTypes⟩:=c
  simp only[Call.operands] at h
  have e1:args.toList.map ρ'=args.toList.map ρ:=dv fun x hx=>h x (by simp;exact .inr (by simpa using hx))
  cases callee with
  | value f=>simp only[e1];rw[h f (by simp)]
  | invoke r m=>rfl
  | builtin b=>
   cases b<;>try rfl
   ·simp only
    split
    ·rename_i t u s x ht hx
     rw[h x (by simp;exact (by rw[← cf,hx];simp)),h s (by simp;exact (by rw[← cf,hx];simp))]
    ·rfl
   ·simp only
    split
    ·rename_i t x ht hx
     rw[h x (by simp;exact (by rw[← cf,hx];simp))]
    ·rfl
   ·simp only
    split
    ·rename_i t u x y ht hx
     rw[h x (by simp;exact (by rw[← cf,hx];simp)),h y (by simp;exact (by rw[← cf,hx];simp))]
    ·rfl
   ·simp only
    split
    ·rename_i t x ht hx
     rw[h x (by simp;exact (by rw[← cf,hx];simp))]
    ·rfl
   ·simp only
    split
    ·rename_i x y hx
     rw[h x (by simp;exact (by rw[← cf,hx];simp)),h y (by simp;exact (by rw[← cf,hx];simp))]
    ·rfl
   ·simp only
    split
    ·rename_i x y hx
     rw[h x (by simp;exact (by rw[← cf,hx];simp)),h y (by simp;exact (by rw[← cf,hx];simp))]
    ·rfl
omit [aq] in
theorem QE {o:Oper}{id:Nat}{ρ:Operand→AV}(h:CU P o=false):sem P H id o ρ=sem P H' id o ρ:=by
 obtain⟨dst,op,ty,pos,af,gd⟩:=o
 cases op<;>simp only[CU,reduceCtorEq] at h<;>try rfl
 case convert s d x=>
  unfold sem
  simp only
  split
  ·rfl
  ·unfold K8
   split
   ·rename_i hs _
    rw[hs] at h;simp at h
   ·rfl
omit [aq] in
theorem GQ {o:Oper}{id:Nat}{ρ:Operand→AV}(h:CU P o=false):bF P C H id o ρ=bF P C H' id o ρ:=by
 unfold bF
 congr 1
 unfold bI
 rw[QE (H':=H') h]
 cases hs:sem P H' id o ρ with
 | none=>rfl
 | some out=>
  cases out with
  | call k as=>
   have hu:iH C o k=none:=by
    cases k with
    | iK i=>rfl
    | fn k=>
    show yl C o k=none
    unfold yl
    unfold CU at h
    split
    ·rename_i c hc;rw[hc] at h;simp at h
    ·rfl
   simp only[h,hu]
  | _=>rfl
omit [aq] in
theorem tN {o:Oper}{id:Nat}{ρ ρ':Operand→AV}(h:∀ x∈o.op.operands,ρ' x=ρ x):bF P C H id o ρ'=bF P C H id o ρ:=by
 have e:mX P id o ρ'=mX P id o ρ:=by
  unfold mX
  rw[sR (ρ':=fun x=>wD (ρ' x)) (ρ:=fun x=>wD (ρ x)) fun x hx=>by simp only[h x hx]]
 unfold bF bI
 rw[sR h,e]
omit [aq] in
theorem nj {o:Oper}{id:Nat}(hn:σ'.nt=σ.nt)(h:∀ t,t∈o.looksAt ops→σ'.tmps t=σ.tmps t)(hH:CU P o=true→H'=H) :
  gm P C ops H' id o σ'=gm P C ops H id o σ:=by
 unfold gm
 rw[oV hn h]
 have:bF P C H' id o σ'.val=bF P C H id o σ.val:=by
  have e1:bF P C H' id o σ'.val=bF P C H' id o σ.val:=tN fun x hx=>val_congr hn fun t e=>by
   subst e
   refine h t ?_
   unfold gn
   exact dj.2 (.inl (eK.2 ⟨.tmp t,by simpa using hx,rfl⟩))
  rw[e1]
  cases hr:CU P o with
  | true=>rw[hH hr]
  | false=>exact GQ hr
 rw[this]
end
def ids (l:List (Nat×aS)):List Nat:=l.map (·.1)
theorem eZ:∀ (l:List (Nat×aS)) (H:Heap) (q:Nat),q∉ids l→bc H l q=H q
 | [],H,q,_=>rfl
 | (i,o)::l,H,q,h=>by
  simp only[ids,dd,dp,not_or] at h
  rw[bc,eZ l _ q h.2,ax _ _ h.1]
theorem xj:∀ (l:List (Nat×aS)) (H:Heap) (i:Nat) (o:Option aS),i∉ids l→bc (aP H i o) l=aP (bc H l) i o
 | [],H,i,o,_=>rfl
 | (j,p)::l,H,i,o,h=>by
  simp only[ids,dd,dp,not_or] at h
  rw[bc,bc,Fq _ _ _ h.1,xj l _ i o h.2]
theorem tU:∀ (l k:List (Nat×aS)) (H:Heap),(∀ i∈ids l,i∉ids k)→bc (bc H l) k=bc (bc H k) l
 | [],k,H,_=>rfl
 | (i,o)::l,k,H,h=>by
  rw[bc,bc,tU l k _ (fun j hj=>h j (by simp[ids] at hj ⊢;exact .inr hj)),xj k H i (some o) (h i (by simp[ids]))]
theorem kQ:∀ (l:List (Nat×aS)) (H H':Heap),(∀ i∈ids l,H' i=H i)→bn H' l=bn H l
 | [],H,H',_=>rfl
 | (i,o)::l,H,H',h=>by
  have h0:H' i=H i:=h i (by simp[ids])
  simp only[bn,h0]
  rw[kQ l (aP H i (some o)) (aP H' i (some o)) (fun j hj=>by
   by_cases e:j=i
   ·subst e;rw[au,au]
   ·rw[ax _ _ e,ax _ _ e];exact h j (by simp[ids] at hj ⊢;exact .inr hj))]
theorem oD:∀ (l:List (Nat×aS)) (H:Heap),bn H l=true→∀ i∈ids l,H i=none
 | [],H,_,i,hi=>by simp[ids] at hi
 | (j,o)::l,H,h,i,hi=>by
  simp only[bn,ap,Option.isNone_iff_eq_none] at h
  simp only[ids,dd,dp] at hi
  rcases hi with rfl|hi
  ·exact h.1
  ·have:=oD l _ h.2 i hi
   by_cases e:i=j
   ·subst e;exact h.1
   ·rw[ax _ _ e] at this;exact this
theorem iq:∀ {l:List (Nat×aS)} {id:Nat},eY id l=true→∀ i∈ids l,id≤i∧i<id+16
 | [],id,_,i,hi=>by simp[ids] at hi
 | (j,o)::l,id,h,i,hi=>by
  simp only[eY,ap] at h
  simp only[ids,dd,dp] at hi
  rcases hi with rfl|hi
  ·exact⟨Nat.le_of_ble_eq_true h.1.1,cP h.1.2⟩
  ·exact iq h.2 i hi
def Va (C:Cons)(Hh:Heap)(σ:St)(id:Nat)(o:Oper)(e:Ix):Prop:=
 e.sets=[]∨e.new=true∨(RF C o=true∧∃ j ob,e.sets=[(j,ob)]∧(Hh j).isSome=true∧gj σ.val o=some j)
def Out.writes:Out→Option Nat
 | .wr _ i _ _=>some i
 | .RB _ i _ _ _=>some i
 | _=>none
theorem wI {P:Program}{H:Heap}{t:TypeId}{a x:AV}{out:Out}(h:lG P H t a x=some out):∃ c j ob v,out = .wr c j ob v∧(H j).isSome=true∧jh a=some j:=by
 unfold lG at h
 split at h
 all_goals first|(simp at h;done)|skip
 all_goals
  split at h
  case h_2=>simp at h
  rename_i hH _
  have h:=(ai h).2
  subst h
  exact⟨_,_,_,_,rfl,by rw[hH];rfl,rfl⟩
theorem tE {P:Program}{H:Heap}{t i q k a b:Nat}{x:AV}{out:Out}(h:ia P H t i q k a b x=some out):∃ c ob v,out = .wr c i ob v∧(H i).isSome=true:=by
 unfold ia at h
 split at h
 case h_2=>simp at h
 split at h
 case h_2=>simp at h
 rename_i hH
 split at h
 case h_2=>simp at h
 split at h
 case h_2=>simp at h
 have h:=(ai h).2
 subst h
 exact⟨_,_,_,rfl,by rw[hH];rfl⟩
theorem Mk {P:Program}{H:Heap}{t:TypeId}{a:AV}{out:Out}(h:kJ P H t a=some out):out.writes=none:=by
 unfold kJ at h
 split at h
 ·(repeat' split at h)<;>first|(simp at h;done)|(cases h;rfl)
 ·split at h
  ·have h:=(aA h).2
   split at h
   ·cases h;rfl
   ·simp at h
  ·simp at h
 ·simp at h
theorem Gg {P:Program}{H:Heap}{t:TypeId}{a:AV}{out:Out}(h:kJ P H t a=some out):∃ c v,out = .val c v:=by
 unfold kJ at h
 split at h
 ·(repeat' split at h)<;>first|(simp at h;done)|(cases h;exact⟨_,_,rfl⟩)
 ·split at h
  ·have h:=(aA h).2
   split at h
   ·cases h;exact⟨_,_,rfl⟩
   ·simp at h
  ·simp at h
 ·simp at h
theorem Oc {P:Program}{H:Heap}{t i q k a b:Nat}{lo hi mx:Option AV}{out:Out}(h:vo P H t i q k a b lo hi mx=some out):out.writes=none:=by
 unfold vo at h
 (repeat' split at h)<;>first|(simp at h;done)|(have h:=(aA h).2;cases h;rfl)
theorem PO {P:Program}{H:Heap}{t i q k a b:Nat}{hi:AV}{out:Out}(h:wX P H t i q k a b hi=some out):out.writes=none:=by
 unfold wX at h
 (repeat' split at h)<;>first|(simp at h;done)|(have h:=(aA h).2;cases h;rfl)
theorem K1 {P:Program}{H:Heap}{t:TypeId}{a x:AV}{c:Bool}{j:Nat}{ob:aS}{v:AV}(h:py P H t a x=some (.wr c j ob v)):(H j).isSome=true∧jh a=some j:=by
 unfold py at h
 split at h
 ·split at h
  ·rename_i hH
   split at h
   ·have:=(ai h).2
    cases this
    exact⟨by rw[hH];rfl,rfl⟩
   ·simp at h
  ·simp at h
 ·split at h
  ·rename_i hH
   split at h
   ·split at h
    ·have:=(ai h).2
     cases this
     exact⟨by rw[hH];rfl,rfl⟩
    ·simp at h
   ·simp at h
  ·simp at h
 ·obtain⟨_,_,_,_,h1,h2,h3⟩:=wI h
  cases h1
  exact⟨h2,h3⟩
theorem Gi {P:Program}{H:Heap}{id t:Nat}{s x:AV}{c:Bool}{j:Nat}{ob:aS}{v:AV}(h:iW P H id t s x=some (.wr c j ob v)):(H j).isSome=true∧jh s=some j:=by
 unfold iW at h
 split at h
 case h_2=>simp at h
 split at h
 case h_2=>simp at h
 split at h
 case h_2=>simp at h
 split at h
 case h_2=>simp at h
 have h:=(aA h).2
 split at h
 ·split at h
  case h_2=>simp at h
  rename_i hH
  split at h
  case h_2=>simp at h
  have:=(ai h).2
  cases this
  exact⟨by rw[hH];rfl,rfl⟩
 ·split at h
  case h_2=>simp at h
  split at h
  case h_2=>simp at h
  have:=(ai h).2
  simp at this
 ·simp at h
theorem EG {P:Program}{H:Heap}{id t:Nat}{s x:AV}{c:Bool}{j:Nat}{ob:aS}{v:AV}(h:gb P H id t s x=some (.wr c j ob v)):(H j).isSome=true∧jh s=some j:=by
 unfold gb at h
 split at h
 case h_3=>exact Gi h
 case h_2=>
  obtain⟨_,_,_,h1,h2⟩:=tE h
  cases h1
  exact⟨h2,rfl⟩
 split at h
 case h_2=>simp at h
 split at h
 case h_2=>simp at h
 rename_i hH
 split at h
 case h_2=>simp at h
 have h:=(ai h).2
 cases h
 exact⟨by rw[hH];rfl,rfl⟩
theorem tD {u:b5}{Hh:Heap}{i g:Nat}{part:Option Nat}{rest:List AV}{r:aS×AV}(h:jd u Hh i g part rest=some r):(Hh i).isSome=true:=by
 unfold jd at h
 split at h
 ·rename_i hH;rw[hH];rfl
 ·simp at h
theorem Du {u:b5}{Hh:Heap}{as:List AV}{i:Nat}{o:aS}{v:AV}(h:jm u Hh as=some (i,o,v)):(Hh i).isSome=true∧∃ x r,as=x::r∧jh x=some i:=by
 unfold jm at h
 split at h
 ·split at h
  ·rename_i hr
   cases h
   refine⟨?_,_,_,rfl,rfl⟩
   unfold oH at hr
   split at hr
   case h_2=>simp at hr
   split at hr
   case h_2=>simp at hr
   rename_i hH
   rw[hH];rfl
  ·simp at h
 ·split at h
  ·rename_i hr;cases h;exact⟨tD hr,_,_,rfl,rfl⟩
  ·simp at h
 ·obtain⟨_,h⟩:=aA h
  split at h
  ·rename_i hr;cases h;exact⟨tD hr,_,_,rfl,rfl⟩
  ·simp at h
 ·simp at h
theorem xB {P:Program}{H:Heap}{id:Nat}{o:Oper}{ρ:Operand→AV}{out:Out}{j:Nat}(h:sem P H id o ρ=some out)(hw:out.writes=some j) :
  SM o=true∧(H j).isSome=true∧gj ρ o=some j:=by
 obtain⟨dst,op,ty,pos,af,gd⟩:=o
 unfold sem at h
 have no:∀ {o:Out} {a:Prop},some o=some out→o.writes=none→a:=by
  intro o a h1 h2
  cases h1;rw[h2] at hw;simp at hw
 cases op<;>simp only[reduceCtorEq] at h
 case move x=>exact no h rfl
 case assign x=>exact no h rfl
 case makeFunc fn first caps=>exact no h rfl
 case store t a x=>
  cases out<;>simp only[Out.writes,reduceCtorEq,al] at hw
  ·subst hw;exact⟨rfl,K1 h⟩
  ·unfold py at h;(repeat' split at h)<;>first|(simp at h;done)|(obtain⟨_,_,_,_,h1,_⟩:=wI h;cases h1;done)|(have:=(ai h).2;simp at this)
 case next x s=>
  refine⟨rfl,?_⟩
  unfold De at h
  split at h
  case h_2=>simp at h
  split at h
  case h_2=>simp at h
  rename_i hH
  cases h
  simp only[Out.writes,al] at hw
  subst hw
  exact⟨by rw[hH];rfl,by simp only[gj];simp_all [jh]⟩
 case pick c a b=>split at h<;>first|exact no h rfl|simp at h
 case alloc t=>unfold vg at h;(repeat' split at h)<;>first|exact no h rfl|simp at h
 case box t x=>unfold PF at h;(repeat' split at h)<;>first|exact no h rfl|simp at h
 case load t a=>
  unfold zj at h;(repeat' split at h)<;>first|exact no h rfl|(simp at h;done)|(rw[Mk h] at hw;cases hw;done)|skip
  all_goals (obtain⟨_,h⟩:=aA h;(repeat' split at h)<;>first|exact no h rfl|simp at h)
 case fieldAddr s x f=>
  unfold pJ at h
  split at h
  case h_2=>simp at h
  split at h
  case h_2=>simp at h
  split at h
  case h_2=>simp at h
  rename_i ti _
  cases h0:bm ti.size 0<;>rw[h0] at h<;>simp only[cond_true,cond_false,reduceCtorEq] at h
  (repeat' split at h)<;>first|exact no h rfl|(simp at h;done)|(exact no (aA h).2 rfl)
 case field s x f=>unfold yu at h;(repeat' split at h)<;>first|exact no h rfl|simp at h
 case nilCheck x=>unfold K9 at h;(repeat' split at h)<;>first|exact no h rfl|(simp at h;done)|(exact no (aA h).2 rfl)
 case binOp op t x y yt=>
  unfold KH at h;split at h
  ·split at h<;>first|exact no h rfl|simp at h
  ·have h:=(cu h).2
   (repeat' split at h)<;>first|exact no h rfl|simp at h
  ·(repeat' split at h)<;>first|exact no h rfl|simp at h
  ·simp at h
 case unOp op t x=>unfold ZE at h;(repeat' split at h)<;>first|exact no h rfl|simp at h
 case makeInterface t x=>unfold Ni at h;exact no (aA h).2 rfl
 case typeAssert x s t ok=>unfold qM at h;(repeat' split at h)<;>first|exact no h rfl|(simp at h;done)|(exact no (aA h).2 rfl)
 case convert s d x=>
  split at h
  ·unfold Fc at h;(repeat' split at h)<;>first|exact no h rfl|simp at h
  ·unfold K8 at h;(repeat' split at h)<;>first|exact no h rfl|simp at h
 case build t parts=>unfold vK at h;(repeat' split at h)<;>first|exact no h rfl|simp at h
 case buildSlice t n parts=>
  unfold eA at h
  split at h
  case h_2=>simp at h
  split at h
  case h_3=>simp at h
  case h_1=>
   split at h
   case h_2=>simp at h
   split at h
   case h_2=>simp at h
   have h:=(aA h).2
   split at h
   case h_2=>simp at h
   split at h
   ·exact no h rfl
   ·simp at h
  case h_2=>
   split at h
   case h_2=>simp at h
   split at h
   case h_2=>simp at h
   have h:=(aA h).2
   split at h
   ·exact no h rfl
   ·simp at h
 case makeSlice t l c=>
  unfold Em at h
  (repeat' split at h)<;>first|exact no h rfl|(simp at h;done)|(exact no (aA h).2 rfl)
 case slice t x lo hi mx=>
  unfold qA LD pQ sw at h
  (repeat' split at h)<;>first|exact no h rfl|(simp at h;done)|(rw[PO h] at hw;cases hw;done)|(rw[Oc h] at hw;cases hw;done)|(exact no (aA h).2 rfl)
 case range t x=>unfold wF at h;(repeat' split at h)<;>first|exact no h rfl|simp at h
 case extract t i=>unfold Mf at h;(repeat' split at h)<;>first|exact no h rfl|simp at h
 case index t x i=>unfold rS at h;(repeat' split at h)<;>first|exact no h rfl|simp at h
 case makeMap t r=>
  cases r with
  | none=>
   unfold nr at h
   cases hc:gy P t with
   | true=>rw[hc] at h;exact no h rfl
   | false=>rw[hc] at h;exact no (aA h).2 rfl
  | some _=>simp at h
 case lookup t x k ok=>unfold rM at h;(repeat' split at h)<;>first|(simp at h;done)|(exact no (aA h).2 rfl)
 case mapEntry t m k=>
  refine⟨rfl,?_⟩
  unfold jB at h
  split at h
  case h_2=>simp at h
  split at h
  case h_2=>simp at h
  rename_i hH
  have h:=(ai h).2
  subst h
  simp only[Out.writes,al] at hw
  subst hw
  exact⟨by rw[hH];rfl,by simp only[gj];simp_all [jh]⟩
 case mapUpdate t m k x=>
  refine⟨rfl,?_⟩
  unfold gR at h
  split at h
  case h_3=>simp at h
  all_goals
   split at h
   case h_2=>simp at h
   rename_i hH
   have h:=(ai h).2
   subst h
   simp only[Out.writes,al] at hw
   subst hw
   exact⟨by rw[hH];rfl,by simp only[gj];simp_all [jh]⟩
 case entryStore t m s x=>
  refine⟨rfl,?_⟩
  unfold ga at h
  split at h
  case h_2=>simp at h
  split at h
  case h_2=>simp at h
  rename_i hH
  cases h
  simp only[Out.writes,al] at hw
  subst hw
  exact⟨by rw[hH];rfl,by simp only[gj];simp_all [jh]⟩
 case indexAddr t x i=>unfold Eu ZB at h;(repeat' split at h)<;>first|exact no h rfl|(simp at h;done)|(exact no (aA h).2 rfl)
 case call c=>
  obtain⟨callee,args,argTypes⟩:=c
  simp only at h
  split at h
  ·split at h
   ·unfold DP LO at h;(repeat' split at h)<;>first|exact no h rfl|(simp at h;done)|(exact no (aA h).2 rfl)
   ·simp at h
  ·split at h
   ·refine⟨rfl,?_⟩
    unfold xJ at h
    split at h
    case h_2=>simp at h
    split at h
    case h_2=>simp at h
    split at h
    case h_2=>simp at h
    rename_i hH
    (repeat' split at h)<;>first|(simp at h;done)|skip
    all_goals
     have h:=(ai h).2
     subst h
     simp only[Out.writes,al] at hw
     subst hw
     exact⟨by rw[hH];rfl,by simp only[gj];simp_all [jh]⟩
   ·simp at h
  ·split at h
   ·refine⟨rfl,?_⟩
    unfold qZ at h
    split at h
    case h_2=>simp at h
    split at h
    case h_2=>simp at h
    rename_i hH
    have h:=(ai h).2
    subst h
    simp only[Out.writes,al] at hw
    subst hw
    exact⟨by rw[hH];rfl,by simp only[gj];simp_all [jh]⟩
   ·simp at h
  ·split at h
   ·refine⟨rfl,?_⟩
    have h:=(aA h).2
    cases out<;>simp only[Out.writes,reduceCtorEq,al] at hw
    ·subst hw;obtain⟨g1,g2⟩:=EG h;exact⟨g1,by simp only[gj];simp_all⟩
    ·exfalso
     unfold gb at h
     split at h
     ·(repeat' split at h)<;>first|(simp at h;done)|(have:=(ai h).2;simp at this)
     ·obtain⟨_,_,_,h1,_⟩:=tE h
      cases h1
     unfold iW at h
     split at h
     case h_2=>simp at h
     split at h
     case h_2=>simp at h
     split at h
     case h_2=>simp at h
     split at h
     case h_2=>simp at h
     have h:=(aA h).2
     (repeat' split at h)<;>first|(simp at h;done)|(have:=(ai h).2;simp at this)
   ·simp at h
  ·split at h
   ·unfold Tt at h
    split at h
    ·exact no (aA h).2 rfl
    ·simp at h
   ·simp at h
  ·split at h
   ·unfold SY at h
    split at h
    ·exact no (aA h).2 rfl
    ·simp at h
   ·simp at h
  ·unfold zv at h
   split at h
   case h_3=>simp at h
   case h_2=>exact no h rfl
   split at h
   case h_2=>simp at h
   split at h
   case h_2=>simp at h
   rename_i fn _ _ _ _
   cases hn:fn.name == "runtime.NumGoroutine" <;> rw[hn] at h<;>simp only[cond_true,cond_false,reduceCtorEq] at h
   exact no h rfl
  ·simp at h
theorem Qn {P:Program}{H:Heap}{id:Nat}{o:Oper}{ρ:Operand→AV}{c:Bool}{j:Nat}{ob:aS}{v u:AV}(h:sem P H id o ρ=some (.wr c j ob v)∨sem P H id o ρ=some (.RB c j ob v u)) :
  SM o=true∧(H j).isSome=true∧gj ρ o=some j:=by
 rcases h with h|h
 ·exact xB h rfl
 ·exact xB h rfl
theorem Tw {P:Program}{C:Cons}{H:Heap}{id:Nat}{o:Oper}{σ:St}{k:Callee}{as:List AV}{u:b5}{x:AV}{r:List AV}(hs:sem P H id o σ.val=some (.call k as))(hu:iH C o k=some u)(ha:as=x::r):gj σ.val o=jh x:=by
 cases k with
 | iK i=>simp[iH] at hu
 | fn k=>
  simp only[iH] at hu
  unfold yl at hu
  split at hu
  case h_2=>simp at hu
  rename_i c hc
  split at hu
  case h_2=>simp at hu
  rename_i k' hk
  unfold sem at hs
  rw[hc] at hs
  simp only[hk] at hs
  have hv:σ.val (.func k') = .fn (.func k') [] []:=rfl
  rw[hv] at hs
  unfold zv at hs
  simp only at hs
  split at hs
  case h_2=>simp at hs
  split at hs
  case h_2=>simp at hs
  obtain⟨_,hs⟩:=cu hs
  simp only[al,Out.call.injEq,List.nil_append,fx] at hs
  unfold gj
  rw[hc]
  simp only
  rw[← hs.2] at ha
  cases hl:c.args.toList with
  | nil=>rw[hl] at ha;simp at ha
  | cons a l=>
   rw[hl] at ha
   simp only[dd,List.cons.injEq] at ha
   simp only
   rw[ha.1]
theorem qG {P:Program}{C:Cons}{ops:Array Oper}{Hh:Heap}{id:Nat}{o:Oper}{σ:St}{e:Ix}(h:gm P C ops Hh id o σ=some e):Va C Hh σ id o e:=by
 unfold gm at h
 split at h
 ·unfold bF at h
  cases hz:mO C id o with
  | true=>
   rw[hz] at h
   simp only[cond_true] at h
   split at h
   ·obtain⟨_,rfl⟩:=ai h;exact .inl rfl
   ·simp at h
  | false=>
  rw[hz] at h
  simp only[cond_false] at h
  unfold bI at h
  split at h
  ·obtain⟨_,rfl⟩:=ai h;exact .inl rfl
  ·obtain⟨_,rfl⟩:=ai h;exact .inr (.inl rfl)
  ·rename_i hs
   obtain⟨_,rfl⟩:=ai h
   obtain⟨h1,h2,h3⟩:=Qn (u:=.ah) (.inl hs)
   exact .inr (.inr ⟨by unfold RF;rw[h1];rfl,_,_,rfl,h2,h3⟩)
  ·rename_i c i ob v u hs
   obtain⟨h1,h2,h3⟩:=Qn (.inr hs)
   cases c with
   | true=>simp only[cond_true,al] at h;subst h;exact .inr (.inr ⟨by unfold RF;rw[h1];rfl,_,_,rfl,h2,h3⟩)
   | false=>simp only[cond_false,al] at h;subst h;exact .inl rfl
  ·split at h
   ·rename_i u hu
    split at h
    ·rename_i i ob v hout
     cases h
     obtain⟨g1,x,r,g2,g3⟩:=Du hout
     exact .inr (.inr ⟨by unfold RF;rw[AZ hu];simp,i,ob,rfl,g1,by rw[Tw (by assumption) hu g2];exact g3⟩)
    ·simp at h
   split at h
   ·unfold vl at h
    split at h
    ·split at h
     ·cases h;exact .inr (.inl rfl)
     ·simp at h
    ·simp at h
   ·simp at h
  ·simp at h
 ·cases h;exact .inl rfl
 ·simp at h
section
variable [aq]{P:Program}{C:Cons}{F:jy}{r:Option Nat}{N:ar}{Dt:Bool×List Deferred}{w w0:World}{μ μ':Mu}{S S':ar}{B:Nat}{σ σ':St}{a:Act}{Q:Exit→Act→World→Prop}
omit [aq] in
theorem UP {Hh:Heap}{id:Nat}{o:Oper}{e:Ix}(sub:∀ i o,Hh i=some o→σ.heap i=some o)(hok:Va C Hh σ id o e)(hBd:Bd σ)(q:Nat)(hq:bc σ.heap e.sets q≠none) :
  q∈σ.ids++cond e.new (e.sets.map (·.1)) []:=by
 rcases yw _ _ q hq with h|h
 ·rcases hok with h0|h0|⟨h0,j,ob,hs,hj⟩
  ·rw[h0] at h;simp at h
  ·rw[h0];exact dj.2 (.inr h)
  ·obtain⟨hj,_⟩:=hj
   rw[hs] at h
   simp only[dd,fa,dt] at h
   subst h
   refine dj.2 (.inl (hBd q ?_))
   cases ho:Hh q with
   | none=>rw[ho] at hj;simp at hj
   | some o'=>rw[sub _ _ ho];simp
 ·exact dj.2 (.inl (hBd q h))
theorem nK (hF:cV P F){ops:Array Oper}{hide:Heap→Heap}(hs:∀ H i o,hide H i=some o→H i=some o){id i:Nat}(h:gq P C F ops hide id i σ=some σ')(hBd:Bd σ) :
  Bd (σ'.ay (eB P C ops (hide σ.heap) id i σ)):=by
 unfold gq at h
 unfold eB
 intro q hq
 simp only[St.ay] at hq ⊢
 cases ho:ops[i]? with
 | none=>rw[ho] at h;simp only[al] at h;subst h;exact dj.2 (.inl (hBd q hq))
 | some o=>
  rw[ho] at h
  simp only at h ⊢
  cases hw:want ops σ o with
  | none=>rw[hw] at h;simp at h
  | some b=>
   rw[hw] at h
   cases b with
   | false=>
    simp only at h ⊢
    obtain⟨e1,e2⟩:=jH h
    rw[e1] at hq;rw[e2]
    exact dj.2 (.inl (hBd q hq))
   | true=>
    simp only at h ⊢
    cases he:bF P C (hide σ.heap) id o σ.val with
    | some e=>
     rw[he] at h
     simp only at h ⊢
     obtain⟨e1,e2⟩:=yD h
     rw[e1] at hq;rw[e2]
     have hok:=qG (P:=P) (C:=C) (ops:=ops) (Hh:=hide σ.heap) (id:=id) (o:=o) (σ:=σ) (e:=e) (by unfold gm;rw[hw];exact he)
     exact UP (hs σ.heap) hok hBd q hq
    | none=>
     rw[he] at h
     simp only at h ⊢
     split at h
     ·rename_i v H' L' hi
      obtain⟨e1,e2⟩:=jH (cu h).2
      rw[e1] at hq;rw[e2]
      unfold eM at hi
      split at hi
      ·split at hi
       ·simp at hi
       ·exact dj.2 (.inl ((hF _ _ _ _ _ _ _ _ hi hBd).1 q hq))
      ·simp at hi
     ·simp at h
theorem Ds (hF:cV P F){ops:Array Oper}{base:Nat}:∀ (l:List Nat) (σ:St) (e:Ex) (σ':St),oo P C F ops base l σ=some (e,σ')→Bd σ→Bd σ'
 | [],σ,e,σ',h,hB=>by simp only[oo,al,Prod.mk.injEq] at h;obtain⟨_,rfl⟩:=h;exact hB
 | i::l,σ,e,σ',h,hB=>by
  simp only[oo] at h
  split at h
  ·rename_i x H' L' h1
   cases h
   exact qU hF h1 hB
  ·split at h
   ·rename_i σ1 h1
    exact Ds hF l _ e σ' h (nK hF (fun H i o h=>h) h1 hB)
   ·simp at h
omit [aq] in
theorem AR.ay {L:List Nat}(A:AR N Dt μ S σ a):AR N Dt μ S (σ.ay L) a:=⟨A.defers,A.size,A.tmp⟩
theorem EL (hC:bX P C)(hF:cV P F){ops:Array Oper}{base:Nat}:∀ (l:List Nat) (σ:St) (e:Ex) (σ':St) (a:Act) (w:World) (μ:Mu) (S:ar),
  oo P C F ops base l σ=some (e,σ')→Bd σ→AR N Dt μ S σ a→Rel μ S σ.heap B w0 w →
  (∀ a' w' μ' S' x,AR N Dt μ' S' σ' a'→Rel μ' S' σ'.heap B w0 w'→Carry B μ S σ.heap μ' S' σ'.heap→e.Is μ' S' σ'.heap x→Q x a' w')→wpOpsIn (WF r) 0 P ops Q l a w
 | [],σ,e,σ',a,w,μ,S,h,hB,A,R,hK=>by
  simp only[oo,al,Prod.mk.injEq] at h;obtain⟨rfl,rfl⟩:=h
  exact hK a w μ S .normal A R Carry.refl rfl
 | i::l,σ,e,σ',a,w,μ,S,h,hB,A,R,hK=>by
  simp only[oo] at h
  rw[wpOpsIn_cons]
  split at h
  ·rename_i x H' L' h1
   cases h
   exact mF hF h1 hB A R fun w' μ' S' u A' R' C' hv=>hK a w' μ' S' (.panic (DH u)) A' R' C' ⟨u,rfl,hv⟩
  split at h
  ·rename_i σ1 h1
   refine gH hC hF (fun H i o h=>h) h1 (.inl hB) A R fun a1 w1 μ1 S1 A1 R1 C1=>?_
   exact EL hC hF l _ e σ' a1 w1 μ1 S1 h (nK hF (fun H i o h=>h) h1 hB) A1.ay R1 fun a' w' μ' S' x A' R' C'=>hK a' w' μ' S' x A' R' (C1.trans C')
  ·simp at h
omit [aq] in
theorem gL {ops:Array Oper}{m:List Nat}{W:List (Option Nat)}{base:Nat}:∀ (l:List Nat) (σ σ':St) (L:List Nat),dM P C ops m W base l σ=some σ'→Bd (σ.ay L)→Bd (σ'.ay (L++fw P C ops m W base l σ))
 | [],σ,σ',L,h,hB=>by
  simp only[dM,al] at h;subst h
  intro q hq
  have:=hB q hq
  simpa [fw,St.ay] using this
 | i::l,σ,σ',L,h,hB=>by
  simp only[dM] at h
  split at h
  ·rename_i σ1 h1
   have hB1:Bd (σ1.ay (L++eB P C ops (b6 base ops.size (m.getD i 0) (pS m W ops.size i) σ.heap) (base+i * 16) i σ)):=by
    intro q hq
    have h1':=h1
    unfold xQ at h1'
    obtain⟨_,h1'⟩:=aA h1'
    unfold gq at h1'
    unfold eB
    simp only[St.ay] at hq ⊢
    have old:σ.heap q≠none→q∈σ.ids++L:=fun h=>hB q h
    cases ho:ops[i]? with
    | none=>
     rw[ho] at h1';simp only[al] at h1';subst h1'
     have:=old hq
     simp only[fx];exact this
    | some o=>
     rw[ho] at h1'
     simp only at h1' ⊢
     cases hw:want ops σ o with
     | none=>rw[hw] at h1';simp at h1'
     | some b=>
      rw[hw] at h1'
      cases b with
      | false=>
       simp only at h1' ⊢
       obtain⟨e1,e2⟩:=jH h1'
       rw[e1] at hq;rw[e2]
       simp only[fx];exact old hq
      | true=>
       simp only at h1' ⊢
       cases he:bF P C (b6 base ops.size (m.getD i 0) (pS m W ops.size i) σ.heap) (base+i * 16) o σ.val with
       | some e=>
        rw[he] at h1'
        simp only at h1' ⊢
        obtain⟨e1,e2⟩:=yD h1'
        rw[e1] at hq;rw[e2]
        have hok:=qG (P:=P) (C:=C) (ops:=ops) (Hh:=b6 base ops.size (m.getD i 0) (pS m W ops.size i) σ.heap) (id:=base+i * 16) (o:=o) (σ:=σ) (e:=e) (by unfold gm;rw[hw];exact he)
        have:=UP (σ:=σ.ay L) (id:=base+i * 16) (fun i o h=>by
         unfold b6 at h
         cases hv:(VD base ops.size _ i && !xV _ i) with
         | true=>rw[hv] at h;exact h
         | false=>rw[hv] at h;simp at h) hok hB q hq
        rw[← gk];exact this
       | none=>
        rw[he] at h1'
        simp only at h1'
        split at h1'
        ·rename_i hi
         unfold eM at hi
         split at hi
         ·split at hi
          ·simp at hi
          ·simp[eX] at hi
         ·simp at hi
        ·simp at h1'
   have:=gL l σ1 σ' _ h hB1
   simp only[fw,h1]
   rw[← gk];exact this
  ·simp at h
omit [aq] in
theorem O9 {ops:Array Oper}{base:Nat}(h:tP P C ops base σ=some σ')(hB:Bd σ):Bd σ':=by
 unfold tP at h
 cases hr:bO P C ops (aB ops) with
 | false=>rw[hr] at h;simp at h
 | true=>
  rw[hr] at h
  simp only[cond_true] at h
  split at h
  ·rename_i σ1 h1
   cases h
   have:=gL (bj ops.size) σ σ1 [] h1 (by intro q hq;have:=hB q hq;simpa [St.ay] using this)
   simpa using this
  ·simp at h
theorem zE (hF:cV P F){ops:Array Oper}{base z:Nat}{e:Ex}(h:nc P C F ops base z σ=some (e,σ'))(hB:Bd σ):Bd σ':=by
 unfold nc at h
 split at h
 ·rename_i h1;cases h;exact qU hF h1 hB
 ·split at h
  ·rename_i σ1 h1;cases h;exact nK hF (fun H i o h=>h) h1 hB
  ·simp at h
theorem Lj (hF:cV P F){ops:Array Oper}{base:Nat}{e:Ex}(h:o9 P C F ops base σ=some (e,σ'))(hB:Bd σ):Bd σ':=by
 unfold o9 at h
 split at h
 ·split at h
  ·rename_i h1;cases h;exact O9 h1 hB
  ·simp at h
 ·rename_i z hz
  obtain⟨_,h⟩:=aA h
  split at h
  ·rename_i σ1 h1
   have:=gL (bj z) σ σ1 [] h1 (by intro q hq;have:=hB q hq;simpa [St.ay] using this)
   exact zE hF h (by simpa using this)
  ·simp at h
end
section
variable [aq]{F:jy}{P:Program}{C:Cons}{ops:Array Oper}{σ σ' σ1 σ2:St}{m:List Nat}{W:List (Option Nat)}{base:Nat}
omit [aq] in
theorem fM {base n mask:Nat}{ot:List Nat}{H:Heap}{q:Nat}{o:aS}(h:b6 base n mask ot H q=some o):VD base n mask q=true∧H q=some o∧xV ot q=false:=by
 unfold b6 at h
 cases hv:VD base n mask q with
 | true=>
  rw[hv] at h
  cases ho:xV ot q with
  | true=>rw[ho] at h;simp at h
  | false=>rw[ho] at h;exact⟨rfl,h,rfl⟩
 | false=>rw[hv] at h;simp at h
omit [aq] in
theorem Cc {n x i j:Nat}(hx:x<n)(hne:x≠i)(h1:ba (m.getD i 0) x=false)(h2:ba (m.getD x 0) i=false)(hW:W.getD x none=some j):xV (pS m W n i) j=true:=by
 cases W with
 | nil=>simp at hW
 | cons w0 W0=>
 unfold xV pS
 rw[ft]
 refine⟨j,eK.2 ⟨x,be.2 hx,?_⟩,by simp⟩
 have hb:bm x i=false:=by
  cases hb:bm x i with
  | false=>rfl
  | true=>exact absurd (aw hb) hne
 rw[hb,h1,h2]
 exact hW
omit [aq] in
theorem Ub {i x:Nat}{ox:Oper}(hx:ops[x]? = some ox)(h:Cp P ops m i=true)(hne:x≠i)(h1:ba (m.getD i 0) x=false)(h2:ba (m.getD x 0) i=false):CU P ox=false:=by
 unfold Cp at h
 have:=dq.1 h x (be.2 (cn.1 hx).1)
 have hb:bm x i=false:=by
  cases hb:bm x i with
  | false=>rfl
  | true=>exact absurd (aw hb) hne
 rw[hb,h1,h2,hx] at this
 simpa using this
omit [aq] in
theorem Cv {i j x:Nat}{o ox:Oper}(hi:ops[i]? = some o)(hx:ops[x]? = some ox)(h:lK P C ops m W i σ=true)(hw:RF C o=true)(ht:gj σ.val o=some j)(hr:CU P ox=true)(hne:x≠i)
  (h1:ba (m.getD i 0) x=false) (h2:ba (m.getD x 0) i=false):W.getD i none=some j:=by
 unfold lK at h
 rw[hi] at h
 simp only[hw,cond_true,ht,eh] at h
 rcases h with h|h
 ·cases hg:W.getD i none with
  | none=>rw[hg] at h;simp[eqO] at h
  | some k=>rw[hg] at h;simp only[eqO] at h;rw[aw h]
 ·rw[Ub hx h hne h1 h2] at hr;simp at hr
omit [aq] in
theorem EM {o:Oper}{ρ ρ':Operand→AV}(h:∀ x∈o.op.operands,ρ' x=ρ x):gj ρ' o=gj ρ o:=by
 obtain⟨dst,op,ty,pos,af,gd⟩:=o
 unfold gj
 cases op<;>simp only[Op.operands] at h<;>simp only
 case store t a x=>rw[h a (by simp)]
 case next x s=>rw[h x (by simp)]
 case mapEntry t m k=>rw[h m (by simp)]
 case mapUpdate t m k x=>rw[h m (by simp)]
 case entryStore t m s x=>rw[h m (by simp)]
 case call c=>
  cases hl:c.args.toList with
  | nil=>rfl
  | cons a l=>
   refine congrArg jh (h a ?_)
   have:a∈c.args:=by rw[← cf,hl];simp
   unfold Call.operands
   cases c.callee<;>simp[this]
omit [aq] in
theorem mQ {i:Nat}{o:Oper}(hi:ops[i]? = some o)(hn:σ'.nt=σ.nt)(h:∀ t,t∈o.looksAt ops→σ'.tmps t=σ.tmps t):lK P C ops m W i σ'=lK P C ops m W i σ:=by
 unfold lK
 rw[hi]
 simp only
 rw[EM (ρ:=σ.val) (ρ':=σ'.val) fun x hx=>val_congr hn fun t e=>by
  subst e
  refine h t ?_
  unfold gn
  exact dj.2 (.inl (eK.2 ⟨.tmp t,by simpa using hx,rfl⟩))]
omit [aq] in
theorem Bt {base n mask x q:Nat}(hx:x<n)(h1:base+x * 16≤q)(h2:q<base+x * 16+16)(hm:ba mask x=false):VD base n mask q=false:=by
 unfold VD
 have a1:Nat.ble base q=true:=Nat.ble_eq_true_of_le (by omega)
 have a2:ol q (base+n * 16)=true:=EA (by omega)
 have a3:(q-base) / 16=x:=by omega
 rw[a1,a2,a3]
 exact hm
omit [aq] in
theorem nW {σ σ':St}{id:Nat}{dst:Option Tmp}{e:Ix}(h:σ.ED id dst e=some σ') :
  (e.new=true→bn σ.heap e.sets=true∧eY id e.sets=true)∧(σ.with (bc σ.heap e.sets)).put dst e.v=some σ':=by
 unfold St.ED at h
 cases hn:e.new with
 | false=>rw[hn] at h;exact⟨fun h=>by simp at h,h⟩
 | true=>
  rw[hn] at h
  cases hb:(bn σ.heap e.sets&&eY id e.sets) with
  | false=>rw[hb] at h;simp at h
  | true=>
   rw[hb] at h
   simp only[ap] at hb
   exact⟨fun _=>hb,h⟩
omit [aq] in
theorem Ae {σ σ':St}{id:Nat}{dst:Option Tmp}{e:Ix}(h1:e.new=true→bn σ.heap e.sets=true∧eY id e.sets=true)
  (h2:(σ.with (bc σ.heap e.sets)).put dst e.v=some σ'):σ.ED id dst e=some σ':=by
 unfold St.ED
 cases hn:e.new with
 | false=>exact h2
 | true=>rw[(h1 hn).1,(h1 hn).2];exact h2
omit [aq] in
theorem rR {σ σ':St}{H:Heap}{dst:Option Tmp}{v:AV}(h:(σ.with H).put dst v=some σ') :
  σ'.nt=σ.nt∧σ'.heap=H∧(∀ t,dst≠some t→σ'.tmps t=σ.tmps t):=by
 cases dst with
 | none=>simp only[St.put,al] at h;subst h;exact⟨rfl,rfl,fun _ _=>rfl⟩
 | some d=>
  obtain⟨_,rfl⟩:=ai h
  exact⟨rfl,rfl,fun t ht=>ax _ _ (fun e=>ht (by rw[e]))⟩
omit [aq] in
theorem NI {σ σ1 σ2:St}{H1 H2 H3:Heap}{d1 d2:Option Tmp}{v1 v2:AV}(h1:(σ.with H1).put d1 v1=some σ1)(h2:(σ1.with H2).put d2 v2=some σ2)
  (hd:∀ d,d1=some d→d2≠some d):∃ σ3,(σ.with H3).put d2 v2=some σ3∧(σ3.with H2).put d1 v1=some σ2:=by
 cases d1 with
 | none=>
  simp only[St.put,al] at h1;subst h1
  cases d2 with
  | none=>simp only[St.put,al] at h2;subst h2;exact⟨_,rfl,rfl⟩
  | some d=>obtain⟨c,rfl⟩:=ai h2;exact⟨⟨σ.nt,aP σ.tmps d v2,H3,σ.ids⟩,by simp only[St.put,St.with] at c ⊢;rw[c];rfl,rfl⟩
 | some d=>
  obtain⟨c1,rfl⟩:=ai h1
  cases d2 with
  | none=>
   simp only[St.put,al] at h2;subst h2
   exact⟨_,rfl,by simp only[St.put,St.with] at c1 ⊢;rw[c1];rfl⟩
  | some e=>
   obtain⟨c2,rfl⟩:=ai h2
   simp only[St.with] at c1 c2
   refine⟨⟨σ.nt,aP σ.tmps e v2,H3,σ.ids⟩,by simp only[St.put,St.with];rw[c2];rfl,?_⟩
   simp only[St.put,St.with]
   rw[c1]
   have hne:d≠e:=fun h=>hd d rfl (by rw[h])
   simp only[cond_true,al,St.mk.injEq,true_and,and_true]
   exact (Fq σ.tmps v1 v2 hne).symm
omit [aq] in
theorem swap {x i:Nat}{ox oi:Oper}(hx:ops[x]? = some ox)(hi:ops[i]? = some oi)(hind:indep P C ops m x i ox oi=true)(hxi:x≠i)
  (h1:xQ P C ops m W base x σ=some σ1) (h2:xQ P C ops m W base i σ1=some σ2) :
  ∃ σ3,xQ P C ops m W base i σ=some σ3∧xQ P C ops m W base x σ3=some σ2:=by
 have hxn:x<ops.size:=(cn.1 hx).1
 have hin:i<ops.size:=(cn.1 hi).1
 unfold indep at hind
 simp only[ap,cd,Bool.and_eq_false_iff] at hind
 obtain⟨⟨hap,hb1⟩,hb2⟩:=hind
 obtain⟨p1,p2,p3⟩:=Oper.apart_spec hap
 unfold xQ at h1 h2 ⊢
 obtain⟨t1,h1⟩:=aA h1
 obtain⟨t2,h2⟩:=aA h2
 rw[fI hx] at h1
 rw[fI hi] at h2
 cases he1:gm P C ops (b6 base ops.size (m.getD x 0) (pS m W ops.size x) σ.heap) (base+x * 16) ox σ with
 | none=>rw[he1] at h1;simp at h1
 | some ex=>
  rw[he1] at h1
  simp only at h1
  cases he2:gm P C ops (b6 base ops.size (m.getD i 0) (pS m W ops.size i) σ1.heap) (base+i * 16) oi σ1 with
  | none=>rw[he2] at h2;simp at h2
  | some ei=>
   rw[he2] at h2
   simp only at h2
   obtain⟨q1,q2⟩:=nW h1
   obtain⟨r1,r2⟩:=nW h2
   obtain⟨f1,f2,f3⟩:=rR q2
   have okx:=qG he1
   have oki:=qG he2
   have hH:CU P oi=true→b6 base ops.size (m.getD i 0) (pS m W ops.size i) σ.heap=b6 base ops.size (m.getD i 0) (pS m W ops.size i) σ1.heap:=by
    intro hr
    funext q
    unfold b6
    cases hv:(VD base ops.size (m.getD i 0) q && !xV (pS m W ops.size i) q) with
    | false=>rfl
    | true=>
     simp only[cond_true]
     simp only[ap,cd] at hv
     obtain⟨hv,hv2⟩:=hv
     rw[f2]
     symm
     refine eZ _ _ _ fun hq=>?_
     rcases okx with h0|h0|⟨h0,j,ob,hs,hj,ht⟩
     ·rw[h0] at hq;simp[ids] at hq
     ·have:=iq (q1 h0).2 q hq
      have:=Bt (mask:=m.getD i 0) hxn this.1 this.2 hb1
      rw[hv] at this;simp at this
     ·rw[hs] at hq
      simp only[ids,dd,fa,dt] at hq
      subst hq
      rw[Cc hxn hxi hb1 hb2 (Cv hx hi t1 h0 ht hr (Ne.symm hxi) hb2 hb1)] at hv2
      simp at hv2
   have hsi:gm P C ops (b6 base ops.size (m.getD i 0) (pS m W ops.size i) σ.heap) (base+i * 16) oi σ=some ei:=by
    rw[← he2]
    refine nj f1.symm (fun t ht=>?_) hH
    exact (f3 t (fun e=>p1 t e ht)).symm
   have hdis:∀ q∈ids ex.sets,q∉ids ei.sets:=by
    intro q hq hq2
    rcases okx with h0|h0|⟨h0,j,ob,hs,hj,ht⟩
    ·rw[h0] at hq;simp[ids] at hq
    ·have a1:=iq (q1 h0).2 q hq
     rcases oki with k0|k0|⟨k0,j,ob,ks,kj,kt⟩
     ·rw[k0] at hq2;simp[ids] at hq2
     ·have a2:=iq (r1 k0).2 q hq2
      omega
     ·rw[ks] at hq2
      simp only[ids,dd,fa,dt] at hq2
      subst hq2
      cases ho:b6 base ops.size (m.getD i 0) (pS m W ops.size i) σ1.heap q with
      | none=>rw[ho] at kj;simp at kj
      | some o=>
       have:=(fM ho).1
       rw[Bt (mask:=m.getD i 0) hxn a1.1 a1.2 hb1] at this;simp at this
    ·rw[hs] at hq
     simp only[ids,dd,fa,dt] at hq
     subst hq
     have hjs:(σ.heap q).isSome=true:=by
      cases ho:b6 base ops.size (m.getD x 0) (pS m W ops.size x) σ.heap q with
      | none=>rw[ho] at hj;simp at hj
      | some o=>rw[(fM ho).2.1];rfl
     rcases oki with k0|k0|⟨k0,j2,ob2,ks,kj,kt⟩
     ·rw[k0] at hq2;simp[ids] at hq2
     ·have:=oD _ _ (r1 k0).1 q hq2
      rw[f2,hs] at this
      simp only[bc,au] at this
      simp at this
     ·rw[ks] at hq2
      simp only[ids,dd,fa,dt] at hq2
      subst hq2
      cases ho:b6 base ops.size (m.getD i 0) (pS m W ops.size i) σ1.heap q with
      | none=>rw[ho] at kj;simp at kj
      | some o=>
       have:=(fM ho).2.2
       rw[Cc hxn hxi hb1 hb2 (Cv hx hi t1 h0 ht (SI k0) (Ne.symm hxi) hb2 hb1)] at this
       simp at this
   obtain⟨σ3,g1,g2⟩:=NI (H3:=bc σ.heap ei.sets) q2 r2 p2
   obtain⟨l1,l2,l3⟩:=rR g1
   have hside:σ.ED (base+i * 16) oi.dst ei=some σ3:=Ae (fun hn=>⟨by
    rw[← (r1 hn).1,f2]
    symm
    exact kQ _ _ _ fun q hq=>eZ _ _ _ fun hq2=>hdis q hq2 hq,(r1 hn).2⟩) g1
   have t2':lK P C ops m W i σ=true:=by rw[← t2];exact mQ hi f1.symm fun t ht=>(f3 t (fun e=>p1 t e ht)).symm
   have t1':lK P C ops m W x σ3=true:=by rw[← t1];exact mQ hx l1 fun t ht=>l3 t (fun e=>p3 t e ht)
   refine⟨σ3,by rw[t2',fI hi,hsi];exact hside,?_⟩
   have hH2:CU P ox=true→b6 base ops.size (m.getD x 0) (pS m W ops.size x) σ3.heap=b6 base ops.size (m.getD x 0) (pS m W ops.size x) σ.heap:=by
    intro hr
    funext q
    unfold b6
    cases hv:(VD base ops.size (m.getD x 0) q && !xV (pS m W ops.size x) q) with
    | false=>rfl
    | true=>
     simp only[cond_true]
     simp only[ap,cd] at hv
     obtain⟨hv,hv2⟩:=hv
     rw[l2]
     refine eZ _ _ _ fun hq=>?_
     rcases oki with h0|h0|⟨h0,j,ob,hs,hj,ht⟩
     ·rw[h0] at hq;simp[ids] at hq
     ·have:=iq (r1 h0).2 q hq
      have:=Bt (mask:=m.getD x 0) hin this.1 this.2 hb2
      rw[hv] at this;simp at this
     ·rw[hs] at hq
      simp only[ids,dd,fa,dt] at hq
      subst hq
      rw[Cc hin (Ne.symm hxi) hb2 hb1 (Cv hi hx t2 h0 ht hr hxi hb1 hb2)] at hv2
      simp at hv2
   have hsx:gm P C ops (b6 base ops.size (m.getD x 0) (pS m W ops.size x) σ3.heap) (base+x * 16) ox σ3=some ex:=by
    rw[← he1]
    refine nj l1 (fun t ht=>l3 t (fun e=>p3 t e ht)) hH2
   rw[t1',fI hx,hsx]
   simp only[cond_true]
   refine Ae (fun hn=>⟨by
    rw[← (q1 hn).1,l2]
    exact kQ _ _ _ fun q hq=>eZ _ _ _ fun hq2=>hdis q hq hq2,(q1 hn).2⟩) ?_
   rw[l2,← tU _ _ _ hdis,← f2]
   exact g2
omit [aq] in
theorem front {i:Nat}{oi:Oper}(hi:ops[i]? = some oi):∀ (p s:List Nat) (σ:St),(∀ x∈p,x≠i∧∃ ox,ops[x]? = some ox∧indep P C ops m x i ox oi=true) →
  dM P C ops m W base (p++i::s) σ=some σ'→∃ σ1,xQ P C ops m W base i σ=some σ1∧dM P C ops m W base (p++s) σ1=some σ'
 | [],s,σ,_,h=>by
  simp only[List.nil_append,dM] at h
  split at h
  ·rename_i σ1 h1;exact⟨σ1,h1,h⟩
  ·simp at h
 | x::p,s,σ,hp,h=>by
  simp only[List.cons_append,dM] at h
  split at h
  ·rename_i σx hx
   obtain⟨σ1,k1,k2⟩:=front hi p s σx (fun y hy=>hp y (by simp[hy])) h
   obtain⟨hne,ox,hox,hind⟩:=hp x (by simp)
   obtain⟨σ3,q1,q2⟩:=swap hox hi hind hne hx k1
   exact⟨σ3,q1,by simp only[List.cons_append,dM,q2];exact k2⟩
  ·simp at h
omit [aq] in
theorem cg (m:List Nat)(x:Nat):∀ (l:List Edge) (s:Nat),ba (l.foldl (fun s e=>cond (du .any e) (s ||| 2 ^ e.on ||| m.getD e.on 0) s) s) x=true →
  ba s x=true∨∃ e∈l,du .any e=true∧(x=e.on∨ba (m.getD e.on 0) x=true)
 | [],s,h=>.inl h
 | e::l,s,h=>by
  simp only[List.foldl_cons] at h
  rcases cg m x l _ h with h|⟨e',h1,h2⟩
  ·cases hb:du .any e with
   | false=>rw[hb] at h;exact .inl h
   | true=>
    rw[hb] at h
    simp only[cond_true,Nat.testBit_or,eh,Nat.testBit_two_pow] at h
    rcases h with (h|h)|h
    ·exact .inl h
    ·exact .inr ⟨e,by simp,hb,.inl (by simpa using Eq.symm (by simpa using h))⟩
    ·exact .inr ⟨e,by simp,hb,.inr h⟩
  ·exact .inr ⟨e',by simp[h1],h2⟩
structure Dw (P:Program)(C:Cons)(ops:Array Oper)(m:List Nat):Prop where
 mixed:P.follows .mixedOrders=true
 mask:∀ i o,ops[i]? = some o→m.getD i 0=Be m o
 TQ:∀ i o,ops[i]? = some o→∀ e∈o.after.toList,du .any e=true→e.on<i
 pair:∀ x i,x<i→∀ ox oi,ops[x]? = some ox→ops[i]? = some oi→ba (m.getD i 0) x=true∨indep P C ops m x i ox oi=true
omit [aq] in
theorem fW (h:bO P C ops m=true):Dw P C ops m:=by
 unfold bO at h
 simp only[ap,dq,be] at h
 obtain⟨h1,h2⟩:=h
 have key:∀ i o,ops[i]? = some o→(bm (m.getD i 0) (Be m o)=true∧Cy o i=true)∧∀ x,x<i→Iu P C ops m x i=true:=by
  intro i o ho
  have:=h2 i (cn.1 ho).1
  rw[ho] at this
  simpa only [ap,dq,be] using this
 refine⟨h1,fun i o ho=>aw (key i o ho).1.1,fun i o ho e he hb=>?_,fun x i hx ox oi hox hoi=>?_⟩
 ·have:=(key i o ho).1.2
  unfold Cy at this
  rw[dq] at this
  have:=this e he
  rw[hb] at this
  exact cP this
 ·have:=(key i oi hoi).2 x hx
  unfold Iu at this
  rw[hox,hoi] at this
  simpa only [eh] using this
def rem (n:Nat)(L:Array Bool):List Nat:=(bj n).filter fun i=>!L.getD i true
def pF (m:List Nat)(L:Array Bool):Prop:=∀ i,L.getD i false=true→∀ x,ba (m.getD i 0) x=true→L.getD x false=true
omit [aq] in
theorem fP {L:Array Bool}{i:Nat}(h:i∈ee .any ops L) :
  i<ops.size∧L.getD i true=false∧∃ o,ops[i]? = some o∧∀ e∈o.after.toList,du .any e=true→L.getD e.on false=true:=by
 unfold ee at h
 simp only[bi,be,ap,cd] at h
 obtain⟨h1,h2,h3⟩:=h
 refine⟨h1,h2,ops[i],by simp[h1],fun e he hb=>?_⟩
 simp only[h1,getElem?_pos,Option.map_some,Option.getD_some,fb,eh,cd] at h3
 have:=h3 e (by simpa using he)
 rw[hb] at this
 simpa using this
omit [aq] in
theorem qX {L:Array Bool}{i:Nat}{o:Oper}(ho:ops[i]? = some o)(h2:L.getD i true=false)(h3:∀ e∈o.after.toList,du .any e=true→L.getD e.on false=true) :
  i∈ee .any ops L:=by
 unfold ee
 simp only[bi,be,ap,cd]
 refine⟨(cn.1 ho).1,h2,?_⟩
 rw[ho]
 simp only[Option.map_some,Option.getD_some,fb,eh,cd]
 intro e he
 cases hb:du .any e with
 | false=>exact .inl rfl
 | true=>exact .inr (h3 e (by simpa using he) hb)
omit [aq] in
theorem bB {L:Array Bool}{i:Nat}(d:Bool)(h:i<L.size)(j:Nat):(L.setIfInBounds i true).getD j d=if j=i then true else L.getD j d:=by
 simp only[ae]
 by_cases e:j=i
 ·subst e;simp[h]
 ·rw[fj (Ne.symm e),if_neg e]
omit [aq] in
theorem jF {n:Nat}{L:Array Bool}{i:Nat}(hs:L.size=n)(hi:i<n)(hl:L.getD i true=false) :
  ∃ p s,rem n L=p++i::s∧rem n (L.setIfInBounds i true)=p++s∧(∀ x∈p,x<i∧L.getD x true=false):=by
 have hr:bj n=bj i++i::(List.range' (i+1) (n-i-1)):=by
  rw[List.range_eq_range',List.range_eq_range',show n=i+(1+(n-i-1)) from by omega,← List.range'_append_1,Nat.zero_add,← List.range'_append_1]
  simp only[List.range'_succ,List.range'_zero,List.singleton_append]
  congr 3
  omega
 refine⟨(bj i).filter fun j=>!L.getD j true,(List.range' (i+1) (n-i-1)).filter fun j=>!L.getD j true,?_,?_,fun x hx=>?_⟩
 ·unfold rem
  rw[hr,db,dk (by simp[hl])]
 ·unfold rem
  rw[hr,db,gl (by rw[bB true (by omega)];simp)]
  congr 1
  ·refine fg fun x hx=>?_
   have:x<i:=be.1 hx
   rw[bB true (by omega),if_neg (by omega)]
  ·refine fg fun x hx=>?_
   have:=List.mem_range'_1.1 hx
   rw[bB true (by omega),if_neg (by omega)]
 ·simp only[bi,be,cd] at hx
  exact hx
theorem D4 (hC:bX P C){r:Option Nat}{N:ar}{Dt:Bool×List Deferred}{B:Nat}{w0:World}{Q:Exit→Act→World→Prop}(hr:Dw P C ops m) :
  ∀ (fuel:Nat) (L:Array Bool) (σ:St) (a:Act) (w:World) (μ:Mu) (S:ar),L.size=ops.size→(rem ops.size L).length≤fuel→pF m L →
   dM P C ops m W base (rem ops.size L) σ=some σ'→AR N Dt μ S σ a→Rel μ S σ.heap B w0 w →
   (∀ a' w' μ' S',AR N Dt μ' S' σ' a'→Rel μ' S' σ'.heap B w0 w'→Carry B μ S σ.heap μ' S' σ'.heap→Q .normal a' w') →
   wpAnyIn (WF r) 0 P .any ops Q fuel L a w:=by
 intro fuel
 have none_left:∀ (L:Array Bool),ee .any ops L=[]→rem ops.size L=[]:=by
  intro L hL
  have all:∀ i,i<ops.size→L.getD i true=true:=by
   intro i
   induction i using gg with
   | _ i ih=>
    intro hi
    cases hd:L.getD i true with
    | true=>rfl
    | false=>
     have ho:ops[i]? = some ops[i]:=by simp[hi]
     have:=qX ho hd fun e he hb=>by
      have hlt:=hr.TQ i _ ho e he hb
      have:=ih e.on hlt (by omega)
      rw[ae] at this ⊢
      cases hx:L[e.on]? with
      | some b=>rw[hx] at this;simpa using this
      | none=>
       rw[hx] at this
       exfalso
       have h1:L.size≤e.on:=by simpa using hx
       have h2:L.getD i true=true:=by rw[ae];rw[Array.getElem?_eq_none (by omega)];rfl
       rw[h2] at hd;simp at hd
     rw[hL] at this;simp at this
  unfold rem
  rw[h9]
  intro i hi
  rw[all i (be.1 hi)];simp
 induction fuel with
 | zero=>
  intro L σ a w μ S hs hf hcl h A R hK
  have hnil:rem ops.size L=[]:=dE (by omega)
  rw[hnil] at h
  simp only[dM,al] at h;subst h
  refine⟨?_,hK a w μ S A R Carry.refl⟩
  cases hrd:ee .any ops L with
  | nil=>rfl
  | cons i l=>
   have:=fP (L:=L) (i:=i) (ops:=ops) (by rw[hrd];simp)
   obtain⟨p,s,h1,_⟩:=jF hs this.1 this.2.1
   rw[hnil] at h1;simp at h1
 | succ fuel ih=>
  intro L σ a w μ S hs hf hcl h A R hK
  refine⟨fun hrd=>?_,fun i hi=>?_⟩
  ·rw[none_left L hrd] at h
   simp only[dM,al] at h;subst h
   exact hK a w μ S A R Carry.refl
  ·obtain⟨hin,hli,oi,hoi,hed⟩:=fP hi
   obtain⟨p,s,e1,e2,hp⟩:=jF hs hin hli
   rw[e1] at h
   have hind:∀ x∈p,x≠i∧∃ ox,ops[x]? = some ox∧indep P C ops m x i ox oi=true:=by
    intro x hx
    obtain⟨hlt,hlx⟩:=hp x hx
    have hox:ops[x]? = some ops[x]:=by simp[show x<ops.size from by omega]
    refine⟨by omega,_,hox,?_⟩
    rcases hr.pair x i hlt _ _ hox hoi with hb|hb
    ·exfalso
     rw[hr.mask i oi hoi] at hb
     rcases cg m x _ _ hb with h0|⟨e,he,hbd,h0⟩
     ·simp at h0
     ·have hle:=hed e he hbd
      have hLx:L.getD x false=true:=by
       rcases h0 with rfl|h0
       ·exact hle
       ·exact hcl e.on hle x h0
      have hsz:x<L.size:=by omega
      simp[ae,hsz] at hLx hlx
      rw[hLx] at hlx;simp at hlx
    ·exact hb
   obtain⟨σ1,k1,k2⟩:=front hoi p s σ hind h
   unfold xQ at k1
   obtain⟨_,k1⟩:=aA k1
   refine gH hC (F:=eX) (fun _ _ _ _ _ _ _ _ h=>by simp[eX] at h) (fun H j o h=>(fM h).2.1) k1 (.inr rfl) A R fun a1 w1 μ1 S1 A1 R1 C1=>?_
   have hsz:i<L.size:=by omega
   refine ih (L.setIfInBounds i true) σ1 a1 w1 μ1 S1 (by simp[hs]) ?_ ?_ (by rw[e2];exact k2) A1 R1 (fun a' w' μ' S' A' R' C'=>hK a' w' μ' S' A' R' (C1.trans C'))
   ·rw[e1] at hf
    rw[e2]
    simp at hf ⊢;omega
   ·intro j hj x hx
    rw[bB false hsz] at hj ⊢
    by_cases e:x=i
    ·rw[if_pos e]
    ·rw[if_neg e]
     by_cases ej:j=i
     ·subst ej
      rw[hr.mask j oi hoi] at hx
      rcases cg m x _ _ hx with h0|⟨e',he,hbd,h0⟩
      ·simp at h0
      ·have hle:=hed e' he hbd
       rcases h0 with rfl|h0
       ·exact hle
       ·exact hcl e'.on hle x h0
     ·rw[if_neg ej] at hj
      exact hcl j hj x hx
def pn (n z:Nat)(L:Array Bool):List Nat:=(rem n L).filter fun i=>!(bm i z)
theorem zG (hC:bX P C){r:Option Nat}{N:ar}{Dt:Bool×List Deferred}{B:Nat}{w0:World}{Q:Exit→Act→World→Prop}(hr:Dw P C ops m)
  {z:Nat} {oz:Oper} (hzo:ops[z]? = some oz) (hzn:z+1=ops.size) (hfull:∀ x,x<z→ba (m.getD z 0) x=true) :
  ∀ (fuel:Nat) (L:Array Bool) (σ:St) (a:Act) (w:World) (μ:Mu) (S:ar),L.size=ops.size→L.getD z true=false→(pn ops.size z L).length+1≤fuel→pF m L →
   dM P C ops m W base (pn ops.size z L) σ=some σ'→AR N Dt μ S σ a→Rel μ S σ.heap B w0 w →
   (∀ a' w' μ' S',AR N Dt μ' S' σ' a'→Rel μ' S' σ'.heap B w0 w'→Carry B μ S σ.heap μ' S' σ'.heap→wpOpIn (WF r) 0 P ops Q z (fun a w=>Q .normal a w) a' w') →
   wpAnyIn (WF r) 0 P .any ops Q fuel L a w:=by
 intro fuel
 induction fuel with
 | zero=>intro L σ a w μ S hs hz hf;omega
 | succ fuel ih=>
  intro L σ a w μ S hs hz hf hcl h A R hK
  have hzlt:z<ops.size:=by omega
  refine⟨fun hrd=>?_,fun i hi=>?_⟩
  ·
   exfalso
   have all:∀ i,i<ops.size→L.getD i true=true:=by
    intro i
    induction i using gg with
    | _ i ih2=>
     intro hi
     cases hd:L.getD i true with
     | true=>rfl
     | false=>
      have ho:ops[i]? = some ops[i]:=by simp[hi]
      have:=qX ho hd fun e he hb=>by
       have hlt:=hr.TQ i _ ho e he hb
       have:=ih2 e.on hlt (by omega)
       have hsz:e.on<L.size:=by omega
       simpa [ae,hsz] using this
      rw[hrd] at this;simp at this
   rw[all z hzlt] at hz;simp at hz
  ·obtain⟨hin,hli,oi,hoi,hed⟩:=fP hi
   by_cases hiz:i=z
   ·
    subst hiz
    have hdone:∀ x,x<i→L.getD x false=true:=by
     intro x hx
     have hb:=hfull x hx
     rw[hr.mask i oi hoi] at hb
     rcases cg m x _ _ hb with h0|⟨e,he,hbd,h0⟩
     ·simp at h0
     ·have hle:=hed e he hbd
      rcases h0 with rfl|h0
      ·exact hle
      ·exact hcl e.on hle x h0
    have hnil:pn ops.size i L=[]:=by
     unfold pn rem
     rw[eQ,h9]
     intro x hx
     have hx:=be.1 hx
     by_cases e:x=i
     ·subst e;simp
     ·have hd:=hdone x (by omega)
      have hsz:x<L.size:=by omega
      have:L.getD x true=true:=by simpa [ae,hsz] using hd
      simp[this]
    rw[hnil] at h
    simp only[dM,al] at h;subst h
    have hop:=hK a w μ S A R Carry.refl
    have hend:∀ a' w',Q .normal a' w'→wpAnyIn (WF r) 0 P .any ops Q fuel (L.setIfInBounds i true) a' w':=by
     intro a' w' hq
     have hno:ee .any ops (L.setIfInBounds i true)=[]:=by
      cases hrd:ee .any ops (L.setIfInBounds i true) with
      | nil=>rfl
      | cons j l=>
       exfalso
       obtain⟨hj,hlj,_⟩:=fP (L:=L.setIfInBounds i true) (i:=j) (ops:=ops) (by rw[hrd];simp)
       rw[bB true (by omega)] at hlj
       by_cases e:j=i
       ·rw[if_pos e] at hlj;simp at hlj
       ·rw[if_neg e] at hlj
        have hd:=hdone j (by omega)
        have hsz:j<L.size:=by omega
        have:L.getD j true=true:=by simpa [ae,hsz] using hd
        rw[this] at hlj;simp at hlj
     cases fuel with
     | zero=>exact⟨hno,hq⟩
     | succ f=>exact⟨fun _=>hq,fun j hj=>by rw[hno] at hj;simp at hj⟩
    exact wpOpIn_mono hend hop
   ·obtain⟨p,s,e1,e2,hp⟩:=jF hs hin hli
    have hbz:(!(bm i z))=true:=by
     cases hb:bm i z with
     | true=>exact absurd (aw hb) hiz
     | false=>rfl
    have f1:pn ops.size z L=(p.filter fun i=>!(bm i z))++i::(s.filter fun i=>!(bm i z)):=by
     unfold pn
     rw[e1,db,dk (by exact hbz)]
    have f2:pn ops.size z (L.setIfInBounds i true)=(p.filter fun i=>!(bm i z))++(s.filter fun i=>!(bm i z)):=by
     unfold pn
     rw[e2,db]
    rw[f1] at h
    have hind:∀ x∈(p.filter fun i=>!(bm i z)),x≠i∧∃ ox,ops[x]? = some ox∧indep P C ops m x i ox oi=true:=by
     intro x hx
     have hx:=(bi.1 hx).1
     obtain⟨hlt,hlx⟩:=hp x hx
     have hox:ops[x]? = some ops[x]:=by simp[show x<ops.size from by omega]
     refine⟨by omega,_,hox,?_⟩
     rcases hr.pair x i hlt _ _ hox hoi with hb|hb
     ·exfalso
      rw[hr.mask i oi hoi] at hb
      rcases cg m x _ _ hb with h0|⟨e,he,hbd,h0⟩
      ·simp at h0
      ·have hle:=hed e he hbd
       have hLx:L.getD x false=true:=by
        rcases h0 with rfl|h0
        ·exact hle
        ·exact hcl e.on hle x h0
       have hsz:x<L.size:=by omega
       simp[ae,hsz] at hLx hlx
       rw[hLx] at hlx;simp at hlx
     ·exact hb
    obtain⟨σ1,k1,k2⟩:=front hoi _ _ σ hind h
    unfold xQ at k1
    obtain⟨_,k1⟩:=aA k1
    refine gH hC (F:=eX) (fun _ _ _ _ _ _ _ _ h=>by simp[eX] at h) (fun H j o h=>(fM h).2.1) k1 (.inr rfl) A R fun a1 w1 μ1 S1 A1 R1 C1=>?_
    have hsz:i<L.size:=by omega
    refine ih (L.setIfInBounds i true) σ1 a1 w1 μ1 S1 (by simp[hs]) ?_ ?_ ?_ (by rw[f2];exact k2) A1 R1 (fun a' w' μ' S' A' R' C'=>hK a' w' μ' S' A' R' (C1.trans C'))
    ·rw[bB true hsz,if_neg (fun e=>hiz e.symm)];exact hz
    ·rw[f1] at hf
     rw[f2]
     simp at hf ⊢;omega
    ·intro j hj x hx
     rw[bB false hsz] at hj ⊢
     by_cases e:x=i
     ·rw[if_pos e]
     ·rw[if_neg e]
      by_cases ej:j=i
      ·subst ej
       rw[hr.mask j oi hoi] at hx
       rcases cg m x _ _ hx with h0|⟨e',he,hbd,h0⟩
       ·simp at h0
       ·have hle:=hed e' he hbd
        rcases h0 with rfl|h0
        ·exact hle
        ·exact hcl e'.on hle x h0
      ·rw[if_neg ej] at hj
       exact hcl j hj x hx
theorem Pq (hC:bX P C){r:Option Nat}{N:ar}{Dt:Bool×List Deferred}{B:Nat}{w w0:World}{a:Act}{μ:Mu}{S:ar}{Q:Exit→Act→World→Prop}{id:Nat}(h:tP P C ops base σ=some σ')(A:AR N Dt μ S σ a)(R:Rel μ S σ.heap B w0 w)
  (hK:∀ a' w' μ' S',AR N Dt μ' S' σ' a'→Rel μ' S' σ'.heap B w0 w'→Carry B μ S σ.heap μ' S' σ'.heap→Q .normal a' w'):(ib id ops true).wpIn (WF r) 0 P Q a w:=by
 unfold tP at h
 cases hr:bO P C ops (aB ops) with
 | false=>rw[hr] at h;simp at h
 | true=>
  rw[hr] at h
  have hr:=fW hr
  simp only[cond_true] at h
  split at h
  case h_2=>simp at h
  rename_i σ1 h1
  cases h
  refine wpIn_region_any hr.mixed ?_
  have hrem:rem ops.size (eI ops.size false)=bj ops.size:=by
   unfold rem
   rw[dC]
   intro i hi
   have:=be.1 hi
   simp[ae,this]
  have R':Rel μ S σ.heap B w0 w.drew:=R.Jp
  refine D4 hC hr ops.size _ σ a w.drew μ S (by simp) (by rw[hrem];simp) ?_ (by rw[hrem];exact h1) A R' (fun a' w' μ' S' A' R' C'=>hK a' w' μ' S' A'.ay R' C')
  intro i hi x hx
  by_cases hlt:i<ops.size
  ·simp[ae,hlt] at hi
  ·simp[ae,hlt] at hi
theorem LY (hC:bX P C)(hF:cV P F){r:Option Nat}{N:ar}{Dt:Bool×List Deferred}{B:Nat}{w w0:World}{a:Act}{μ:Mu}{S:ar}{Q:Exit→Act→World→Prop}{id:Nat}{e:Ex}(h:o9 P C F ops base σ=some (e,σ'))(hB:Bd σ)(A:AR N Dt μ S σ a)(R:Rel μ S σ.heap B w0 w)
  (hK:∀ a' w' μ' S' x,AR N Dt μ' S' σ' a'→Rel μ' S' σ'.heap B w0 w'→Carry B μ S σ.heap μ' S' σ'.heap→e.Is μ' S' σ'.heap x→Q x a' w'):(ib id ops true).wpIn (WF r) 0 P Q a w:=by
 unfold o9 at h
 split at h
 ·split at h
  ·rename_i h1
   cases h
   exact Pq hC h1 A R fun a' w' μ' S' A' R' C'=>hK a' w' μ' S' _ A' R' C' rfl
  ·simp at h
 ·rename_i z hz
  obtain⟨hr,h⟩:=aA h
  have hr:=fW hr
  split at h
  case h_2=>simp at h
  rename_i σ1 h1
  have hzf:z=ops.size-1∧0<ops.size∧∀ x,x<z→ba ((aB ops).getD z 0) x=true:=by
   unfold wL at hz
   split at hz
   case h_2=>simp at hz
   rename_i o ho
   split at hz
   case h_2=>simp at hz
   split at hz
   case h_2=>simp at hz
   obtain⟨hc,rfl⟩:=ai hz
   simp only[ap,dq,be] at hc
   refine⟨rfl,?_,fun x hx=>hc.2 x hx⟩
   have:=(cn.1 ho).1
   omega
  obtain⟨hz1,hpos,hfull⟩:=hzf
  have hzo:ops[z]? = some ops[z]:=by simp[show z<ops.size by omega]
  have hBz:Bd (σ1.ay (fw P C ops (aB ops) (pp P C ops (aB ops) base σ) base (bj z) σ)):=by
   have:=gL (bj z) σ σ1 [] h1 (by intro q hq;have:=hB q hq;simpa [St.ay] using this)
   simpa using this
  refine wpIn_region_any hr.mixed ?_
  have hrem:pn ops.size z (eI ops.size false)=bj z:=by
   have e0:rem ops.size (eI ops.size false)=bj ops.size:=by
    unfold rem
    rw[dC]
    intro i hi
    have:=be.1 hi
    simp[ae,this]
   unfold pn
   rw[e0,show ops.size=z+1 by omega,List.range_succ,db]
   have e1:(bj z).filter (fun i=>!(bm i z))=bj z:=by
    rw[dC]
    intro i hi
    have:=be.1 hi
    cases hb:bm i z with
    | true=>have:=aw hb;omega
    | false=>rfl
   rw[e1]
   simp[show bm z z=true from Nat.beq_refl z]
  have R':Rel μ S σ.heap B w0 w.drew:=R.Jp
  refine zG hC hr hzo (by omega) hfull ops.size _ σ a w.drew μ S (by simp) ?_ (by rw[hrem];simp;omega) ?_ (by rw[hrem];exact h1) A R' fun a' w' μ' S' A' R' C'=>?_
  ·simp[ae,show z<ops.size by omega]
  ·intro i hi x hx
   by_cases hlt:i<ops.size
   ·simp[ae,hlt] at hi
   ·simp[ae,hlt] at hi
  ·unfold nc at h
   split at h
   ·rename_i y H1 L1 hp
    cases h
    exact mF hF hp hBz A'.ay R' fun w2 μ2 S2 u A2 R2 C2 hv=>hK a' w2 μ2 S2 _ A2 R2 (C'.trans C2) ⟨u,rfl,hv⟩
   ·split at h
    ·rename_i σ2 hop
     cases h
     exact gH hC hF (fun H i o h=>h) hop (.inl hBz) A'.ay R' fun a2 w2 μ2 S2 A2 R2 C2=>hK a2 w2 μ2 S2 _ A2.ay R2 (C'.trans C2) rfl
    ·simp at h
end
def I8:IntKind→IntKind→Bool
 | .i8,.i8=>true
 | .i16,.i16=>true
 | .i32,.i32=>true
 | .i64,.i64=>true
 | .u8,.u8=>true
 | .u16,.u16=>true
 | .u32,.u32=>true
 | .u64,.u64=>true
 | _,_=>false
theorem DZ {a b:IntKind}(h:I8 a b=true):a=b:=by
 cases a<;>cases b<;>first|rfl|(simp[I8] at h)
mutual
def cY:AV→AV→Bool
 | .ptr i o,.ptr j p=>bm i j&&bm o p
 | .sl i g,.sl j h=>bm i j&&bm g h
 | .ah,.ah=>true
 | .agg a,.agg b=>sI a b
 | .mp i,.mp j=>bm i j
 | .lit (.int k i),.lit (.int l j)=>I8 k l&&decide (i=j)
 | .lit (.tuple x),.lit (.tuple y)=>bm x.size 0&&bm y.size 0
 | _,_=>false
def sI:List AV→List AV→Bool
 | [],[]=>true
 | a::as,b::bs=>cY a b&&sI as bs
 | _,_=>false
end
mutual
theorem DW:∀ (a b:AV),cY a b=true→a=b
 | .ptr i o,b,h=>by
  cases b<;>simp only[cY,da] at h
  simp only[ap] at h
  rw[aw h.1,aw h.2]
 | .sl i o,b,h=>by
  cases b<;>simp only[cY,da] at h
  simp only[ap] at h
  rw[aw h.1,aw h.2]
 | .agg a,b,h=>by
  cases b<;>simp only[cY,da] at h
  rw[zm _ _ h]
 | .ah,b,h=>by
  cases b<;>simp only[cY,da] at h
  rfl
 | .mp i,b,h=>by
  cases b<;>simp only[cY,da] at h
  rw[aw h]
 | .lit x,b,h=>by
  cases b with
  | lit y=>
   cases x with
   | int k i=>
    cases y<;>simp only[cY,da,ap,decide_eq_true_eq] at h
    rw[DZ h.1,h.2]
   | tuple x=>
    cases y<;>simp only[cY,da,ap] at h
    rename_i y
    have h1:=aw h.1
    have h2:=aw h.2
    have e1:x = #[]:=by simpa using h1
    have e2:y = #[]:=by simpa using h2
    rw[e1,e2]
   | _=>simp[cY] at h
  | _=>cases x<;>simp[cY] at h
 | .fn f a b,y,h=>by cases y<;>simp[cY] at h
 | .FI e x o,y,h=>by cases y<;>simp[cY] at h
 | .CY i g k o,y,h=>by cases y<;>simp[cY] at h
 | .cont e xs,y,h=>by cases y<;>simp[cY] at h
 | .Ks i xs,y,h=>by cases y<;>simp[cY] at h
 | .uo l,y,h=>by cases y<;>simp[cY] at h
 | .sub i g a b,y,h=>by cases y<;>simp[cY] at h
 | .Rb i n,y,h=>by cases y<;>simp[cY] at h
 | .iK i,y,h=>by cases y<;>simp[cY] at h
 | .AJ t v,y,h=>by cases y<;>simp[cY] at h
 | .fE v,y,h=>by cases y<;>simp[cY] at h
 | .CS,y,h=>by cases y<;>simp[cY] at h
theorem zm:∀ (as bs:List AV),sI as bs=true→as=bs
 | [],[],_=>rfl
 | [],_::_,h=>by simp[sI] at h
 | _::_,[],h=>by simp[sI] at h
 | a::as,b::bs,h=>by
  simp only[sI,ap] at h
  rw[DW a b h.1,zm as bs h.2]
end
def ki:Op→Bool
 | .load _ _=>true
 | .move _=>true
 | .assign _=>true
 | .nilCheck _=>true
 | .fieldAddr _ _ _=>true
 | .field _ _ _=>true
 | .extract _ _=>true
 | .indexAddr _ _ _=>true
 | .binOp _ _ _ _ _=>true
 | .unOp _ _ _=>true
 | .index _ _ _=>true
 | _=>false
def sJ (m:List Nat)(z i:Nat):Bool:=!(bm i z) && !(ba (m.getD z 0) i) && !(ba (m.getD i 0) z)
def CX (m:List Nat)(z i:Nat):Bool:=!(bm i z) && !(ba (m.getD i 0) z)
def FH (m:List Nat)(z i:Nat):Bool:=!(bm i z) && !(ba (m.getD z 0) i)
def eu (m:List Nat)(z n:Nat):List Nat:=(bj n).filter (CX m z)
def yy (m:List Nat)(z n:Nat):List Nat:=(bj n).filter (FH m z)
def blind (ops:Array Oper)(o u:Oper):Bool:=
 match u.dst with
 | some d=>!(xV (o.looksAt ops) d)
 | none=>true
def iQ (ops:Array Oper)(i u:Nat):Bool:=
 match ops[i]?,ops[u]? with
 | some o,some ou=>blind ops o ou
 | _,_=>true
def BZ (ops:Array Oper)(u:Nat):Bool:=
 match ops[u]? with
 | some o=>ki o.op
 | none=>true
def Kg (ops:Array Oper)(m:List Nat)(z:Nat):Bool:=
 (bj ops.size).all fun u=>!(sJ m z u)||(BZ ops u&&iQ ops z u&&(bj (u+1)).all fun i=>!(FH m z i)||iQ ops i u)
def qK (C:Cons):List Oper→Nat→Option Nat
 | [],_=>none
 | o::l,n=>match o.op with
  | .call c=>match c.callee with
   | .value (.func k)=>cond ((C.pg k).isNone&&(C.aP k).isNone) (some n) (qK C l (n+1))
   | _=>qK C l (n+1)
  | _=>qK C l (n+1)
def NQ (C:Cons)(ops:Array Oper)(m:List Nat):Option Nat:=
 match wL C ops m with
 | some _=>none
 | none=>match qK C ops.toList 0 with
  | some z=>cond (Kg ops m z) (some z) none
  | none=>none
def gf (ops:Array Oper)(i:Nat):Option Tmp:=
 match ops[i]? with
 | some o=>o.dst
 | none=>none
def uM (ops:Array Oper)(i:Nat)(σ σ':St):Bool:=
 match gf ops i with
 | some d=>cY (σ'.tmps d) (σ.tmps d)
 | none=>true
def sA (P:Program)(C:Cons)(ops:Array Oper)(m:List Nat)(W:List (Option Nat))(base z:Nat):List Nat→St→Option St
 | [],σ=>some σ
 | i::l,σ=>match xQ P C ops m W base i σ with
  | some σ'=>cond (sJ m z i) (cond (uM ops i σ σ') (sA P C ops m W base z l σ) none) (sA P C ops m W base z l σ')
  | none=>none
def jI (P:Program)(C:Cons)(ops:Array Oper)(m:List Nat)(W:List (Option Nat))(base z:Nat):List Nat→St→List Nat
 | [],_=>[]
 | i::l,σ=>match xQ P C ops m W base i σ with
  | some σ'=>cond (sJ m z i) (jI P C ops m W base z l σ) (eB P C ops (b6 base ops.size (m.getD i 0) (pS m W ops.size i) σ.heap) (base+i * 16) i σ++jI P C ops m W base z l σ')
  | none=>[]
def wB (ops:Array Oper)(m:List Nat)(z t:Nat):Bool:=(bj ops.size).any fun u=>sJ m z u&&(match gf ops u with
 | some d=>bm d t
 | none=>false)
def yK (ops:Array Oper)(m:List Nat)(z:Nat)(σ:St):Nat→AV:=fun t=>cond (wB ops m z t) .ah (σ.tmps t)
def wW (P:Program)(C:Cons)(F:jy)(ops:Array Oper)(m:List Nat)(W:List (Option Nat))(base z:Nat)(σ:St):Option (Ex×St):=
 match fC P C F ops (fun H=>H) (base+z * 16) z σ with
 | some (x,H',L')=>some (.fE x,⟨σ.nt,yK ops m z σ,H',L'⟩)
 | none=>match gq P C F ops (fun H=>H) (base+z * 16) z σ with
  | some σ'=>match sA P C ops m W base z (yy m z ops.size) (σ'.ay (eB P C ops σ.heap (base+z * 16) z σ)) with
   | some σ2=>some (.dS,σ2.ay (jI P C ops m W base z (yy m z ops.size) (σ'.ay (eB P C ops σ.heap (base+z * 16) z σ))))
   | none=>none
  | none=>none
def E7 (P:Program)(C:Cons)(F:jy)(ops:Array Oper)(base z:Nat)(σ:St):Option (Ex×St):=
 cond (bO P C ops (aB ops)) (match dM P C ops (aB ops) (pp P C ops (aB ops) base σ) base (eu (aB ops) z ops.size) σ with
  | some σ'=>wW P C F ops (aB ops) (pp P C ops (aB ops) base σ) base z (σ'.ay (fw P C ops (aB ops) (pp P C ops (aB ops) base σ) base (eu (aB ops) z ops.size) σ))
  | none=>none) none
def mc (m:List Nat)(z n z2:Nat):List Nat:=(bj n).filter fun i=>FH m z i && !(bm i z2)
def qm (P:Program)(C:Cons)(F:jy)(ops:Array Oper)(m:List Nat)(W:List (Option Nat))(base z z2:Nat)(σ:St):Option (Ex×St):=
 match fC P C F ops (fun H=>H) (base+z * 16) z σ with
 | some (x,H',L')=>some (.fE x,⟨σ.nt,yK ops m z σ,H',L'⟩)
 | none=>match gq P C F ops (fun H=>H) (base+z * 16) z σ with
  | some σ'=>match sA P C ops m W base z (mc m z ops.size z2) (σ'.ay (eB P C ops σ.heap (base+z * 16) z σ)) with
   | some σ2=>nc P C F ops base z2 (σ2.ay (jI P C ops m W base z (mc m z ops.size z2) (σ'.ay (eB P C ops σ.heap (base+z * 16) z σ))))
   | none=>none
  | none=>none
def wk (P:Program)(C:Cons)(F:jy)(ops:Array Oper)(base z z2:Nat)(σ:St):Option (Ex×St):=
 cond (bO P C ops (aB ops)) (match dM P C ops (aB ops) (pp P C ops (aB ops) base σ) base (eu (aB ops) z ops.size) σ with
  | some σ'=>qm P C F ops (aB ops) (pp P C ops (aB ops) base σ) base z z2 (σ'.ay (fw P C ops (aB ops) (pp P C ops (aB ops) base σ) base (eu (aB ops) z ops.size) σ))
  | none=>none) none
def QL (C:Cons)(ops:Array Oper)(m:List Nat):Option (Nat×Nat):=
 match wL C ops m with
 | some z2=>match qK C ops.toList 0 with
  | some z=>cond (ol z z2&&Kg ops m z) (some (z,z2)) none
  | none=>none
 | none=>none
def gF (P:Program)(C:Cons)(F:jy)(ops:Array Oper)(base:Nat)(σ:St):Option (Ex×St):=
 match QL C ops (aB ops) with
 | some (z,z2)=>wk P C F ops base z z2 σ
 | none=>match NQ C ops (aB ops) with
  | some z=>E7 P C F ops base z σ
  | none=>o9 P C F ops base σ
section
variable [aq]{F:jy}{P:Program}{C:Cons}{ops:Array Oper}{σ σ' σ1 σ2 τ:St}{m:List Nat}{W:List (Option Nat)}{base z:Nat}
omit [aq] in
theorem KI {H:Heap}{id:Nat}{o:Oper}{ρ:Operand→AV}{out:Out}(hs:ki o.op=true)(h:sem P H id o ρ=some out):∃ c v,out = .val c v:=by
 obtain⟨dst,op,ty,pos,af,gd⟩:=o
 unfold sem at h
 cases op<;>simp only[ki,da] at hs<;>simp only at h
 case move x=>cases h;exact⟨_,_,rfl⟩
 case assign x=>cases h;exact⟨_,_,rfl⟩
 case load t a=>
  unfold zj at h;(repeat' split at h)<;>first|(cases h;exact⟨_,_,rfl⟩)|(simp at h;done)|exact Gg h|skip
  all_goals (obtain⟨_,h⟩:=aA h;(repeat' split at h)<;>first|(cases h;exact⟨_,_,rfl⟩)|simp at h)
 case fieldAddr s x f=>
  unfold pJ at h
  split at h
  case h_2=>simp at h
  split at h
  case h_2=>simp at h
  split at h
  case h_2=>simp at h
  rename_i ti _
  cases h0:bm ti.size 0<;>rw[h0] at h<;>simp only[cond_true,cond_false,reduceCtorEq] at h
  (repeat' split at h)<;>first|(cases h;exact⟨_,_,rfl⟩)|(simp at h;done)|(have h:=(aA h).2;cases h;exact⟨_,_,rfl⟩)
 case field s x f=>unfold yu at h;(repeat' split at h)<;>first|(cases h;exact⟨_,_,rfl⟩)|simp at h
 case nilCheck x=>unfold K9 at h;(repeat' split at h)<;>first|(cases h;exact⟨_,_,rfl⟩)|(simp at h;done)|(have h:=(aA h).2;cases h;exact⟨_,_,rfl⟩)
 case binOp op t x y yt=>
  unfold KH at h;split at h
  ·split at h<;>first|(cases h;exact⟨_,_,rfl⟩)|simp at h
  ·have h:=(cu h).2
   (repeat' split at h)<;>first|(cases h;exact⟨_,_,rfl⟩)|simp at h
  ·(repeat' split at h)<;>first|(cases h;exact⟨_,_,rfl⟩)|simp at h
  ·simp at h
 case unOp op t x=>unfold ZE at h;(repeat' split at h)<;>first|(cases h;exact⟨_,_,rfl⟩)|simp at h
 case extract t i=>unfold Mf at h;(repeat' split at h)<;>first|(cases h;exact⟨_,_,rfl⟩)|simp at h
 case index t x i=>unfold rS at h;(repeat' split at h)<;>first|(cases h;exact⟨_,_,rfl⟩)|simp at h
 case indexAddr t x i=>unfold Eu ZB at h;(repeat' split at h)<;>first|(cases h;exact⟨_,_,rfl⟩)|(simp at h;done)|(have h:=(aA h).2;cases h;exact⟨_,_,rfl⟩)
omit [aq] in
theorem HM {Hh:Heap}{id:Nat}{o:Oper}{e:Ix}(hs:ki o.op=true)(h:gm P C ops Hh id o σ=some e):e.sets=[]:=by
 unfold gm at h
 cases hw:want ops σ o with
 | none=>rw[hw] at h;simp at h
 | some b=>
  rw[hw] at h
  cases b with
  | false=>simp only[al] at h;subst h;rfl
  | true=>
   simp only at h
   unfold bF at h
   cases hz:mO C id o with
   | true=>
    rw[hz] at h
    simp only[cond_true] at h
    split at h
    ·obtain⟨_,rfl⟩:=ai h;rfl
    ·simp at h
   | false=>
   rw[hz] at h
   simp only[cond_false] at h
   unfold bI at h
   cases hsm:sem P Hh id o σ.val with
   | none=>rw[hsm] at h;simp at h
   | some out=>
    obtain⟨c,v,rfl⟩:=KI hs hsm
    rw[hsm] at h
    simp only at h
    obtain⟨_,rfl⟩:=ai h
    rfl
structure xT (T:Nat→Prop)(σ σ':St):Prop where
 nt:σ'.nt=σ.nt
 heap:σ'.heap=σ.heap
 tmp:∀ t,¬ T t→σ'.tmps t=σ.tmps t
omit [aq] in
theorem xT.refl {T:Nat→Prop}{σ:St}:xT T σ σ:=⟨rfl,rfl,fun _ _=>rfl⟩
omit [aq] in
theorem xT.mono {T T':Nat→Prop}{σ σ':St}(h:xT T σ σ')(hT:∀ t,T t→T' t):xT T' σ σ':=⟨h.nt,h.heap,fun t ht=>h.tmp t fun k=>ht (hT t k)⟩
omit [aq] in
theorem JB {T:Nat→Prop}{id:Nat}{dst:Option Tmp}{e:Ix}(hO:xT T σ σ')(h:σ.ED id dst e=some τ):∃ τ',σ'.ED id dst e=some τ'∧xT (fun t=>T t∧dst≠some t) τ τ':=by
 obtain⟨h1,h2⟩:=nW h
 cases dst with
 | none=>
  simp only[St.put,St.with,al] at h2;subst h2
  refine⟨⟨σ'.nt,σ'.tmps,bc σ.heap e.sets,σ'.ids⟩,Ae (fun hn=>by rw[hO.heap];exact h1 hn) (by simp only[St.put,St.with,hO.heap]),⟨hO.nt,rfl,fun t ht=>hO.tmp t fun k=>ht ⟨k,by simp⟩⟩⟩
 | some d=>
  obtain⟨c,rfl⟩:=ai h2
  refine⟨⟨σ'.nt,aP σ'.tmps d e.v,bc σ.heap e.sets,σ'.ids⟩,Ae (fun hn=>by rw[hO.heap];exact h1 hn) ?_,⟨hO.nt,rfl,fun t ht=>?_⟩⟩
  ·simp only[St.put,St.with] at c ⊢
   rw[hO.nt,c,hO.heap];rfl
  ·simp only[St.with]
   by_cases e:t=d
   ·subst e;rw[au,au]
   ·rw[ax _ _ e,ax _ _ e]
    exact hO.tmp t fun k=>ht ⟨k,fun x=>e (by cases x;rfl)⟩
omit [aq] in
theorem JX {T:Nat→Prop}{i:Nat}{o:Oper}(ho:ops[i]? = some o)(hO:xT T σ σ')(hl:∀ t∈o.looksAt ops,¬ T t)(h:xQ P C ops m W base i σ=some τ) :
  ∃ τ',xQ P C ops m W base i σ'=some τ'∧xT (fun t=>T t∧o.dst≠some t) τ τ':=by
 unfold xQ at h ⊢
 obtain⟨h0,h⟩:=aA h
 have ht:∀ t,t∈o.looksAt ops→σ'.tmps t=σ.tmps t:=fun t k=>hO.tmp t (hl t k)
 rw[mQ ho hO.nt ht,h0]
 rw[fI ho] at h ⊢
 rw[hO.heap,nj (H:=b6 base ops.size (m.getD i 0) (pS m W ops.size i) σ.heap) hO.nt ht (fun _=>rfl)]
 cases he:gm P C ops (b6 base ops.size (m.getD i 0) (pS m W ops.size i) σ.heap) (base+i * 16) o σ with
 | none=>rw[he] at h;simp at h
 | some e=>
  rw[he] at h
  simp only[cond_true] at h ⊢
  exact JB hO h
omit [aq] in
theorem yX {i:Nat}{o:Oper}(ho:ops[i]? = some o)(hs:ki o.op=true)(h:xQ P C ops m W base i σ=some τ):τ.nt=σ.nt∧τ.heap=σ.heap∧τ.ids=σ.ids∧∀ t,o.dst≠some t→τ.tmps t=σ.tmps t:=by
 unfold xQ at h
 obtain⟨_,h⟩:=aA h
 rw[fI ho] at h
 cases he:gm P C ops (b6 base ops.size (m.getD i 0) (pS m W ops.size i) σ.heap) (base+i * 16) o σ with
 | none=>rw[he] at h;simp at h
 | some e=>
  rw[he] at h
  simp only at h
  obtain⟨h1,h2⟩:=nW h
  obtain⟨f1,f2,f3⟩:=rR h2
  refine⟨f1,by rw[f2,HM hs he];rfl,?_,f3⟩
  have:=(jH h2).2
  exact this
omit [aq] in
theorem oW:∀ (l:List Nat) (σ τ:St),(∀ i∈l,∃ o,ops[i]? = some o∧ki o.op=true)→dM P C ops m W base l σ=some τ →
  xT (fun t=>∃ i∈l,gf ops i=some t) τ σ∧τ.ids=σ.ids
 | [],σ,τ,_,h=>by
  simp only[dM,al] at h;subst h
  exact⟨xT.refl,rfl⟩
 | i::l,σ,τ,hs,h=>by
  simp only[dM] at h
  split at h
  case h_2=>simp at h
  rename_i σ1 h1
  obtain⟨o,ho,hst⟩:=hs i (by simp)
  obtain⟨f1,f2,f3,f4⟩:=yX ho hst h1
  obtain⟨g,g2⟩:=oW l σ1 τ (fun j hj=>hs j (by simp[hj])) h
  refine⟨⟨by rw[← f1,g.nt],by rw[← f2,g.heap],fun t ht=>?_⟩,by rw[g2,f3]⟩
  rw[← g.tmp t fun⟨j,hj,hd⟩=>ht ⟨j,by simp[hj],hd⟩]
  refine (f4 t fun hd=>ht ⟨i,by simp,?_⟩).symm
  unfold gf;rw[ho];exact hd
omit [aq] in
theorem oJ {i u t:Nat}{o:Oper}(ho:ops[i]? = some o)(hb:iQ ops i u=true)(hd:gf ops u=some t):t∉o.looksAt ops:=by
 unfold gf at hd
 split at hd
 case h_2=>simp at hd
 rename_i ou hu
 unfold iQ at hb
 rw[ho,hu] at hb
 simp only[blind,hd] at hb
 intro ht
 unfold xV at hb
 simp only[cd,List.any_eq_false] at hb
 exact hb t ht (Nat.beq_refl t)
structure yF (ops:Array Oper)(m:List Nat)(z:Nat):Prop where
 still:∀ u o,ops[u]? = some o→sJ m z u=true→ki o.op=true
 call:∀ u,u<ops.size→sJ m z u=true→iQ ops z u=true
 back:∀ u,u<ops.size→sJ m z u=true→∀ i,i≤u→FH m z i=true→iQ ops i u=true
omit [aq] in
theorem vZ (h:Kg ops m z=true):yF ops m z:=by
 unfold Kg at h
 simp only[dq,be,eh,cd,ap] at h
 have key:∀ u,u<ops.size→sJ m z u=true→(BZ ops u=true∧iQ ops z u=true)∧∀ i,i<u+1→FH m z i=false∨iQ ops i u=true:=by
  intro u hu hU
  rcases h u hu with h|h
  ·rw[hU] at h;simp at h
  ·exact h
 refine⟨fun u o ho hU=>?_,fun u hu hU=>(key u hu hU).1.2,fun u hu hU i hi hB=>?_⟩
 ·have:=(key u (cn.1 ho).1 hU).1.1
  unfold BZ at this
  rw[ho] at this
  exact this
 ·rcases (key u hu hU).2 i (by omega) with h|h
  ·rw[hB] at h;simp at h
  ·exact h
omit [aq] in
theorem wq (hM:yF ops m z)(und:Nat→Bool):∀ (l:List Nat) (σ σ' τ:St),l.Pairwise (· < ·)→(∀ i∈l,i<ops.size∧FH m z i=true)→(∀ i∈l,sJ m z i=false→und i=true) →
  xT (fun t=>∃ u∈l,sJ m z u=true∧und u=true∧gf ops u=some t) σ σ'→sA P C ops m W base z l σ=some τ →
  ∃ τ',dM P C ops m W base (l.filter und) σ'=some τ'∧xT (fun _=>False) τ τ'
 | [],σ,σ',τ,_,_,_,hO,h=>by
  simp only[sA,al] at h;subst h
  exact⟨σ',rfl,hO.mono fun t ⟨u,hu,_⟩=>by simp at hu⟩
 | i::l,σ,σ',τ,hp,hl,hd,hO,h=>by
  simp only[sA] at h
  split at h
  case h_2=>simp at h
  rename_i σ1 h1
  have hp2:=List.pairwise_cons.1 hp
  have hin:=(hl i (by simp)).1
  have ho:ops[i]? = some ops[i]:=by simp[hin]
  have hlook:∀ t∈ops[i].looksAt ops,¬ ∃ u∈i::l,sJ m z u=true∧und u=true∧gf ops u=some t:=by
   rintro t ht ⟨u,hu,hU,_,hdu⟩
   have hle:i≤u:=by
    rcases dp.1 hu with rfl|hu
    ·exact eJ _
    ·exact Nat.le_of_lt (hp2.1 u hu)
   exact oJ ho (hM.back u (hl u hu).1 hU i hle (hl i (by simp)).2) hdu ht
  have hdst:gf ops i=ops[i].dst:=by unfold gf;rw[ho]
  have rest:=fun σ σ' hO h=>wq hM und l σ σ' τ hp2.2 (fun j hj=>hl j (by simp[hj])) (fun j hj=>hd j (by simp[hj])) hO h
  cases hU:sJ m z i with
  | true=>
   rw[hU] at h
   obtain⟨hsame,h⟩:=aA h
   cases hu:und i with
   | false=>
    rw[gl (by rw[hu];simp)]
    refine rest σ σ' (hO.mono ?_) h
    rintro t ⟨u,hm,q1,q2,q3⟩
    rcases dp.1 hm with rfl|hm
    ·rw[hu] at q2;simp at q2
    ·exact⟨u,hm,q1,q2,q3⟩
   | true=>
    rw[dk (by exact hu)]
    obtain⟨σ1',k1,k2⟩:=JX ho hO hlook h1
    obtain⟨f1,f2,f3,f4⟩:=yX ho (hM.still i _ ho hU) h1
    simp only[dM,k1]
    refine rest σ σ1' ⟨by rw[k2.nt,f1],by rw[k2.heap,f2],fun t ht=>?_⟩ h
    have hT:¬ ((∃ u∈i::l,sJ m z u=true∧und u=true∧gf ops u=some t)∧ops[i].dst≠some t):=by
     rintro ⟨⟨u,hm,q1,q2,q3⟩,q4⟩
     rcases dp.1 hm with rfl|hm
     ·exact q4 (by rw[← hdst];exact q3)
     ·exact ht ⟨u,hm,q1,q2,q3⟩
    rw[k2.tmp t hT]
    by_cases e:ops[i].dst=some t
    ·unfold uM at hsame
     rw[hdst,e] at hsame
     exact DW _ _ hsame
    ·exact f4 t e
  | false=>
   rw[hU] at h
   simp only[cond_false] at h
   rw[dk (by exact hd i (by simp) hU)]
   obtain⟨σ1',k1,k2⟩:=JX ho hO hlook h1
   simp only[dM,k1]
   refine rest σ1 σ1' (k2.mono ?_) h
   rintro t ⟨⟨u,hm,q1,q2,q3⟩,q4⟩
   rcases dp.1 hm with rfl|hm
   ·rw[hU] at q1;simp at q1
   ·exact⟨u,hm,q1,q2,q3⟩
section
variable {T:Nat→Prop}{i:Nat}{o:Oper}{hide:Heap→Heap}{id:Nat}
omit [aq] in
theorem zi (ho:ops[i]? = some o)(hO:xT T σ σ')(hl:∀ t∈o.looksAt ops,¬ T t)(Hh:Heap):bF P C Hh id o σ'.val=bF P C Hh id o σ.val∧(∀ H L,eM P C F Hh id o σ'.val H L=eM P C F Hh id o σ.val H L)∧(∀ x∈o.op.operands,σ'.val x=σ.val x):=by
 have hx:∀ x∈o.op.operands,σ'.val x=σ.val x:=fun x hx=>val_congr hO.nt fun t e=>by
  subst e
  refine hO.tmp t (hl t ?_)
  unfold gn
  exact dj.2 (.inl (eK.2 ⟨.tmp t,by simpa using hx,rfl⟩))
 refine⟨tN hx,fun H L=>?_,hx⟩
 unfold eM
 rw[sR hx]
omit [aq] in
theorem ES (ho:ops[i]? = some o)(hO:xT T σ σ')(hids:σ'.ids=σ.ids)(hl:∀ t∈o.looksAt ops,¬ T t)(h:gq P C F ops hide id i σ=some τ) :
  ∃ τ',gq P C F ops hide id i σ'=some τ'∧xT T τ τ':=by
 unfold gq at h ⊢
 rw[ho] at h ⊢
 simp only at h ⊢
 rw[oV hO.nt fun t k=>hO.tmp t (hl t k),hO.heap,hids]
 obtain⟨e1,e2,_⟩:=zi (P:=P) (C:=C) (F:=F) (id:=id) ho hO hl (hide σ.heap)
 have put:∀ {H:Heap} {L:List Nat} {v:AV},(⟨σ.nt,σ.tmps,H,L⟩:St).put o.dst v=some τ→∃ τ',(⟨σ'.nt,σ'.tmps,H,L⟩:St).put o.dst v=some τ'∧xT T τ τ':=by
  intro H L v h
  cases hd:o.dst with
  | none=>
   rw[hd] at h
   simp only[St.put,al] at h;subst h
   exact⟨_,rfl,hO.nt,rfl,hO.tmp⟩
  | some d=>
   rw[hd] at h
   obtain⟨c,rfl⟩:=ai h
   simp only at c
   refine⟨⟨σ'.nt,aP σ'.tmps d v,H,L⟩,by simp only[St.put];rw[hO.nt,c];rfl,hO.nt,rfl,fun t ht=>?_⟩
   by_cases e:t=d
   ·subst e;simp only[au]
   ·simp only[ax _ _ e];exact hO.tmp t ht
 cases hw:want ops σ o with
 | none=>rw[hw] at h;simp at h
 | some b=>
  rw[hw] at h
  cases b with
  | false=>obtain⟨nt',tm',hp',id'⟩:=σ';obtain⟨nt0,tm0,hp0,id0⟩:=σ;simp only at hids;have:=hO.heap;simp only at this;subst hids;subst this;exact put h
  | true=>
   simp only at h ⊢
   rw[e1,e2]
   cases he:bF P C (hide σ.heap) id o σ.val with
   | some e=>
    rw[he] at h
    simp only at h ⊢
    obtain⟨τ',k1,k2⟩:=JB hO h
    exact⟨τ',k1,k2.mono fun t h=>h.1⟩
   | none=>
    rw[he] at h
    simp only at h ⊢
    cases hi:eM P C F (hide σ.heap) id o σ.val σ.heap σ.ids with
    | none=>rw[hi] at h;simp at h
    | some p=>
     obtain⟨v,H',L'⟩:=p
     rw[hi] at h
     simp only at h ⊢
     cases hp:v.ep with
     | true=>rw[hp] at h;simp at h
     | false=>
      rw[hp] at h
      simp only[cond_false] at h ⊢
      exact put h
omit [aq] in
theorem yp (ho:ops[i]? = some o)(hO:xT T σ σ')(hids:σ'.ids=σ.ids)(hl:∀ t∈o.looksAt ops,¬ T t):fC P C F ops hide id i σ'=fC P C F ops hide id i σ:=by
 unfold fC
 rw[ho]
 simp only
 rw[oV hO.nt fun t k=>hO.tmp t (hl t k),hO.heap,hids]
 obtain⟨e1,e2,e3⟩:=zi (P:=P) (C:=C) (F:=F) (id:=id) ho hO hl (hide σ.heap)
 rw[e1,e2]
 cases hop:o.op with
 | panic x=>simp only;rw[e3 x (by rw[hop];simp[Op.operands])]
 | _=>rfl
end
def ju (m:List Nat)(n z:Nat)(L:Array Bool):List Nat:=(rem n L).filter (CX m z)
omit [aq] in
theorem yx {n:Nat}{f:Nat→Bool}:(List.filter f (bj n)).Pairwise (· < ·):=List.Pairwise.filter _ List.pairwise_lt_range
theorem QR (hC:bX P C)(hF:cV P F){r:Option Nat}{N:ar}{Dt:Bool×List Deferred}{B:Nat}{w0:World}{Q:Exit→Act→World→Prop}(hr:Dw P C ops m)(hM:yF ops m z)
  (hzn:z<ops.size) {σA:St} {L0:List Nat} {e:Ex} (hfin:wW P C F ops m W base z (σA.ay L0)=some (e,σ')) (hB:Bd (σA.ay L0)) :
  ∀ (fuel:Nat) (L:Array Bool) (σ:St) (a:Act) (w:World) (μ:Mu) (S:ar),L.size=ops.size→L.getD z true=false→(rem ops.size L).length≤fuel→pF m L →
   dM P C ops m W base (ju m ops.size z L) σ=some σA→AR N Dt μ S σ a→Rel μ S σ.heap B w0 w →
   (∀ a' w' μ' S' x,AR N Dt μ' S' σ' a'→Rel μ' S' σ'.heap B w0 w'→Carry B μ S σ.heap μ' S' σ'.heap→e.Is μ' S' σ'.heap x→Q x a' w') →
   wpAnyIn (WF r) 0 P .any ops Q fuel L a w:=by
 intro fuel
 induction fuel with
 | zero=>
  intro L σ a w μ S hs hz hf
  exfalso
  have hnil:rem ops.size L=[]:=dE (by omega)
  have:z∈rem ops.size L:=bi.2 ⟨be.2 hzn,by rw[hz];rfl⟩
  rw[hnil] at this;simp at this
 | succ fuel ih=>
  intro L σ a w μ S hs hz hf hcl h A R hK
  refine⟨fun hrd=>?_,fun i hi=>?_⟩
  ·
   exfalso
   have all:∀ i,i<ops.size→L.getD i true=true:=by
    intro i
    induction i using gg with
    | _ i ih2=>
     intro hi
     cases hd:L.getD i true with
     | true=>rfl
     | false=>
      have ho:ops[i]? = some ops[i]:=by simp[hi]
      have:=qX ho hd fun e he hb=>by
       have hlt:=hr.TQ i _ ho e he hb
       have:=ih2 e.on hlt (by omega)
       have hsz:e.on<L.size:=by omega
       simpa [ae,hsz] using this
      rw[hrd] at this;simp at this
   rw[all z hzn] at hz;simp at hz
  ·obtain⟨hin,hli,oi,hoi,hed⟩:=fP hi
   have hsz:i<L.size:=by omega
   have ahead:∀ x,ba (m.getD i 0) x=true→L.getD x false=true:=by
    intro x hb
    rw[hr.mask i oi hoi] at hb
    rcases cg m x _ _ hb with h0|⟨e,he,hbd,h0⟩
    ·simp at h0
    ·have hle:=hed e he hbd
     rcases h0 with rfl|h0
     ·exact hle
     ·exact hcl e.on hle x h0
   have hcl2:pF m (L.setIfInBounds i true):=by
    intro j hj x hx
    rw[bB false hsz] at hj ⊢
    by_cases e:x=i
    ·rw[if_pos e]
    ·rw[if_neg e]
     by_cases ej:j=i
     ·subst ej;exact ahead x hx
     ·rw[if_neg ej] at hj
      exact hcl j hj x hx
   obtain⟨p,s,e1,e2,hp⟩:=jF hs hin hli
   have hf2:(rem ops.size (L.setIfInBounds i true)).length≤fuel:=by
    rw[e1] at hf;rw[e2];simp at hf ⊢;omega
   by_cases hiz:i=z
   ·
    subst hiz
    have doneT:∀ x,x<ops.size→ba (m.getD i 0) x=true→L.getD x true=true:=by
     intro x hx hb
     have:=ahead x hb
     have hsz:x<L.size:=by omega
     simpa [ae,hsz] using this
    have hRU:∀ x∈ju m ops.size i L,x<ops.size∧sJ m i x=true:=by
     intro x hx
     obtain⟨h1,h2⟩:=bi.1 hx
     obtain⟨h3,h4⟩:=bi.1 h1
     have hxn:=be.1 h3
     refine⟨hxn,?_⟩
     unfold CX at h2
     unfold sJ
     simp only[ap,cd] at h2 h4 ⊢
     refine⟨⟨h2.1,?_⟩,h2.2⟩
     cases hb:ba (m.getD i 0) x with
     | false=>rfl
     | true=>rw[doneT x hxn hb] at h4;simp at h4
    obtain⟨hO0,hids⟩:=oW _ σ σA (fun x hx=>by
     have hx2:=hRU x hx
     exact⟨ops[x],by simp[hx2.1],hM.still x _ (by simp[hx2.1]) hx2.2⟩) h
    have hO:xT (fun t=>∃ u∈ju m ops.size i L,gf ops u=some t) (σA.ay L0) (σ.ay L0):=⟨hO0.nt,hO0.heap,hO0.tmp⟩
    have hids2:(σ.ay L0).ids=(σA.ay L0).ids:=by simp only[St.ay,hids]
    have hlook:∀ t∈oi.looksAt ops,¬ ∃ u∈ju m ops.size i L,gf ops u=some t:=by
     rintro t ht ⟨u,hu,hd⟩
     have hu2:=hRU u hu
     exact oJ hoi (hM.call u hu2.1 hu2.2) hd ht
    have hBσ:Bd (σ.ay L0):=by
     intro q hq
     rw[hids2]
     refine hB q ?_
     rw[← hO.heap];exact hq
    unfold wW at hfin
    split at hfin
    ·rename_i y H1 L1 hpan
     cases hfin
     rw[← yp hoi hO hids2 hlook] at hpan
     refine mF hF hpan hBσ A.ay R fun w2 μ2 S2 u A2 R2 C2 hv=>hK a w2 μ2 S2 _ ⟨A2.defers,?_,fun t ht=>?_⟩ R2 C2 ⟨u,rfl,hv⟩
     ·rw[A2.size];exact hO.nt
     ·have hnt:(σ.ay L0).nt=(σA.ay L0).nt:=hO.nt
      have:=A2.tmp t (by simp only at ht ⊢;rw[hnt];exact ht)
      simp only[yK]
      cases hu:wB ops m i t with
      | true=>simp only[cond_true,VR]
      | false=>
       simp only[cond_false]
       rw[← hO.tmp t ?_];exact this
       rintro ⟨u,hu',hd⟩
       have hu2:=hRU u hu'
       have:wB ops m i t=true:=by
        unfold wB
        rw[ft]
        exact⟨u,be.2 hu2.1,by rw[hu2.2,hd];simp⟩
       rw[hu] at this;simp at this
    ·split at hfin
     case h_2=>simp at hfin
     rename_i σ2 hop
     split at hfin
     case h_2=>simp at hfin
     rename_i σ3 hre
     cases hfin
     obtain⟨σ2',hop',hO2⟩:=ES hoi hO hids2 hlook hop
     refine gH hC hF (fun H i o h=>h) hop' (.inl hBσ) A.ay R fun a2 w2 μ2 S2 A2 R2 C2=>?_
     have hund:(yy m i ops.size).filter (fun x=>!(L.setIfInBounds i true).getD x true)=rem ops.size (L.setIfInBounds i true):=by
      unfold yy rem
      rw[eQ]
      refine fg fun x hx=>?_
      have hxn:=be.1 hx
      rw[bB true hsz]
      by_cases e:x=i
      ·rw[if_pos e];rfl
      ·rw[if_neg e]
       cases hd:L.getD x true with
       | true=>rfl
       | false=>
        simp only[Bool.not_false,Bool.true_and,FH,ap,cd]
        refine⟨?_,?_⟩
        ·cases hb:bm x i with
         | false=>rfl
         | true=>exact absurd (aw hb) e
        ·cases hb:ba (m.getD i 0) x with
         | false=>rfl
         | true=>rw[doneT x hxn hb] at hd;simp at hd
     obtain⟨σ3',k1,k2⟩:=wq (P:=P) (C:=C) (W:=W) (base:=base) hM (fun x=>!(L.setIfInBounds i true).getD x true) (yy m i ops.size) (σ2.ay (eB P C ops (σA.ay L0).heap (base+i * 16) i (σA.ay L0))) (σ2'.ay []) σ3 yx (fun x hx=>by
       obtain⟨h1,h2⟩:=bi.1 hx
       exact⟨be.1 h1,h2⟩) (fun x hx hU=>by
       obtain⟨h1,h2⟩:=bi.1 hx
       have hxn:=be.1 h1
       have hxi:x≠i:=by
        intro e;subst e
        unfold FH at h2
        simp at h2
       have hb:ba (m.getD x 0) i=true:=by
        unfold FH at h2
        unfold sJ at hU
        cases hb:ba (m.getD x 0) i with
        | true=>rfl
        | false=>rw[h2,hb] at hU;simp at hU
       rw[bB true hsz,if_neg hxi]
       cases hd:L.getD x true with
       | false=>rfl
       | true=>
        exfalso
        have hxs:x<L.size:=by omega
        have h3:=hcl x (by simpa [ae,hxs] using hd) i hb
        have h4:L.getD i true=true:=by simpa [ae,hsz] using h3
        rw[h4] at hz;simp at hz) (xT.mono (T:=fun t=>∃ u∈ju m ops.size i L,gf ops u=some t) ⟨hO2.nt,hO2.heap,hO2.tmp⟩ (by
       rintro t ⟨u,hu,hd⟩
       have hu2:=hRU u hu
       obtain⟨h1,_⟩:=bi.1 hu
       obtain⟨_,h4⟩:=bi.1 h1
       have hne:u≠i:=by
        intro e;subst e
        have:=hu2.2
        unfold sJ at this
        simp at this
       refine⟨u,bi.2 ⟨be.2 hu2.1,?_⟩,hu2.2,?_,hd⟩
       ·have:=hu2.2
        unfold sJ at this
        unfold FH
        simp only[ap] at this ⊢
        exact this.1
       ·rw[bB true hsz,if_neg hne];exact h4)) hre
     rw[hund] at k1
     refine D4 hC hr fuel _ (σ2'.ay []) a2 w2 μ2 S2 (by simp[hs]) hf2 hcl2 k1 A2.ay R2 fun a3 w3 μ3 S3 A3 R3 C3=>?_
     have hheap:σ3'.heap=σ3.heap:=k2.heap
     rw[hheap] at R3 C3
     refine hK a3 w3 μ3 S3 _ ⟨A3.defers,by rw[A3.size];exact k2.nt,fun t ht=>?_⟩ R3 (C2.trans C3) rfl
     have:=A3.tmp t (by rw[k2.nt];exact ht)
     rw[hheap,k2.tmp t (fun h=>h)] at this
     exact this
   ·
    have hAi:CX m z i=true:=by
     unfold CX
     simp only[ap,cd]
     refine⟨?_,?_⟩
     ·cases hb:bm i z with
      | true=>exact absurd (aw hb) hiz
      | false=>rfl
     ·cases hb:ba (m.getD i 0) z with
      | false=>rfl
      | true=>
       exfalso
       have h3:=ahead z hb
       have hzs:z<L.size:=by omega
       have h4:L.getD z true=true:=by simpa [ae,hzs] using h3
       rw[h4] at hz;simp at hz
    have f1:ju m ops.size z L=(p.filter (CX m z))++i::(s.filter (CX m z)):=by
     unfold ju
     rw[e1,db,dk (by exact hAi)]
    have f2:ju m ops.size z (L.setIfInBounds i true)=(p.filter (CX m z))++(s.filter (CX m z)):=by
     unfold ju
     rw[e2,db]
    rw[f1] at h
    have hind:∀ x∈(p.filter (CX m z)),x≠i∧∃ ox,ops[x]? = some ox∧indep P C ops m x i ox oi=true:=by
     intro x hx
     have hx:=(bi.1 hx).1
     obtain⟨hlt,hlx⟩:=hp x hx
     have hox:ops[x]? = some ops[x]:=by simp[show x<ops.size from by omega]
     refine⟨by omega,_,hox,?_⟩
     rcases hr.pair x i hlt _ _ hox hoi with hb|hb
     ·exfalso
      have hLx:=ahead x hb
      have hsz:x<L.size:=by omega
      simp[ae,hsz] at hLx hlx
      rw[hLx] at hlx;simp at hlx
     ·exact hb
    obtain⟨σ1,k1,k2⟩:=front hoi _ _ σ hind h
    unfold xQ at k1
    obtain⟨_,k1⟩:=aA k1
    refine gH hC (F:=eX) (fun _ _ _ _ _ _ _ _ h=>by simp[eX] at h) (fun H j o h=>(fM h).2.1) k1 (.inr rfl) A R fun a1 w1 μ1 S1 A1 R1 C1=>?_
    refine ih (L.setIfInBounds i true) σ1 a1 w1 μ1 S1 (by simp[hs]) ?_ hf2 hcl2 (by rw[f2];exact k2) A1 R1 (fun a' w' μ' S' x A' R' C' hx=>hK a' w' μ' S' x A' R' (C1.trans C') hx)
    rw[bB true hsz,if_neg (fun e=>hiz e.symm)];exact hz
omit [aq] in
theorem qd:∀ (l:List Nat) (σ σ':St) (L:List Nat),sA P C ops m W base z l σ=some σ'→Bd (σ.ay L)→Bd (σ'.ay (L++jI P C ops m W base z l σ))
 | [],σ,σ',L,h,hB=>by
  simp only[sA,al] at h;subst h
  intro q hq
  have:=hB q hq
  simpa [jI,St.ay] using this
 | i::l,σ,σ',L,h,hB=>by
  simp only[sA] at h
  split at h
  case h_2=>simp at h
  rename_i σ1 h1
  have one:=gL (P:=P) (C:=C) (ops:=ops) (m:=m) (W:=W) (base:=base) [i] σ σ1 L (by simp only[dM,h1]) hB
  cases hU:sJ m z i with
  | true=>
   rw[hU] at h
   obtain⟨_,h⟩:=aA h
   have:=qd l σ σ' L h hB
   simp only[jI,h1,hU,cond_true]
   exact this
  | false=>
   rw[hU] at h
   simp only[cond_false] at h
   have:=qd l σ1 σ' _ h one
   simp only[jI,h1,hU,cond_false]
   simp only[fw,h1,fx] at this
   rw[← gk];exact this
theorem KG (hC:bX P C)(hF:cV P F){r:Option Nat}{N:ar}{Dt:Bool×List Deferred}{B:Nat}{w0:World}{Q:Exit→Act→World→Prop}(hr:Dw P C ops m)(hM:yF ops m z)
  {z2:Nat} (hzn:z<z2) (xR:z2+1=ops.size) (hfull:∀ x,x<z2→ba (m.getD z2 0) x=true) {σA:St} {L0:List Nat} {e:Ex} (hfin:qm P C F ops m W base z z2 (σA.ay L0)=some (e,σ')) (hB:Bd (σA.ay L0)) :
  ∀ (fuel:Nat) (L:Array Bool) (σ:St) (a:Act) (w:World) (μ:Mu) (S:ar),L.size=ops.size→L.getD z true=false→(rem ops.size L).length≤fuel→pF m L →
   dM P C ops m W base (ju m ops.size z L) σ=some σA→AR N Dt μ S σ a→Rel μ S σ.heap B w0 w →
   (∀ a' w' μ' S' x,AR N Dt μ' S' σ' a'→Rel μ' S' σ'.heap B w0 w'→Carry B μ S σ.heap μ' S' σ'.heap→e.Is μ' S' σ'.heap x→Q x a' w') →
   wpAnyIn (WF r) 0 P .any ops Q fuel L a w:=by
 have hzn':z<ops.size:=by omega
 have hz2o:ops[z2]? = some ops[z2]:=by simp[show z2<ops.size by omega]
 intro fuel
 induction fuel with
 | zero=>
  intro L σ a w μ S hs hz hf
  exfalso
  have hnil:rem ops.size L=[]:=dE (by omega)
  have:z∈rem ops.size L:=bi.2 ⟨be.2 hzn',by rw[hz];rfl⟩
  rw[hnil] at this;simp at this
 | succ fuel ih=>
  intro L σ a w μ S hs hz hf hcl h A R hK
  refine⟨fun hrd=>?_,fun i hi=>?_⟩
  ·
   exfalso
   have all:∀ i,i<ops.size→L.getD i true=true:=by
    intro i
    induction i using gg with
    | _ i ih2=>
     intro hi
     cases hd:L.getD i true with
     | true=>rfl
     | false=>
      have ho:ops[i]? = some ops[i]:=by simp[hi]
      have:=qX ho hd fun e he hb=>by
       have hlt:=hr.TQ i _ ho e he hb
       have:=ih2 e.on hlt (by omega)
       have hsz:e.on<L.size:=by omega
       simpa [ae,hsz] using this
      rw[hrd] at this;simp at this
   rw[all z hzn'] at hz;simp at hz
  ·obtain⟨hin,hli,oi,hoi,hed⟩:=fP hi
   have hsz:i<L.size:=by omega
   have ahead:∀ x,ba (m.getD i 0) x=true→L.getD x false=true:=by
    intro x hb
    rw[hr.mask i oi hoi] at hb
    rcases cg m x _ _ hb with h0|⟨e,he,hbd,h0⟩
    ·simp at h0
    ·have hle:=hed e he hbd
     rcases h0 with rfl|h0
     ·exact hle
     ·exact hcl e.on hle x h0
   have hcl2:pF m (L.setIfInBounds i true):=by
    intro j hj x hx
    rw[bB false hsz] at hj ⊢
    by_cases e:x=i
    ·rw[if_pos e]
    ·rw[if_neg e]
     by_cases ej:j=i
     ·subst ej;exact ahead x hx
     ·rw[if_neg ej] at hj
      exact hcl j hj x hx
   obtain⟨p,s,e1,e2,hp⟩:=jF hs hin hli
   have hf2:(rem ops.size (L.setIfInBounds i true)).length≤fuel:=by
    rw[e1] at hf;rw[e2];simp at hf ⊢;omega
   by_cases hiz:i=z
   ·
    subst hiz
    have doneT:∀ x,x<ops.size→ba (m.getD i 0) x=true→L.getD x true=true:=by
     intro x hx hb
     have:=ahead x hb
     have hsz:x<L.size:=by omega
     simpa [ae,hsz] using this
    have hRU:∀ x∈ju m ops.size i L,x<ops.size∧sJ m i x=true:=by
     intro x hx
     obtain⟨h1,h2⟩:=bi.1 hx
     obtain⟨h3,h4⟩:=bi.1 h1
     have hxn:=be.1 h3
     refine⟨hxn,?_⟩
     unfold CX at h2
     unfold sJ
     simp only[ap,cd] at h2 h4 ⊢
     refine⟨⟨h2.1,?_⟩,h2.2⟩
     cases hb:ba (m.getD i 0) x with
     | false=>rfl
     | true=>rw[doneT x hxn hb] at h4;simp at h4
    obtain⟨hO0,hids⟩:=oW _ σ σA (fun x hx=>by
     have hx2:=hRU x hx
     exact⟨ops[x],by simp[hx2.1],hM.still x _ (by simp[hx2.1]) hx2.2⟩) h
    have hO:xT (fun t=>∃ u∈ju m ops.size i L,gf ops u=some t) (σA.ay L0) (σ.ay L0):=⟨hO0.nt,hO0.heap,hO0.tmp⟩
    have hids2:(σ.ay L0).ids=(σA.ay L0).ids:=by simp only[St.ay,hids]
    have hlook:∀ t∈oi.looksAt ops,¬ ∃ u∈ju m ops.size i L,gf ops u=some t:=by
     rintro t ht ⟨u,hu,hd⟩
     have hu2:=hRU u hu
     exact oJ hoi (hM.call u hu2.1 hu2.2) hd ht
    have hBσ:Bd (σ.ay L0):=by
     intro q hq
     rw[hids2]
     refine hB q ?_
     rw[← hO.heap];exact hq
    unfold qm at hfin
    split at hfin
    ·rename_i y H1 L1 hpan
     cases hfin
     rw[← yp hoi hO hids2 hlook] at hpan
     refine mF hF hpan hBσ A.ay R fun w2 μ2 S2 u A2 R2 C2 hv=>hK a w2 μ2 S2 _ ⟨A2.defers,?_,fun t ht=>?_⟩ R2 C2 ⟨u,rfl,hv⟩
     ·rw[A2.size];exact hO.nt
     ·have hnt:(σ.ay L0).nt=(σA.ay L0).nt:=hO.nt
      have:=A2.tmp t (by simp only at ht ⊢;rw[hnt];exact ht)
      simp only[yK]
      cases hu:wB ops m i t with
      | true=>simp only[cond_true,VR]
      | false=>
       simp only[cond_false]
       rw[← hO.tmp t ?_];exact this
       rintro ⟨u,hu',hd⟩
       have hu2:=hRU u hu'
       have:wB ops m i t=true:=by
        unfold wB
        rw[ft]
        exact⟨u,be.2 hu2.1,by rw[hu2.2,hd];simp⟩
       rw[hu] at this;simp at this
    ·split at hfin
     case h_2=>simp at hfin
     rename_i σ2 hop
     split at hfin
     case h_2=>simp at hfin
     rename_i σ3 hre
     obtain⟨σ2',hop',hO2⟩:=ES hoi hO hids2 hlook hop
     refine gH hC hF (fun H i o h=>h) hop' (.inl hBσ) A.ay R fun a2 w2 μ2 S2 A2 R2 C2=>?_
     have hund:(mc m i ops.size z2).filter (fun x=>!(L.setIfInBounds i true).getD x true)=pn ops.size z2 (L.setIfInBounds i true):=by
      unfold mc pn rem
      rw[eQ,eQ]
      refine fg fun x hx=>?_
      have hxn:=be.1 hx
      rw[bB true hsz]
      by_cases e:x=i
      ·rw[if_pos e];simp
      ·rw[if_neg e]
       cases hd:L.getD x true with
       | true=>simp
       | false=>
        have hBx:FH m i x=true:=by
         simp only[FH,ap,cd]
         refine⟨?_,?_⟩
         ·cases hb:bm x i with
          | false=>rfl
          | true=>exact absurd (aw hb) e
         ·cases hb:ba (m.getD i 0) x with
          | false=>rfl
          | true=>rw[doneT x hxn hb] at hd;simp at hd
        rw[hBx];simp
     obtain⟨σ3',k1,k2⟩:=wq (P:=P) (C:=C) (W:=W) (base:=base) hM (fun x=>!(L.setIfInBounds i true).getD x true) (mc m i ops.size z2) (σ2.ay (eB P C ops (σA.ay L0).heap (base+i * 16) i (σA.ay L0))) (σ2'.ay []) σ3 yx (fun x hx=>by
       obtain⟨h1,h2⟩:=bi.1 hx
       exact⟨be.1 h1,(ap _ _ ▸ h2).1⟩) (fun x hx hU=>by
       obtain⟨h1,h2⟩:=bi.1 hx
       have h2:FH m i x=true:=(ap _ _ ▸ h2).1
       have hxn:=be.1 h1
       have hxi:x≠i:=by
        intro e;subst e
        unfold FH at h2
        simp at h2
       have hb:ba (m.getD x 0) i=true:=by
        unfold FH at h2
        unfold sJ at hU
        cases hb:ba (m.getD x 0) i with
        | true=>rfl
        | false=>rw[h2,hb] at hU;simp at hU
       rw[bB true hsz,if_neg hxi]
       cases hd:L.getD x true with
       | false=>rfl
       | true=>
        exfalso
        have hxs:x<L.size:=by omega
        have h3:=hcl x (by simpa [ae,hxs] using hd) i hb
        have h4:L.getD i true=true:=by simpa [ae,hsz] using h3
        rw[h4] at hz;simp at hz) (xT.mono (T:=fun t=>∃ u∈ju m ops.size i L,gf ops u=some t) ⟨hO2.nt,hO2.heap,hO2.tmp⟩ (by
       rintro t ⟨u,hu,hd⟩
       have hu2:=hRU u hu
       obtain⟨h1,_⟩:=bi.1 hu
       obtain⟨_,h4⟩:=bi.1 h1
       have hne:u≠i:=by
        intro e;subst e
        have:=hu2.2
        unfold sJ at this
        simp at this
       refine⟨u,bi.2 ⟨be.2 hu2.1,?_⟩,hu2.2,?_,hd⟩
       ·have:=hu2.2
        have hu3:u≠z2:=by
         intro e;subst e
         unfold sJ at this
         rw[hfull i hzn] at this
         simp at this
        unfold sJ at this
        unfold FH
        simp only[ap] at this ⊢
        refine⟨this.1,?_⟩
        cases hb:bm u z2 with
        | false=>rfl
        | true=>exact absurd (aw hb) hu3
       ·rw[bB true hsz,if_neg hne];exact h4)) hre
     rw[hund] at k1
     have hlz:(L.setIfInBounds i true).getD z2 true=false:=by
      rw[bB true hsz,if_neg (by omega)]
      cases hd:L.getD z2 true with
      | false=>rfl
      | true=>
       exfalso
       have hxs:z2<L.size:=by omega
       have h3:=hcl z2 (by simpa [ae,hxs] using hd) i (hfull i hzn)
       have h4:L.getD i true=true:=by simpa [ae,hsz] using h3
       rw[h4] at hz;simp at hz
     have hfz:(pn ops.size z2 (L.setIfInBounds i true)).length+1≤fuel:=by
      have hm:z2∈rem ops.size (L.setIfInBounds i true):=bi.2 ⟨be.2 (by omega),by rw[hlz];rfl⟩
      have:(pn ops.size z2 (L.setIfInBounds i true)).length<(rem ops.size (L.setIfInBounds i true)).length:=by
       unfold pn
       exact List.length_filter_lt_length_iff_exists.2 ⟨z2,hm,by simp⟩
      omega
     have hB2:Bd ((σ3.ay (jI P C ops m W base i (mc m i ops.size z2) (σ2.ay (eB P C ops (σA.ay L0).heap (base+i * 16) i (σA.ay L0)))))):=by
      have b2:=nK hF (fun H i o h=>h) hop hB
      have:=qd _ _ σ3 [] hre (by intro q hq;have:=b2 q hq;simpa [St.ay] using this)
      simpa using this
     refine zG hC hr hz2o xR hfull fuel _ (σ2'.ay []) a2 w2 μ2 S2 (by simp[hs]) hlz hfz hcl2 k1 A2.ay R2 fun a3 w3 μ3 S3 A3 R3 C3=>?_
     have hheap:σ3'.heap=σ3.heap:=k2.heap
     rw[hheap] at R3 C3
     have A3':AR N Dt μ3 S3 (σ3.ay (jI P C ops m W base i (mc m i ops.size z2) (σ2.ay (eB P C ops (σA.ay L0).heap (base+i * 16) i (σA.ay L0))))) a3:=⟨A3.defers,by rw[A3.size];exact k2.nt,fun t ht=>by
      have:=A3.tmp t (by rw[k2.nt];exact ht)
      rw[hheap,k2.tmp t (fun h=>h)] at this
      exact this⟩
     unfold nc at hfin
     split at hfin
     ·rename_i y H1 L1 hp
      cases hfin
      exact mF hF hp hB2 A3' R3 fun w4 μ4 S4 u A4 R4 C4 hv=>hK a3 w4 μ4 S4 _ A4 R4 (C2.trans (C3.trans C4)) ⟨u,rfl,hv⟩
     ·split at hfin
      ·rename_i σ4 hop4
       cases hfin
       exact gH hC hF (fun H i o h=>h) hop4 (.inl hB2) A3' R3 fun a4 w4 μ4 S4 A4 R4 C4=>hK a4 w4 μ4 S4 _ A4.ay R4 (C2.trans (C3.trans C4)) rfl
      ·simp at hfin
   ·
    have hAi:CX m z i=true:=by
     unfold CX
     simp only[ap,cd]
     refine⟨?_,?_⟩
     ·cases hb:bm i z with
      | true=>exact absurd (aw hb) hiz
      | false=>rfl
     ·cases hb:ba (m.getD i 0) z with
      | false=>rfl
      | true=>
       exfalso
       have h3:=ahead z hb
       have hzs:z<L.size:=by omega
       have h4:L.getD z true=true:=by simpa [ae,hzs] using h3
       rw[h4] at hz;simp at hz
    have f1:ju m ops.size z L=(p.filter (CX m z))++i::(s.filter (CX m z)):=by
     unfold ju
     rw[e1,db,dk (by exact hAi)]
    have f2:ju m ops.size z (L.setIfInBounds i true)=(p.filter (CX m z))++(s.filter (CX m z)):=by
     unfold ju
     rw[e2,db]
    rw[f1] at h
    have hind:∀ x∈(p.filter (CX m z)),x≠i∧∃ ox,ops[x]? = some ox∧indep P C ops m x i ox oi=true:=by
     intro x hx
     have hx:=(bi.1 hx).1
     obtain⟨hlt,hlx⟩:=hp x hx
     have hox:ops[x]? = some ops[x]:=by simp[show x<ops.size from by omega]
     refine⟨by omega,_,hox,?_⟩
     rcases hr.pair x i hlt _ _ hox hoi with hb|hb
     ·exfalso
      have hLx:=ahead x hb
      have hsz:x<L.size:=by omega
      simp[ae,hsz] at hLx hlx
      rw[hLx] at hlx;simp at hlx
     ·exact hb
    obtain⟨σ1,k1,k2⟩:=front hoi _ _ σ hind h
    unfold xQ at k1
    obtain⟨_,k1⟩:=aA k1
    refine gH hC (F:=eX) (fun _ _ _ _ _ _ _ _ h=>by simp[eX] at h) (fun H j o h=>(fM h).2.1) k1 (.inr rfl) A R fun a1 w1 μ1 S1 A1 R1 C1=>?_
    refine ih (L.setIfInBounds i true) σ1 a1 w1 μ1 S1 (by simp[hs]) ?_ hf2 hcl2 (by rw[f2];exact k2) A1 R1 (fun a' w' μ' S' x A' R' C' hx=>hK a' w' μ' S' x A' R' (C1.trans C') hx)
    rw[bB true hsz,if_neg (fun e=>hiz e.symm)];exact hz
omit [aq] in
theorem Dc:∀ (l:List Oper) (n z:Nat),qK C l n=some z→z<n+l.length
 | [],n,z,h=>by simp[qK] at h
 | o::l,n,z,h=>by
  unfold qK at h
  have rest:qK C l (n+1)=some z→z<n+(o::l).length:=fun h=>by
   have:=Dc l (n+1) z h
   simp;omega
  split at h
  ·split at h
   ·rename_i k hk
    cases hb:(Option.isNone (C.pg _)&&Option.isNone (C.aP _)) with
    | true=>rw[hb] at h;simp only[cond_true,al] at h;simp;omega
    | false=>rw[hb] at h;exact rest h
   ·exact rest h
  ·exact rest h
omit [aq] in
theorem L8 (h:NQ C ops m=some z):z<ops.size∧yF ops m z:=by
 unfold NQ at h
 split at h
 ·simp at h
 ·split at h
  ·rename_i z' hz
   obtain⟨hc,rfl⟩:=ai h
   exact⟨by have:=Dc _ _ _ hz;simpa using this,vZ hc⟩
  ·simp at h
omit [aq] in
theorem LW {z2:Nat}(h:QL C ops m=some (z,z2)):z<z2∧yF ops m z∧z2+1=ops.size∧∀ x,x<z2→ba (m.getD z2 0) x=true:=by
 unfold QL at h
 split at h
 case h_2=>simp at h
 rename_i z2' hz
 split at h
 case h_2=>simp at h
 obtain⟨hc,he⟩:=ai h
 cases he
 simp only[ap] at hc
 have hzf:z2=ops.size-1∧0<ops.size∧∀ x,x<z2→ba (m.getD z2 0) x=true:=by
  unfold wL at hz
  split at hz
  case h_2=>simp at hz
  rename_i o ho
  split at hz
  case h_2=>simp at hz
  split at hz
  case h_2=>simp at hz
  obtain⟨hcc,he⟩:=ai hz
  subst he
  simp only[ap,dq,be] at hcc
  refine⟨rfl,?_,fun x hx=>hcc.2 x hx⟩
  have:=(cn.1 ho).1
  omega
 exact⟨cP hc.1,vZ hc.2,by omega,hzf.2.2⟩
theorem vt (hC:bX P C)(hF:cV P F){r:Option Nat}{N:ar}{Dt:Bool×List Deferred}{B:Nat}{w w0:World}{a:Act}{μ:Mu}{S:ar}{Q:Exit→Act→World→Prop}{id:Nat}{e:Ex}(h:gF P C F ops base σ=some (e,σ'))(hB:Bd σ)(A:AR N Dt μ S σ a)(R:Rel μ S σ.heap B w0 w)
  (hK:∀ a' w' μ' S' x,AR N Dt μ' S' σ' a'→Rel μ' S' σ'.heap B w0 w'→Carry B μ S σ.heap μ' S' σ'.heap→e.Is μ' S' σ'.heap x→Q x a' w'):(ib id ops true).wpIn (WF r) 0 P Q a w:=by
 unfold gF at h
 have R':Rel μ S σ.heap B w0 w.drew:=R.Jp
 have hrem:rem ops.size (eI ops.size false)=bj ops.size:=by
  unfold rem
  rw[dC]
  intro i hi
  have:=be.1 hi
  simp[ae,this]
 have hcl:pF (aB ops) (eI ops.size false):=by
  intro i hi x hx
  by_cases hlt:i<ops.size
  ·simp[ae,hlt] at hi
  ·simp[ae,hlt] at hi
 split at h
 ·rename_i z z2 hz
  obtain⟨hzn,hM,xR,hfull⟩:=LW hz
  unfold wk at h
  obtain⟨hr,h⟩:=aA h
  have hr:=fW hr
  split at h
  case h_2=>simp at h
  rename_i σ1 h1
  have hBz:Bd (σ1.ay (fw P C ops (aB ops) (pp P C ops (aB ops) base σ) base (eu (aB ops) z ops.size) σ)):=by
   have:=gL (eu (aB ops) z ops.size) σ σ1 [] h1 (by intro q hq;have:=hB q hq;simpa [St.ay] using this)
   simpa using this
  refine wpIn_region_any hr.mixed ?_
  refine KG hC hF hr hM hzn xR hfull h hBz ops.size _ σ a w.drew μ S (by simp) ?_ (by rw[hrem];simp) hcl (by unfold ju;rw[hrem];exact h1) A R' hK
  simp[ae,show z<ops.size by omega]
 split at h
 case h_2=>exact LY hC hF h hB A R hK
 rename_i z hz
 obtain⟨hzn,hM⟩:=L8 hz
 unfold E7 at h
 obtain⟨hr,h⟩:=aA h
 have hr:=fW hr
 split at h
 case h_2=>simp at h
 rename_i σ1 h1
 have hBz:Bd (σ1.ay (fw P C ops (aB ops) (pp P C ops (aB ops) base σ) base (eu (aB ops) z ops.size) σ)):=by
  have:=gL (eu (aB ops) z ops.size) σ σ1 [] h1 (by intro q hq;have:=hB q hq;simpa [St.ay] using this)
  simpa using this
 refine wpIn_region_any hr.mixed ?_
 have hrem:rem ops.size (eI ops.size false)=bj ops.size:=by
  unfold rem
  rw[dC]
  intro i hi
  have:=be.1 hi
  simp[ae,this]
 have R':Rel μ S σ.heap B w0 w.drew:=R.Jp
 refine QR hC hF hr hM hzn h hBz ops.size _ σ a w.drew μ S (by simp) ?_ (by rw[hrem];simp) ?_ (by unfold ju;rw[hrem];exact h1) A R' hK
 ·simp[ae,hzn]
 ·intro i hi x hx
  by_cases hlt:i<ops.size
  ·simp[ae,hlt] at hi
  ·simp[ae,hlt] at hi
theorem xN (hF:cV P F){e:Ex}(h:gF P C F ops base σ=some (e,σ'))(hB:Bd σ):Bd σ':=by
 unfold gF at h
 split at h
 ·rename_i z z2 hz
  unfold wk at h
  obtain⟨_,h⟩:=aA h
  split at h
  case h_2=>simp at h
  rename_i σ1 h1
  have hBz:Bd (σ1.ay (fw P C ops (aB ops) (pp P C ops (aB ops) base σ) base (eu (aB ops) z ops.size) σ)):=by
   have:=gL (eu (aB ops) z ops.size) σ σ1 [] h1 (by intro q hq;have:=hB q hq;simpa [St.ay] using this)
   simpa using this
  unfold qm at h
  split at h
  ·rename_i hp;cases h
   exact qU hF hp hBz
  ·split at h
   case h_2=>simp at h
   rename_i σ2 hop
   split at h
   case h_2=>simp at h
   rename_i σ3 hre
   have b2:=nK hF (fun H i o h=>h) hop hBz
   have:=qd _ _ σ3 [] hre (by intro q hq;have:=b2 q hq;simpa [St.ay] using this)
   exact zE hF h (by simpa using this)
 split at h
 case h_2=>exact Lj hF h hB
 rename_i z hz
 unfold E7 at h
 obtain⟨_,h⟩:=aA h
 split at h
 case h_2=>simp at h
 rename_i σ1 h1
 have hBz:Bd (σ1.ay (fw P C ops (aB ops) (pp P C ops (aB ops) base σ) base (eu (aB ops) z ops.size) σ)):=by
  have:=gL (eu (aB ops) z ops.size) σ σ1 [] h1 (by intro q hq;have:=hB q hq;simpa [St.ay] using this)
  simpa using this
 unfold wW at h
 split at h
 ·rename_i hp;cases h
  exact qU hF hp hBz
 ·split at h
  case h_2=>simp at h
  rename_i σ2 hop
  split at h
  case h_2=>simp at h
  rename_i σ3 hre
  cases h
  have b2:=nK hF (fun H i o h=>h) hop hBz
  have:=qd _ _ σ3 [] hre (by intro q hq;have:=b2 q hq;simpa [St.ay] using this)
  simpa using this
end
def bump (H0:Heap)(j off:Nat)(H:Heap):Heap:=
 match H j with
 | some (.box t cs)=>match cs[off]? with
  | some (.sl i g)=>match H0 i,H i with
   | some (.row _ _ g0 _),some (.row te e g1 xs)=>cond (bm g g1&&bm g0 g1) (aP (aP H i (some (.row te e (g1+1) xs))) j (some (.box t (cs.set off (.sl i (g1+1)))))) H
   | _,_=>H
  | _=>H
 | _=>H
def zB (H0:Heap)(j:Nat):List Nat→Heap→Heap
 | [],H=>H
 | off::l,H=>zB H0 j l (bump H0 j off H)
def OA:Option aS→Nat
 | some (.box _ cs)=>cs.length
 | _=>0
def St.align (σ:St)(j:Nat)(σ':St):St:=⟨σ'.nt,σ'.tmps,zB σ.heap j (bj (OA (σ.heap j))) σ'.heap,σ'.ids⟩
def Jr (P:Program)(ops:Array Oper)(σ:St):List Oper→Nat→Option Nat
 | [],_=>none
 | o::l,b=>match (match o.op with
  | .indexAddr t x (.tmp _)=>match P.underlying t with
   | some (.array _ _)=>match Ak P ops σ 9 b x with
    | .ptr j _=>some j
    | _=>none
   | _=>none
  | _=>none) with
  | some r=>some r
  | none=>Jr P ops σ l (b+1)
def iN (P:Program)(C:Cons)(F:jy)(ops:Array Oper)(base:Nat)(σ:St):Option (Ex×St):=
 match Jr P ops σ ops.toList 0 with
 | some j=>match gF P C F ops base σ with
  | some (e,σ')=>some (e,σ.align j σ')
  | none=>none
 | none=>gF P C F ops base σ
section
variable [aq]{F:jy}{P:Program}{C:Cons}{ops:Array Oper}{σ σ':St}{base:Nat}{μ:Mu}{S:ar}{H H0:Heap}{B:Nat}{w0 w:World}
structure Told (μ:Mu)(S:ar)(H H':Heap):Prop where
 ext:Ext μ S H μ S H'
 dom:∀ i,(H' i).isSome=(H i).isSome
 rel:∀ B w0 w,Rel μ S H B w0 w→Rel μ S H' B w0 w
omit [aq] in
theorem Ext.abQ:Ext μ S H μ S H:=Ext.refl
omit [aq] in
theorem DF {as:List AV}{vs:List Value}(h:aH μ S H as vs):∀ {off:Nat} {x:AV},(∀ v,vs[off]? = some v→VR μ S H x v)→aH μ S H (as.set off x) vs:=by
 induction as generalizing vs with
 | nil=>intro off x _;simpa using h
 | cons a as ih=>
  intro off x hx
  simp only[aH] at h
  obtain⟨v,r,rfl,h1,h2⟩:=h
  cases off with
  | zero=>simp only[List.set_cons_zero,aH];exact⟨v,r,rfl,hx v (by simp),h2⟩
  | succ n=>simp only[List.set_cons_succ,aH];exact⟨v,r,rfl,h1,ih h2 fun v hv=>hx v (by simpa using hv)⟩
omit [aq] in
theorem BD {as:List AV}{vs:List Value}(h:aH μ S H as vs):∀ {off:Nat} {a:AV} {v:Value},as[off]? = some a→vs[off]? = some v→VR μ S H a v:=by
 induction as generalizing vs with
 | nil=>intro off a v h1;simp at h1
 | cons b as ih=>
  intro off a v h1 h2
  simp only[aH] at h
  obtain⟨u,r,rfl,k1,k2⟩:=h
  cases off with
  | zero=>simp only[List.getElem?_cons_zero,al] at h1 h2;subst h1;subst h2;exact k1
  | succ n=>exact ih k2 (by simpa using h1) (by simpa using h2)
theorem yQ (j off:Nat):Told μ S H (bump H0 j off H):=by
 have same:Told μ S H H:=⟨Ext.abQ,fun _=>rfl,fun _ _ _ h=>h⟩
 unfold bump
 split
 case h_2=>exact same
 rename_i t cs hj
 split
 case h_2=>exact same
 rename_i i g hc
 split
 case h_2=>exact same
 rename_i te0 e0 g0 xs0 te e g1 xs h0 hi
 cases hb:(bm g g1&&bm g0 g1) with
 | false=>exact same
 | true=>
 simp only[cond_true]
 simp only[ap] at hb
 have hg:g=g1:=aw hb.1
 subst hg
 have hij:i≠j:=by intro e;subst e;rw[hj] at hi;simp at hi
 have ext:Ext μ S H μ S (aP (aP H i (some (.row te e (g+1) xs))) j (some (.box t (cs.set off (.sl i (g+1)))))):=by
  refine⟨fun _ _ h=>.inl h,fun _ _ h=>h,fun k t' e' g' ys _ hk=>?_,fun k t' ti' q' ys st _ hk=>?_⟩
  ·by_cases ek:k=j
   ·subst ek;rw[au] at hk;simp at hk
   ·rw[ax _ _ ek] at hk
    by_cases ei:k=i
    ·subst ei;rw[au] at hk
     injection hk with hk
     injection hk with a1 a2 a3 a4
     subst a2;subst a3
     exact⟨te,g,xs,hi,by omega,fun h=>by omega⟩
    ·rw[ax _ _ ei] at hk
     exact⟨t',g',ys,hk,eJ _,fun _=>rfl⟩
  ·by_cases ek:k=j
   ·subst ek;rw[au] at hk;simp at hk
   ·rw[ax _ _ ek] at hk
    by_cases ei:k=i
    ·subst ei;rw[au] at hk;simp at hk
    ·rw[ax _ _ ei] at hk
     exact⟨t',ti',q',ys,st,hk,eJ _,rfl,fun _ _ h=>h⟩
 have dom:∀ k,((aP (aP H i (some (.row te e (g+1) xs))) j (some (.box t (cs.set off (.sl i (g+1)))))) k).isSome=(H k).isSome:=by
  intro k
  by_cases ek:k=j
  ·subst ek;rw[au,hj];rfl
  ·rw[ax _ _ ek]
   by_cases ei:k=i
   ·subst ei;rw[au,hi];rfl
   ·rw[ax _ _ ei]
 refine⟨ext,dom,fun B w0 w R=>⟨R.below,R.size,R.st,fun k=>by rw[dom];exact R.dom k,fun k o hk=>?_,R.sep,fun k lk hk=>?_,R.pre⟩⟩
 rotate_left
 ·rcases R.cH k lk hk with h|⟨t',ti',q',ys,st,h⟩
  ·exact .inl h
  ·refine .inr ⟨t',ti',q',ys,st,?_⟩
   rw[ax _ _ (fun e=>by subst e;rw[hj] at h;cases h),ax _ _ (fun e=>by subst e;rw[hi] at h;cases h)]
   exact h
 by_cases ek:k=j
 ·subst ek
  rw[au] at hk;cases hk
  obtain⟨l,h1,h2⟩:=R.obj k _ hj
  refine⟨l,h1,?_⟩
  obtain⟨b,vs,q1,q2,q3,q4,q5⟩:=bD ext (w':=w) (fun _ _=>rfl) (fun b hb=>(R.CR h1 hb).2) h2
  refine⟨b,vs,q1,q2,q3,q4,DF q5 fun v hv=>?_⟩
  have:=BD q5 hc hv
  obtain⟨b',vs',p1,p2,p3,p4,p5⟩:=h2
  have evs:vs'=vs:=by
   have eb:b'=b:=ik (p1.symm.trans q1)
   subst eb
   have:=p4.symm.trans q4
   simpa using this
  subst evs
  have hold:=BD p5 hc hv
  simp only[VR] at hold ⊢
  obtain⟨s0,l2,s1,s2⟩:=hold
  refine⟨s0,l2,s1,fun t' e' gc ys hH=>?_⟩
  rw[ax _ _ hij,au] at hH
  injection hH with hH
  injection hH with a1 a2 a3 a4
  subst a2;subst a3
  have a5:=eq_of_heq a4
  subst a5
  exact⟨eJ _,fun _=>(s2 te e g xs hi).2 rfl⟩
 ·rw[ax _ _ ek] at hk
  by_cases ei:k=i
  ·subst ei
   rw[au] at hk;cases hk
   obtain⟨l,h1,h2⟩:=R.obj k _ hi
   exact⟨l,h1,h2⟩
  ·rw[ax _ _ ei] at hk
   obtain⟨l,h1,h2⟩:=R.obj k o hk
   exact⟨l,h1,bD ext (w':=w) (fun _ _=>rfl) (fun b hb=>(R.CR h1 hb).2) h2⟩
theorem Ew {N:ar}{Dt:Bool×List Deferred}{nt:Nat}{tm:Nat→AV}{ids:List Nat}{a:Act}{j:Nat}:∀ (l:List Nat) (H:Heap),AR N Dt μ S ⟨nt,tm,H,ids⟩ a→Rel μ S H B w0 w →
  AR N Dt μ S ⟨nt,tm,zB H0 j l H,ids⟩ a∧Rel μ S (zB H0 j l H) B w0 w∧∀ x v,VR μ S H x v→VR μ S (zB H0 j l H) x v
 | [],H,A,R=>⟨A,R,fun _ _ h=>h⟩
 | off::l,H,A,R=>by
  have T:=yQ (μ:=μ) (S:=S) (H:=H) (H0:=H0) j off
  obtain⟨h1,h2,h4⟩:=Ew (j:=j) l (bump H0 j off H) (a:=a) (N:=N) (Dt:=Dt) (nt:=nt) (tm:=tm) (ids:=ids) ⟨A.defers,A.size,fun t ht=>dA T.ext _ _ (A.tmp t ht)⟩ (T.rel _ _ _ R)
  exact⟨h1,h2,fun x v h=>h4 x v (dA T.ext _ _ h)⟩
theorem Qa (j off i:Nat)(h:bump H0 j off H i≠none):H i≠none:=by
 have:=(yQ (μ:=fun _=>none) (S:=fun _=>none) (H:=H) (H0:=H0) j off).dom i
 intro e
 rw[e] at this
 cases hb:bump H0 j off H i with
 | none=>exact h hb
 | some o=>rw[hb] at this;simp at this
theorem yN {j:Nat}:∀ (l:List Nat) (H:Heap) (i:Nat),zB H0 j l H i≠none→H i≠none
 | [],H,i,h=>h
 | off::l,H,i,h=>Qa j off i (yN l _ i h)
theorem Gj (hF:cV P F){e:Ex}(h:iN P C F ops base σ=some (e,σ'))(hB:Bd σ):Bd σ':=by
 unfold iN at h
 split at h
 ·split at h
  ·rename_i e1 σ1 h1
   cases h
   intro q hq
   exact xN hF h1 hB q (yN _ _ q hq)
  ·simp at h
 ·exact xN hF h hB
theorem Gz (hC:bX P C)(hF:cV P F){r:Option Nat}{N:ar}{Dt:Bool×List Deferred}{a:Act}{Q:Exit→Act→World→Prop}{id:Nat}{e:Ex}(h:iN P C F ops base σ=some (e,σ'))(hB:Bd σ)(A:AR N Dt μ S σ a)(R:Rel μ S σ.heap B w0 w)
  (hK:∀ a' w' μ' S' x,AR N Dt μ' S' σ' a'→Rel μ' S' σ'.heap B w0 w'→Carry B μ S σ.heap μ' S' σ'.heap→e.Is μ' S' σ'.heap x→Q x a' w'):(ib id ops true).wpIn (WF r) 0 P Q a w:=by
 unfold iN at h
 split at h
 case h_2=>exact vt hC hF h hB A R hK
 rename_i j hj
 split at h
 case h_2=>simp at h
 rename_i e1 σ1 h1
 cases h
 refine vt hC hF h1 hB A R fun a1 w1 μ1 S1 x A1 R1 C1 hx=>?_
 obtain⟨h2,h3,h4⟩:=Ew (H0:=σ.heap) (j:=j) (bj (OA (σ.heap j))) σ1.heap (ids:=σ1.ids) A1 R1
 refine hK a1 w1 μ1 S1 x h2 h3 ⟨fun y v hv=>h4 y v (C1.vr y v hv),C1.st,C1.sub⟩ ?_
 cases e with
 | fE v=>
  obtain⟨u,e1,e2⟩:=hx
  exact⟨u,e1,h4 _ _ e2⟩
 | _=>exact hx
end
def jY (j off n:Nat)(σ:St):St:=
 match σ.heap j with
 | some (.box t cs)=>match cs[off]? with
  | some (.sl i g)=>match σ.heap i,σ.heap n with
   | some (.row te e g1 xs),none=>cond (bm g g1) ⟨σ.nt,σ.tmps,aP (aP (aP σ.heap n (some (.row te e 0 xs))) i (some (.row te e (g1+1) []))) j (some (.box t (cs.set off (.sl n 0)))),σ.ids++[n]⟩ σ
   | _,_=>σ
  | _=>σ
 | _=>σ
def St.fD (σ:St):List (Nat×Nat×Nat)→St
 | []=>σ
 | p::l=>(jY p.1 p.2.1 p.2.2 σ).fD l
section
variable [aq]{N:ar}{Dt:Bool×List Deferred}{σ:St}{a:Act}{μ μo:Mu}{S So:ar}{Ho:Heap}{B:Nat}{w0 w:World}
theorem Hr (j off n:Nat)(A:AR N Dt μ S σ a)(R:Rel μ S σ.heap B w0 w)(Co:Carry B μo So Ho μ S σ.heap) :
  ∃ μ',AR N Dt μ' S (jY j off n σ) a∧Rel μ' S (jY j off n σ).heap B w0 w∧Carry B μo So Ho μ' S (jY j off n σ).heap:=by
 have same:∃ μ',AR N Dt μ' S σ a∧Rel μ' S σ.heap B w0 w∧Carry B μo So Ho μ' S σ.heap:=⟨μ,A,R,Co⟩
 unfold jY
 split
 case h_2=>exact same
 rename_i t cs hj
 split
 case h_2=>exact same
 rename_i i g hc
 split
 case h_2=>exact same
 rename_i te e g1 xs hi hn
 cases hb:bm g g1 with
 | false=>exact same
 | true=>
 simp only[cond_true]
 have hg:g=g1:=aw hb
 subst hg
 have hij:i≠j:=by intro e;subst e;rw[hj] at hi;simp at hi
 have hni:n≠i:=by intro e;subst e;rw[hi] at hn;simp at hn
 have hnj:n≠j:=by intro e;subst e;rw[hj] at hn;simp at hn
 have hmn:μ n=none:=by
  have:=R.dom n
  rw[hn] at this
  cases h:μ n with
  | none=>rfl
  | some _=>rw[h] at this;simp at this
 obtain⟨li,hmi,hOi⟩:=R.obj i _ hi
 have eH:∀ q,q≠n→q≠i→q≠j→(aP (aP (aP σ.heap n (some (.row te e 0 xs))) i (some (.row te e (g+1) []))) j (some (.box t (cs.set off (.sl n 0))))) q=σ.heap q:=by
  intro q h1 h2 h3
  rw[ax _ _ h3,ax _ _ h2,ax _ _ h1]
 have eHn:(aP (aP (aP σ.heap n (some (.row te e 0 xs))) i (some (.row te e (g+1) []))) j (some (.box t (cs.set off (.sl n 0))))) n=some (.row te e 0 xs):=by
  rw[ax _ _ hnj,ax _ _ hni,au]
 have eHi:(aP (aP (aP σ.heap n (some (.row te e 0 xs))) i (some (.row te e (g+1) []))) j (some (.box t (cs.set off (.sl n 0))))) i=some (.row te e (g+1) []):=by
  rw[ax _ _ hij,au]
 have eHj:(aP (aP (aP σ.heap n (some (.row te e 0 xs))) i (some (.row te e (g+1) []))) j (some (.box t (cs.set off (.sl n 0))))) j=some (.box t (cs.set off (.sl n 0))):=au _ _ _
 generalize (aP (aP (aP σ.heap n (some (.row te e 0 xs))) i (some (.row te e (g+1) []))) j (some (.box t (cs.set off (.sl n 0)))))=H' at eH eHn eHi eHj
 have mn:(aP (aP μ n (some li)) i (some ⟨none,0,aT⟩)) n=some li:=by rw[ax _ _ hni,au]
 have mi:(aP (aP μ n (some li)) i (some ⟨none,0,aT⟩)) i=some ⟨none,0,aT⟩:=au _ _ _
 have mq:∀ q,q≠n→q≠i→(aP (aP μ n (some li)) i (some ⟨none,0,aT⟩)) q=μ q:=fun q h1 h2=>by rw[ax _ _ h2,ax _ _ h1]
 generalize (aP (aP μ n (some li)) i (some ⟨none,0,aT⟩))=μ' at mn mi mq
 have ext:Ext μ S σ.heap μ' S H':=by
  refine⟨fun q l hq=>?_,fun _ _ h=>h,fun q t' e' g' ys hq hk=>?_,fun q t' ti' q' ys st hq hk=>?_⟩
  ·by_cases e1:q=n
   ·subst e1;rw[hmn] at hq;simp at hq
   ·by_cases e2:q=i
    ·subst e2
     exact .inr ⟨_,_,_,mi,hi,eHi,.row (by omega)⟩
    ·rw[mq q e1 e2];exact .inl hq
  ·by_cases e1:q=n
   ·subst e1;rw[hmn] at hq;simp at hq
   ·by_cases e3:q=j
    ·subst e3;rw[eHj] at hk;simp at hk
    ·by_cases e2:q=i
     ·subst e2
      rw[eHi] at hk
      injection hk with hk
      injection hk with a1 a2 a3 a4
      subst a2;subst a3
      exact⟨te,g,xs,hi,by omega,fun h=>by omega⟩
     ·rw[eH q e1 e2 e3] at hk
      exact⟨t',g',ys,hk,eJ _,fun _=>rfl⟩
  ·by_cases e1:q=n
   ·subst e1;rw[hmn] at hq;simp at hq
   ·by_cases e3:q=j
    ·subst e3;rw[eHj] at hk;simp at hk
    ·by_cases e2:q=i
     ·subst e2;rw[eHi] at hk;simp at hk
     ·rw[eH q e1 e2 e3] at hk
      exact⟨t',ti',q',ys,st,hk,eJ _,rfl,fun _ _ h=>h⟩
 refine⟨μ',⟨A.defers,A.size,fun q hq=>dA ext _ _ (A.tmp q hq)⟩,⟨R.below,R.size,R.st,fun q=>?_,fun q o hq=>?_,fun p q lp lq b hpq hp hq hbp=>?_,fun q lq hq=>?_,R.pre⟩,⟨fun x v h=>dA ext _ _ (Co.vr x v h),Co.st,Co.sub⟩⟩
 ·by_cases e1:q=n
  ·subst e1;rw[eHn,mn];rfl
  ·by_cases e2:q=i
   ·subst e2;rw[eHi,mi];rfl
   ·by_cases e3:q=j
    ·subst e3
     rw[eHj,mq _ e1 e2,← R.dom,hj];rfl
    ·rw[eH q e1 e2 e3,mq q e1 e2];exact R.dom q
 ·by_cases e1:q=n
  ·subst e1
   rw[eHn] at hq;cases hq
   exact⟨li,mn,hOi⟩
  ·by_cases e2:q=i
   ·subst e2
    rw[eHi] at hq;cases hq
    exact⟨_,mi,⟨by simp,Nat.zero_le _⟩,.inl ⟨rfl,rfl⟩⟩
   ·by_cases e3:q=j
    ·subst e3
     rw[eHj] at hq;cases hq
     obtain⟨l,h1,h2⟩:=R.obj q _ hj
     refine⟨l,by rw[mq q e1 e2];exact h1,?_⟩
     obtain⟨b,vs,q1,q2,q3,q4,q5⟩:=bD ext (w':=w) (fun _ _=>rfl) (fun b hb=>(R.CR h1 hb).2) h2
     refine⟨b,vs,q1,q2,q3,q4,DF q5 fun v hv=>?_⟩
     obtain⟨b',vs',p1,p2,p3,p4,p5⟩:=h2
     have evs:vs'=vs:=by
      have eb:b'=b:=ik (p1.symm.trans q1)
      subst eb
      have:=p4.symm.trans q4
      simpa using this
     subst evs
     have hold:=BD p5 hc hv
     simp only[VR] at hold ⊢
     obtain⟨s0,l2,s1,s2⟩:=hold
     rw[hmi] at s1;cases s1
     refine⟨s0,li,mn,fun t' e' gc ys hH=>?_⟩
     rw[eHn] at hH
     injection hH with hH
     injection hH with a1 a2 a3 a4
     subst a2;subst a3
     have a5:=eq_of_heq a4
     subst a5
     exact⟨eJ _,fun _=>(s2 te e g xs hi).2 rfl⟩
    ·rw[eH q e1 e2 e3] at hq
     obtain⟨l,h1,h2⟩:=R.obj q o hq
     exact⟨l,by rw[mq q e1 e2];exact h1,bD ext (w':=w) (fun _ _=>rfl) (fun b hb=>(R.CR h1 hb).2) h2⟩
 ·
  intro hbq
  have nb:∀ q l,μ' q=some l→l.has b→∃ q',μ q'=some l∧(q=n∧q'=i∨q≠n∧q≠i∧q'=q):=by
   intro q l hq hb
   by_cases e1:q=n
   ·subst e1;rw[mn] at hq;cases hq;exact⟨i,hmi,.inl ⟨rfl,rfl⟩⟩
   ·by_cases e2:q=i
    ·subst e2;rw[mi] at hq;cases hq;rw[Lc.fe rfl] at hb;simp at hb
    ·rw[mq q e1 e2] at hq;exact⟨q,hq,.inr ⟨e1,e2,rfl⟩⟩
  obtain⟨p',k1,k2⟩:=nb p lp hp hbp
  obtain⟨q',k3,k4⟩:=nb q lq hq hbq
  have hne:p'≠q':=by
   rcases k2 with⟨rfl,rfl⟩|⟨h1,h2,rfl⟩
   ·rcases k4 with⟨rfl,rfl⟩|⟨h3,h4,rfl⟩
    ·exact absurd rfl hpq
    ·exact fun e=>h4 e.symm
   ·rcases k4 with⟨rfl,rfl⟩|⟨h3,h4,rfl⟩
    ·exact h2
    ·exact hpq
  exact R.sep p' q' lp lq b hne k1 k3 hbp hbq
 ·by_cases e1:q=n
  ·subst e1;rw[mn] at hq;cases hq;exact .inl (R.iX hmi hi)
  ·by_cases e2:q=i
   ·subst e2;rw[mi] at hq;cases hq;exact .inl rfl
   ·rw[mq q e1 e2] at hq
    rcases R.cH q lq hq with h|⟨t',ti',q',ys,st,h⟩
    ·exact .inl h
    ·exact .inr ⟨t',ti',q',ys,st,by rw[eH q e1 e2 (fun e=>by subst e;rw[hj] at h;cases h)];exact h⟩
omit [aq] in
theorem HF (j off n:Nat)(h:Bd σ):Bd (jY j off n σ):=by
 unfold jY
 split
 case h_2=>exact h
 rename_i t cs hj
 split
 case h_2=>exact h
 rename_i i g hc
 split
 case h_2=>exact h
 rename_i hi hn
 cases bm _ _ with
 | false=>exact h
 | true=>
  intro q hq
  simp only[cond_true] at hq ⊢
  rw[dj]
  by_cases e3:q=j
  ·subst e3;exact .inl (h q (by rw[hj];simp))
  ·rw[ax _ _ e3] at hq
   by_cases e2:q=i
   ·exact .inl (h q (by rw[e2,hi];simp))
   ·rw[ax _ _ e2] at hq
    by_cases e1:q=n
    ·exact .inr (by simp[e1])
    ·rw[ax _ _ e1] at hq;exact .inl (h q hq)
theorem D3:∀ (l:List (Nat×Nat×Nat)) {σ:St} {μ:Mu},AR N Dt μ S σ a→Rel μ S σ.heap B w0 w→Carry B μo So Ho μ S σ.heap →
  ∃ μ',AR N Dt μ' S (σ.fD l) a∧Rel μ' S (σ.fD l).heap B w0 w∧Carry B μo So Ho μ' S (σ.fD l).heap
 | [],σ,μ,A,R,Co=>⟨μ,A,R,Co⟩
 | p::l,σ,μ,A,R,Co=>by
  obtain⟨μ1,A1,R1,C1⟩:=Hr p.1 p.2.1 p.2.2 A R Co
  exact D3 l A1 R1 C1
omit [aq] in
theorem Dk:∀ (l:List (Nat×Nat×Nat)) {σ:St},Bd σ→Bd (σ.fD l)
 | [],σ,h=>h
 | p::l,σ,h=>Dk l (HF p.1 p.2.1 p.2.2 h)
end
end Go.Sy
