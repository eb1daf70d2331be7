/- Sym9, Sym10, Sym11, Sym11b, Sym11c. -/
import Derived.Test.YtlhbhlngoecdcaaGreatDoorFA
import Derived.OrdersIn
import Derived.LoopNIn
import Derived.RangeFuncIn
namespace Go.Sy
open Go Go.RowKit
set_option linter.unusedSimpArgs false
set_option linter.unusedVariables false
def St.put (σ:St)(dst:Option Tmp)(v:AV):Option St:=
 match dst with
 | none=>some σ
 | some d=>cond (mG d σ.nt) (some ⟨σ.nt,aU σ.tmps d v,σ.heap,σ.ids⟩) none
def St.with (σ:St)(H:Heap):St:=⟨σ.nt,σ.tmps,H,σ.ids⟩
def St.ay (σ:St)(l:List Nat):St:=⟨σ.nt,σ.tmps,σ.heap,σ.ids++l⟩
def Bd (σ:St):Prop:=∀ q,σ.heap q≠none→q∈σ.ids
structure aeJ where
 rB:FuncId→Option bA
 aU:FuncId→Option dA
abbrev Cons:=aeJ
def bS:Code→Option Nat
 | .region id _ _=>some id
 | .seq x y=>match bS x with
  | some i=>some i
  | none=>bS y
 | .cond _ x y=>match bS x with
  | some i=>some i
  | none=>bS y
 | .block _ x=>bS x
 | .loop x=>bS x
 | .scope x=>bS x
 | _=>none
abbrev cN:=Array Tmp×Code×Code
def bc:Code→List cN
 | .seq x y=>bc x++bc y
 | .cond _ x y=>bc x++bc y
 | .block _ x=>bc x
 | .loop x=>bc x
 | .scope x=>bc x
 | .rangeFunc _ ps asn body=>[(ps,asn,body)]
 | _=>[]
def cN.is (x:cN)(r:Nat):Bool:=match bS x.2.2 with
 | some q=>Nat.beq q r
 | none=>false
def zY (r:Nat):List cN→Option cN
 | []=>none
 | x::l=>cond (cN.is x r) (cond (l.any fun y=>cN.is y r) none (some x)) (zY r l)
theorem BX {r:Nat}:∀ {l:List cN} {x y:cN},zY r l=some y→x∈l→cN.is x r=true→y=x
 | [],x,y,h,hx,_=>by simp at hx
 | z::l,x,y,h,hx,hr=>by
  simp only[zY] at h
  rcases List.mem_cons.1 hx with rfl|hx
  ·rw[hr] at h
   simp only[cond_true] at h
   cases hb:(l.any fun y=>cN.is y r) with
   | true=>rw[hb] at h;simp at h
   | false=>rw[hb] at h;simpa using h.symm
  ·cases hz:cN.is z r with
   | true=>
    rw[hz] at h
    have:(l.any fun y=>cN.is y r)=true:=List.any_eq_true.2 ⟨x,hx,hr⟩
    rw[this] at h;simp at h
   | false=>rw[hz] at h;exact BX h hx hr
def dR (P:Program)(k r:Nat):Option cN:=
 match P.funcs[k]? with
 | some fn=>match fn.body with
  | some c=>zY r (bc c)
  | none=>none
 | none=>none
def bV [ar](P:Program)(C:Cons):Prop:=
 (∀ k c,C.rB k=some c→c.OK P k)∧(∀ k u,C.aU k=some u→u.OK P k)∧∀ k r,ar.jm k r=dR P k r
def BM (C:Cons)(o:Oper)(k:FuncId):Option dA:=
 match o.op with
 | .call c=>match c.callee with
  | .value (.func k')=>cond (Nat.beq k' k) (C.aU k) none
  | _=>none
 | _=>none
def HP (C:Cons)(o:Oper):Bool:=
 match o.op with
 | .call c=>match c.callee with
  | .value (.func k)=>(C.aU k).isSome
  | _=>false
 | _=>false
theorem wX {C:Cons}{o:Oper}{k:FuncId}{u:dA}(h:BM C o k=some u):HP C o=true∧C.aU k=some u:=by
 unfold BM at h
 unfold HP
 split at h
 ·rename_i c hc
  split at h
  ·rename_i k' hk
   obtain⟨h1,h2⟩:=(show Nat.beq k' k=true∧C.aU k=some u by
    cases hb:Nat.beq k' k with
    | true=>rw[hb] at h;exact⟨rfl,h⟩
    | false=>rw[hb] at h;simp at h)
   have:=Nat.eq_of_beq_eq_true h1
   subst this
   exact⟨by rw[h2];rfl,h2⟩
  ·simp at h
 ·simp at h
def uD (C:Cons):Callee→Option bA
 | .fn k=>C.rB k
 | .jZ _=>none
def jt (C:Cons)(o:Oper):Callee→Option dA
 | .fn k=>BM C o k
 | .jZ _=>none
theorem DK {C:Cons}{o:Oper}{k:Callee}{u:dA}(h:jt C o k=some u):HP C o=true:=by
 cases k with
 | fn k=>exact (wX h).1
 | jZ i=>simp[jt] at h
abbrev j3:=Nat→Callee→List AV→Heap→List Nat→Option (AV×Heap×List Nat)
def AV.e7:AV→Bool
 | .gh _=>true
 | _=>false
abbrev Fi (u:Value):List PanicEntry:=[{ v:=u,recovered:=false }]
def fW (μ:Mu)(S:an)(H:Heap)(v:AV)(e:Ending):Prop:=
 match v with
 | .gh x=>∃ u,e = .panicked (Fi u)∧VR μ S H x u
 | v=>∃ u,e = .returned u∧VR μ S H v u
theorem fW.ret {μ:Mu}{S:an}{H:Heap}{v:AV}{u:Value}(h:VR μ S H v u):fW μ S H v (.returned u):=by
 cases v<;>first|exact⟨u,rfl,h⟩|(simp only[VR] at h)
theorem fW.val {μ:Mu}{S:an}{H:Heap}{v:AV}{e:Ending}(h:fW μ S H v e)(hp:v.e7=false):∃ u,e = .returned u∧VR μ S H v u:=by
 cases v<;>first|exact h|(simp[AV.e7] at hp)
structure NQ where
 sets:List (Nat×bq)
 new:Bool
 v:AV
def fK (id:Nat):List (Nat×bq)→Bool
 | []=>true
 | (i,_)::l=>Nat.ble id i&&mG i (id+16)&&fK id l
def Fp (P:Program)(o:Oper):Bool:=
 match o.op with
 | .move _=>false
 | .assign _=>false
 | .pick _ _ _=>false
 | .alloc _=>false
 | .box _ _=>false
 | .field _ _ _=>false
 | .binOp _ _ _ _ _=>false
 | .unOp _ _ _=>false
 | .convert s _ _=>match P.underlying s with
  | some (.slice _)=>true
  | _=>false
 | .extract _ _=>false
 | .index _ _ _=>false
 | .makeFunc _ _ _=>false
 | _=>true
def za (c:bA)(Hh:Heap)(id:Nat)(as:List AV):Option NQ:=
 match cZ (ja c Hh) c.ps as with
 | some x=>match c.f x with
  | some y=>some ⟨jh c.rs y id,true,gU (tc c.rs y id)⟩
  | none=>none
 | none=>none
def bn (P:Program)(C:Cons)(Hh:Heap)(id:Nat)(o:Oper)(ρ:Operand→AV):Option NQ:=
 match sem P Hh id o ρ with
 | some (.val c v)=>cond c (some ⟨[],false,v⟩) none
 | some (.new c i ob v)=>cond c (some ⟨[(i,ob)],true,v⟩) none
 | some (.wr c i ob v)=>cond c (some ⟨[(i,ob)],false,v⟩) none
 | some (.Vr c i ob v u)=>cond c (some ⟨[(i,ob)],false,v⟩) (some ⟨[],false,u⟩)
 | some (.call k as)=>match jt C o k with
  | some u=>match k9 u Hh as with
   | some (i,ob,v)=>some ⟨[(i,ob)],false,v⟩
   | none=>none
  | none=>match Fp P o,uD C k with
   | true,some rB=>za rB Hh id as
   | _,_=>none
 | none=>none
def St.IQ (σ:St)(id:Nat)(dst:Option Tmp)(e:NQ):Option St:=
 cond (e.new && !(bC σ.heap e.sets&&fK id e.sets)) none ((σ.with (bh σ.heap e.sets)).put dst e.v)
def fU (P:Program)(C:Cons)(F:j3)(Hh:Heap)(id:Nat)(o:Oper)(ρ:Operand→AV)(H:Heap)(L:List Nat):Option (AV×Heap×List Nat):=
 match sem P Hh id o ρ with
 | some (.call k as)=>match uD C k with
  | some _=>none
  | none=>F id k as H L
 | _=>none
def want (ops:Array Oper)(σ:St)(o:Oper):Option Bool:=
 match o.guard with
 | none=>some true
 | some (j,b)=>match ops[j]? with
  | some g=>match g.dst with
   | some d=>match σ.val (.tmp d) with
    | .lit (.bool c)=>some (c == b)
    | .lit (.tuple _)=>some false
    | _=>none
   | none=>some false
  | none=>some false
inductive Ex where
 | dJ
 | exit (id:Nat)
 | goto (l:Nat)
 | ret
 | gh (v:AV)
def ir (P:Program)(C:Cons)(F:j3)(ops:Array Oper)(hide:Heap→Heap)(id i:Nat)(σ:St):Option St:=
 match ops[i]? with
 | none=>some σ
 | some o=>match want ops σ o with
  | some true=>match bn P C (hide σ.heap) id o σ.val with
   | some e=>σ.IQ id o.dst e
   | none=>match fU P C F (hide σ.heap) id o σ.val σ.heap σ.ids with
    | some (v,H',L')=>cond v.e7 none ((⟨σ.nt,σ.tmps,H',L'⟩:St).put o.dst v)
    | none=>none
  | some false=>σ.put o.dst (.lit undef)
  | none=>none
def gp (P:Program)(C:Cons)(F:j3)(ops:Array Oper)(hide:Heap→Heap)(id i:Nat)(σ:St):Option (AV×Heap×List Nat):=
 match ops[i]? with
 | none=>none
 | some o=>match want ops σ o with
  | some true=>match o.op with
   | .panic x=>match σ.val x with
    | .Db t v=>some (.Db t v,σ.heap,σ.ids)
    | _=>none
   | _=>match bn P C (hide σ.heap) id o σ.val with
    | some _=>none
    | none=>match fU P C F (hide σ.heap) id o σ.val σ.heap σ.ids with
     | some (.gh x,H',L')=>some (x,H',L')
     | _=>none
  | _=>none
def ef (P:Program)(C:Cons)(ops:Array Oper)(Hh:Heap)(id i:Nat)(σ:St):List Nat:=
 match ops[i]? with
 | none=>[]
 | some o=>match want ops σ o with
  | some true=>match bn P C Hh id o σ.val with
   | some e=>cond e.new (e.sets.map (·.1)) []
   | none=>[]
  | _=>[]
def dX:j3:=fun _ _ _ _ _=>none
def w9 (P:Program)(μ:Mu)(c:Callee)(us:Array Value)(w:World)(R:Ending→World→Prop):Prop:=
 match c with
 | .fn k=>Calls P k us w R
 | .jZ i=>∀ b cp,μ i=some ⟨some b,cp⟩→∃ f tmps asn body,(Instr.yield b us).run P w = .ok (.round b f tmps asn body) w∧RoundIn Fence.wide 0 P b f tmps asn body w R
theorem w9.mono {P:Program}{μ:Mu}{c:Callee}{us:Array Value}{w:World}{R R':Ending→World→Prop}(h:w9 P μ c us w R)(hR:∀ e w',R e w'→R' e w'):w9 P μ c us w R':=by
 cases c with
 | fn k=>exact Calls.mono h hR
 | jZ i=>
  intro b cp hm
  obtain⟨f,tmps,asn,body,h1,h2,h3⟩:=h b cp hm
  refine⟨f,tmps,asn,body,h1,h2,fun c cs hr=>?_⟩
  obtain⟨e,w',q1,q2⟩:=h3 c cs hr
  exact⟨e,w',hR e w' q1,q2⟩
abbrev WF (r:Option Nat):Fence:={ Fence.wide with round:=r }
theorem gw {r:Option Nat}{n:Nat}{P:Program}{f:FuncId}{args:Array Value}{w:World}{R:Ending→World→Prop}:CallsIn (WF r) n P f args w R↔Calls P f args w R:=callsIn_wide
theorem KG {r:Option Nat}{P:Program}{o:Oper}{a:Act}{next:Act→World→Prop}{Q:Exit→Act→World→Prop}{μ:Mu}{k:Callee}{us:Array Value}{w:World}{res:Result Next}
  (h:PZ P μ w k us res) (hc:w9 P μ k us w fun e w'=>(∃ v,e = .returned v∧next (a.put o.dst v) w')∨∃ u,e = .panicked (Fi u)∧Q (.panic (Fi u)) a w'):o.uponIn (WF r) 0 P a next Q res:=by
 cases k with
 | fn k=>
  simp only[PZ] at h
  subst h
  rw[Oper.uponIn_enter]
  refine⟨fun h=>(by cases h),gw.2 (Calls.mono hc ?_)⟩
  rintro e w' (⟨v,rfl,h⟩|⟨u,rfl,h⟩)
  ·exact h
  ·exact h
 | jZ i=>
  obtain⟨b,c,hm,rfl⟩:=h
  obtain⟨f,tmps,asn,body,h1,h2,h3⟩:=hc b c hm
  rw[h1,Oper.uponIn_round]
  refine⟨fun h=>(by cases h),h2,fun c cs hr=>?_⟩
  obtain⟨e,w',q1,q2⟩:=h3 c cs hr
  rcases q1 with⟨v,rfl,q1⟩|⟨u,rfl,q1⟩
  ·exact⟨.returned v,w',q1,q2⟩
  ·exact⟨.panicked (Fi u),w',q1,q2⟩
theorem gT {P:Program}{Hh:Heap}{id:Nat}{o:Oper}{ρa:Operand→AV}{out:Out}{r:Option Nat}{ρ:Operand→Value}(h:sem P Hh id o ρa=some out):o.semAt r ρ=execOp ρ o:=by
 refine Oper.semAt_eq r ρ o fun c hc=>?_
 unfold sem at h
 rw[hc] at h
 simp at h
theorem uC {r:Option Nat}{P:Program}{o:Oper}{a:Act}{next:Act→World→Prop}{Q:Exit→Act→World→Prop}{μ:Mu}{k:Callee}{us:Array Value}{w:World}{res:Result Next}
  (h:PZ P μ w k us res) (hc:w9 P μ k us w fun e w'=>∃ v,e = .returned v∧next (a.put o.dst v) w'):o.uponIn (WF r) 0 P a next Q res:=by
 cases k with
 | fn k=>
  simp only[PZ] at h
  subst h
  rw[Oper.uponIn_enter]
  refine⟨fun h=>(by cases h),gw.2 (Calls.mono hc ?_)⟩
  rintro e w' ⟨v,rfl,h⟩
  exact h
 | jZ i=>
  obtain⟨b,c,hm,rfl⟩:=h
  obtain⟨f,tmps,asn,body,h1,h2,h3⟩:=hc b c hm
  rw[h1,Oper.uponIn_round]
  refine⟨fun h=>(by cases h),h2,fun c cs hr=>?_⟩
  obtain⟨e,w',⟨v,rfl,q1⟩,q2⟩:=h3 c cs hr
  exact⟨.returned v,w',q1,q2⟩
def dl [ar](P:Program)(F:j3):Prop:=
 ∀ id k as H L v H' L',F id k as H L=some (v,H',L')→(∀ q,H q≠none→q∈L)→(∀ q,H' q≠none→q∈L')∧∀ (μ:Mu) (S:an) (B:Nat) (w0 w:World) (us:Array Value),Rel μ S H B w0 w→aP μ S H as us.toList →
  w9 P μ k us w fun e w'=>∃ μ' S',fW μ' S' H' v e∧Rel μ' S' H' B w0 w'∧Carry B μ S H μ' S' H'
section
variable [ar]{P:Program}{C:Cons}{F:j3}{r:Option Nat}{N:an}{Dt:Bool×List Deferred}{w w0:World}{μ μ':Mu}{S S':an}{B:Nat}{σ σ':St}{a:Act}{H':Heap}{L':List Nat}{Q:Exit→Act→World→Prop}{K:Act→World→Prop}
omit [ar] in
theorem AR.put {B:Nat}(A:AR N Dt μ S σ a)(hc:Carry B μ S σ.heap μ' S' H'){v:AV}{u:Value}(hv:VR μ' S' H' v u){dst:Option Tmp}(h:(⟨σ.nt,σ.tmps,H',L'⟩:St).put dst v=some σ') :
  AR N Dt μ' S' σ' (a.put dst u)∧σ'.heap=H':=by
 have mk_defers:∃ ms:List Nat,a.defers=ms.map (fun D=>⟨.collected D,#[]⟩)++Dt.2∧Mark S' N ms∧(Dt.1=true→ms=[]):=by
  obtain⟨ms,h1,⟨h2,h3⟩,h4⟩:=A.defers
  exact⟨ms,h1,⟨h2,fun D hD=>⟨(h3 D hD).1,hc.sub _ _ (h3 D hD).2⟩⟩,h4⟩
 cases dst with
 | none=>
  simp only[St.put,Option.some.injEq] at h;subst h
  exact⟨⟨mk_defers,A.size,fun t ht=>hc.vr _ _ (A.tmp t ht)⟩,rfl⟩
 | some d=>
  obtain⟨hd,rfl⟩:=aj h
  have hd:=cG hd
  refine⟨⟨mk_defers,by simp only[Act.put,Array.size_setIfInBounds];exact A.size,fun t ht=>?_⟩,rfl⟩
  simp only at hd ht ⊢
  by_cases e:t=d
  ·subst e
   rw[ax]
   simp only[Act.put]
   have:t<a.tmps.size:=by rw[A.size];exact hd
   simpa [Array.getD_eq_getD_getElem?,this] using hv
  ·rw[aA _ _ e]
   simp only[Act.put]
   have:=hc.vr _ _ (A.tmp t ht)
   rw[Array.getD_eq_getD_getElem?] at this ⊢
   rw[Array.getElem?_setIfInBounds_ne (Ne.symm e)];exact this
omit [ar] in
theorem Ey (A:AR N Dt μ S σ a){ops:Array Oper}{o:Oper}{b:Bool}(h:want ops σ o=some b):Region.wanted o (yielded ops a.tmps)=b:=by
 unfold want at h
 unfold Region.wanted
 split at h
 ·rename_i hg;rw[hg];simpa using h
 ·rename_i j bb hg
  rw[hg]
  simp only[yielded]
  split at h
  ·rename_i g hj
   rw[hj]
   simp only[Option.bind_some]
   split at h
   ·rename_i d hd
    rw[hd]
    simp only[Option.bind_some]
    have hv:∀ {x:AV},σ.val (.tmp d)=x→x ≠ .aq→∃ u,a.tmps[d]? = some u∧VR μ S σ.heap x u:=by
     intro x hx hx2
     simp only[St.val] at hx
     cases hl:mG d σ.nt with
     | false=>rw[hl] at hx;exact absurd hx.symm hx2
     | true=>
      rw[hl] at hx
      have:=A.tmp d (cG hl)
      simp only[cond_true] at hx
      rw[hx] at this
      have hs:d<a.tmps.size:=by rw[A.size];exact cG hl
      refine⟨a.tmps[d],by simp[hs],?_⟩
      simpa [Array.getD_eq_getD_getElem?,hs] using this
    split at h
    ·rename_i c hx
     obtain⟨u,h1,h2⟩:=hv hx (by simp)
     simp only[VR] at h2;subst h2
     rw[h1]
     simp only[Option.some.injEq] at h
     rw[← h];cases c<;>cases bb<;>rfl
    ·rename_i vs hx
     obtain⟨u,h1,h2⟩:=hv hx (by simp)
     simp only[VR] at h2;subst h2
     rw[h1]
     simp only[Option.some.injEq] at h
     rw[← h];rfl
    ·simp at h
   ·rename_i hd
    rw[hd]
    simp only[Option.some.injEq] at h
    rw[← h];rfl
  ·rename_i hj
   rw[hj]
   simp only[Option.some.injEq] at h
   rw[← h];rfl
theorem gE (hC:bV P C)(hF:dl P F){ops:Array Oper}{hide:Heap→Heap}(hs:∀ H i o,hide H i=some o→H i=some o){id i:Nat}
  (h:ir P C F ops hide id i σ=some σ') (hBd:Bd σ∨F=dX) (A:AR N Dt μ S σ a) (R:Rel μ S σ.heap B w0 w)
  (hK:∀ a' w' μ' S',AR N Dt μ' S' σ' a'→Rel μ' S' σ'.heap B w0 w'→Carry B μ S σ.heap μ' S' σ'.heap→K a' w'):wpOpIn (WF r) 0 P ops Q i K a w:=by
 unfold ir at h
 unfold wpOpIn
 split at h
 ·rename_i ho
  rw[ho];cases h
  exact hK a w μ S A R Carry.refl
 ·rename_i o ho
  rw[ho]
  split at h
  ·rename_i hw
   simp only[Ey A hw,if_true]
   unfold Oper.wpIn
   refine⟨fun _ _=>trivial,?_⟩
   have sub:=hs σ.heap
   split at h
   ·rename_i e he
    unfold bn at he
    split at he
    ·rename_i c v hsem
     obtain⟨hc,rfl⟩:=aj he
     obtain⟨n,u,w',μ',k1,k2,k3,k4,k5⟩:=DV sub R (fun x=>A.val x) hsem hc rfl
     rw[gT hsem,k1]
     have h':(σ.with σ.heap).put o.dst v=some σ':=h
     obtain⟨A',e'⟩:=A.put (Carry.of (B:=B) k4) k5 h'
     have fin:=hK _ w' μ' S A' (by rw[e'];exact k3) (by rw[e'];exact Carry.of k4)
     rcases k2 with rfl|⟨rfl,rfl⟩<;>exact fin
    ·rename_i c i' ob v hsem
     obtain⟨hc,rfl⟩:=aj he
     have h2:(bC σ.heap [(i',ob)]&&fK id [(i',ob)])=true∧(σ.with (bh σ.heap [(i',ob)])).put o.dst v=some σ':=by
      unfold St.IQ at h
      cases hb:(bC σ.heap [(i',ob)]&&fK id [(i',ob)]) with
      | false=>rw[hb] at h;simp at h
      | true=>rw[hb] at h;exact⟨rfl,h⟩
     obtain⟨h2,h'⟩:=h2
     have hfr:(Out.new c i' ob v).fresh σ.heap=true:=by
      simp only[Bool.and_eq_true,bC] at h2
      exact h2.1.1
     obtain⟨n,u,w',μ',k1,k2,k3,k4,k5⟩:=DV sub R (fun x=>A.val x) hsem hc hfr
     rw[gT hsem,k1]
     obtain⟨A',e'⟩:=A.put (Carry.of (B:=B) k4) k5 h'
     have fin:=hK _ w' μ' S A' (by rw[e'];exact k3) (by rw[e'];exact Carry.of k4)
     rcases k2 with rfl|⟨rfl,rfl⟩<;>exact fin
    ·rename_i c i' ob v hsem
     obtain⟨hc,rfl⟩:=aj he
     obtain⟨n,u,w',μ',k1,k2,k3,k4,k5⟩:=DV sub R (fun x=>A.val x) hsem hc rfl
     rw[gT hsem,k1]
     have h':(σ.with (bh σ.heap [(i',ob)])).put o.dst v=some σ':=h
     obtain⟨A',e'⟩:=A.put (Carry.of (B:=B) k4) k5 h'
     have fin:=hK _ w' μ' S A' (by rw[e'];exact k3) (by rw[e'];exact Carry.of k4)
     rcases k2 with rfl|⟨rfl,rfl⟩<;>exact fin
    ·rename_i c i' ob v u' hsem
     obtain⟨n,u,w',μ',k1,k2,k3,k4,k5⟩:=DV sub R (fun x=>A.val x) hsem rfl rfl
     rw[gT hsem,k1]
     cases c with
     | true=>
      simp only[cond_true,Option.some.injEq] at he;subst he
      have h':(σ.with (bh σ.heap [(i',ob)])).put o.dst v=some σ':=h
      obtain⟨A',e'⟩:=A.put (Carry.of (B:=B) k4) k5 h'
      have fin:=hK _ w' μ' S A' (by rw[e'];exact k3) (by rw[e'];exact Carry.of k4)
      rcases k2 with rfl|⟨rfl,rfl⟩<;>exact fin
     | false=>
      simp only[cond_false,Option.some.injEq] at he;subst he
      have h':(σ.with σ.heap).put o.dst u'=some σ':=h
      obtain⟨A',e'⟩:=A.put (Carry.of (B:=B) k4) k5 h'
      have fin:=hK _ w' μ' S A' (by rw[e'];exact k3) (by rw[e'];exact Carry.of k4)
      rcases k2 with rfl|⟨rfl,rfl⟩<;>exact fin
    ·rename_i k as hsem
     split at he
     ·rename_i u hupd
      split at he
      ·rename_i i' ob v hout
       cases he
       obtain⟨us,k1,k2⟩:=s9 (w:=w) (fun x=>A.val x) hsem
       rw[gT hsem]
       cases k with
       | jZ _=>simp[jt] at hupd
       | fn k=>
       refine uC k1 (w9.mono (c:=.fn k) (TK (hC.2.1 _ _ (wX hupd).2) sub R k2 hout) ?_)
       rintro e w' ⟨v,μ',rfl,q1,q2,q3⟩
       refine⟨_,rfl,?_⟩
       have h':(σ.with (aU σ.heap i' (some ob))).put o.dst _=some σ':=h
       obtain⟨A',e'⟩:=A.put q3 q1 h'
       exact hK _ w' μ' S A' (by rw[e'];exact q2) (by rw[e'];exact q3)
      ·simp at he
     split at he
     ·rename_i rB _ hcon
      unfold za at he
      split at he
      ·rename_i x hx
       split at he
       ·rename_i y hy
        cases he
        have h2:(bC σ.heap (jh rB.rs y id)&&fK id (jh rB.rs y id))=true∧(σ.with (bh σ.heap (jh rB.rs y id))).put o.dst (gU (tc rB.rs y id))=some σ':=by
         unfold St.IQ at h
         cases hb:(bC σ.heap (jh rB.rs y id)&&fK id (jh rB.rs y id)) with
         | false=>rw[hb] at h;simp at h
         | true=>rw[hb] at h;exact⟨rfl,h⟩
        obtain⟨h2,h'⟩:=h2
        simp only[Bool.and_eq_true] at h2
        obtain⟨us,k1,k2⟩:=s9 (w:=w) (fun x=>A.val x) hsem
        rw[gT hsem]
        cases k with
        | jZ _=>simp[uD] at hcon
        | fn k=>
        refine uC k1 (w9.mono (c:=.fn k) (Uw (hC.1 _ _ hcon) sub R k2 hx hy h2.1) ?_)
        rintro e w' ⟨v,μ',S',rfl,q1,q2,q3⟩
        refine⟨_,rfl,?_⟩
        obtain⟨A',e'⟩:=A.put q3 q1 h'
        exact hK _ w' μ' S' A' (by rw[e'];exact q2) (by rw[e'];exact q3)
       ·simp at he
      ·simp at he
     ·simp at he
    ·simp at he
   ·split at h
    ·rename_i v H' L' hi
     unfold fU at hi
     split at hi
     ·rename_i k as hsem
      split at hi
      ·simp at hi
      ·obtain⟨us,k1,k2⟩:=s9 (w:=w) (fun x=>A.val x) hsem
       rw[gT hsem]
       have hBd:Bd σ:=by
        rcases hBd with h|h
        ·exact h
        ·subst h;simp[dX] at hi
       obtain⟨hnp,h⟩:=cM h
       refine uC k1 (((hF _ _ _ _ _ _ _ _ hi hBd).2 μ S B w0 w us R k2).mono ?_)
       rintro e w' ⟨μ',S',q0,q2,q3⟩
       obtain⟨u,rfl,q1⟩:=q0.val hnp
       refine⟨_,rfl,?_⟩
       obtain⟨A',e'⟩:=A.put q3 q1 h
       exact hK _ w' μ' S' A' (by rw[e'];exact q2) (by rw[e'];exact q3)
     ·simp at hi
    ·simp at h
  ·rename_i hw
   simp only[Ey A hw,Bool.false_eq_true,if_false]
   have h':(σ.with σ.heap).put o.dst (.lit undef)=some σ':=h
   obtain⟨A',e'⟩:=A.put (Carry.refl (B:=B) (H:=σ.heap)) (v:=.lit undef) (u:=undef) (by simp only[VR]) h'
   exact⟨fun _ _=>trivial,hK _ w μ S A' (by rw[e'];exact R) (by rw[e'];exact Carry.refl)⟩
  ·simp at h
theorem px (hF:dl P F){ops:Array Oper}{hide:Heap→Heap}{id i:Nat}{x:AV}(h:gp P C F ops hide id i σ=some (x,H',L'))(hBd:Bd σ)(A:AR N Dt μ S σ a)(R:Rel μ S σ.heap B w0 w)
  (hK:∀ w' μ' S' u,AR N Dt μ' S' ⟨σ.nt,σ.tmps,H',L'⟩ a→Rel μ' S' H' B w0 w'→Carry B μ S σ.heap μ' S' H'→VR μ' S' H' x u→Q (.panic (Fi u)) a w'):wpOpIn (WF r) 0 P ops Q i K a w:=by
 unfold gp at h
 unfold wpOpIn
 split at h
 case h_1=>simp at h
 rename_i o ho
 rw[ho]
 split at h
 case h_2=>simp at h
 rename_i hw
 simp only[Ey A hw,if_true]
 unfold Oper.wpIn
 refine⟨fun _ _=>trivial,?_⟩
 have keep:∀ {μ' S' w'} {H':Heap} {L':List Nat},Rel μ' S' H' B w0 w'→Carry B μ S σ.heap μ' S' H'→AR N Dt μ' S' ⟨σ.nt,σ.tmps,H',L'⟩ a:=fun {μ' S' w' H' L'} R' C'=>
  (A.put (σ':=⟨σ.nt,σ.tmps,H',L'⟩) (H':=H') (L':=L') C' (v:=.lit undef) (u:=undef) (by simp only[VR]) (dst:=none) rfl).1
 split at h
 ·rename_i y hop
  split at h
  case h_2=>simp at h
  rename_i t v hv
  cases h
  have hx:=A.val y
  rw[hv] at hx
  have hx':=hx
  simp only[VR] at hx
  obtain⟨u,he,hu⟩:=hx
  have hs:(o.semAt r a.eval).run P w = .halt (.panic (.iface t u)) w:=by
   rw[Oper.semAt_eq r a.eval o (by rw[hop];simp)]
   unfold execOp
   rw[hop]
   simp only[he]
   rfl
  rw[hs]
  rw[Oper.uponIn_panic]
  rw[he] at hx'
  exact hK w μ S (.iface t u) A R Carry.refl hx'
 ·split at h
  ·simp at h
  split at h
  case h_2=>simp at h
  rename_i y H1 L1 hi
  cases h
  unfold fU at hi
  split at hi
  case h_2=>simp at hi
  rename_i k as hsem
  split at hi
  ·simp at hi
  ·obtain⟨us,k1,k2⟩:=s9 (w:=w) (fun x=>A.val x) hsem
   rw[gT hsem]
   refine KG k1 (((hF _ _ _ _ _ _ _ _ hi hBd).2 μ S B w0 w us R k2).mono ?_)
   rintro e w' ⟨μ',S',q0,q2,q3⟩
   obtain⟨u,rfl,q1⟩:=q0
   exact .inr ⟨u,rfl,hK w' μ' S' u (keep q2 q3) q2 q3 q1⟩
theorem sL (hF:dl P F){ops:Array Oper}{hide:Heap→Heap}{id i:Nat}{x:AV}(h:gp P C F ops hide id i σ=some (x,H',L'))(hBd:Bd σ):∀ q,H' q≠none→q∈L':=by
 unfold gp at h
 split at h
 case h_1=>simp at h
 split at h
 case h_2=>simp at h
 split at h
 ·split at h
  case h_2=>simp at h
  cases h
  exact hBd
 ·split at h
  ·simp at h
  split at h
  case h_2=>simp at h
  rename_i hi
  cases h
  unfold fU at hi
  split at hi
  case h_2=>simp at hi
  split at hi
  ·simp at hi
  ·exact (hF _ _ _ _ _ _ _ _ hi hBd).1
omit [ar] in
theorem BU:∀ (l:List (Nat×bq)) (H:Heap) (q:Nat),bh H l q≠none→q∈l.map (·.1)∨H q≠none
 | [],H,q,h=>.inr h
 | (i,o)::l,H,q,h=>by
  rcases BU l _ q h with h|h
  ·exact .inl (by simp only[List.map_cons,List.mem_cons];exact .inr h)
  ·by_cases e:q=i
   ·subst e;exact .inl (by simp)
   ·rw[aA _ _ e] at h;exact .inr h
omit [ar] in
theorem kO {σ σ':St}{dst:Option Tmp}{v:AV}(h:σ.put dst v=some σ'):σ'.heap=σ.heap∧σ'.ids=σ.ids:=by
 cases dst with
 | none=>simp only[St.put,Option.some.injEq] at h;subst h;exact⟨rfl,rfl⟩
 | some d=>obtain⟨_,rfl⟩:=aj h;exact⟨rfl,rfl⟩
omit [ar] in
theorem Bw {σ σ':St}{id:Nat}{dst:Option Tmp}{e:NQ}(h:σ.IQ id dst e=some σ'):σ'.heap=bh σ.heap e.sets∧σ'.ids=σ.ids:=by
 unfold St.IQ at h
 cases hb:(e.new && !(bC σ.heap e.sets&&fK id e.sets)) with
 | true=>rw[hb] at h;simp at h
 | false=>rw[hb] at h;exact kO h
end
def XL (o:Oper):Bool:=
 match o.op with
 | .store _ _ _=>true
 | .next _ _=>true
 | .mapEntry _ _ _=>true
 | .entryStore _ _ _ _=>true
 | .mapUpdate _ _ _ _=>true
 | .call c=>match c.callee with
  | .builtin .append=>true
  | .builtin .clear=>true
  | _=>false
 | _=>false
def Vt (C:Cons)(o:Oper):Bool:=XL o||HP C o
theorem WS {P:Program}{C:Cons}{o:Oper}(h:Vt C o=true):Fp P o=true:=by
 obtain⟨dst,op,ty,pos,af,gd⟩:=o
 cases op<;>simp only[Vt,XL,HP,Bool.or_self,Bool.false_eq_true] at h<;>rfl
def Fc (m:List Nat)(o:Oper):Nat:=o.after.toList.foldl (fun s e=>cond (Region.binds .any e) (s ||| 2 ^ e.on ||| m.getD e.on 0) s) 0
def GR:List Oper→List Nat→List Nat
 | [],acc=>acc
 | o::l,acc=>GR l (acc++[Fc acc o])
def aB (ops:Array Oper):List Nat:=GR ops.toList []
def indep (P:Program)(C:Cons)(ops:Array Oper)(m:List Nat)(x i:Nat)(ox oi:Oper):Bool:=
 ox.apart ops oi && !(Nat.testBit (m.getD i 0) x) && !(Nat.testBit (m.getD x 0) i)
def Mh (P:Program)(C:Cons)(ops:Array Oper)(m:List Nat)(x i:Nat):Bool:=
 match ops[x]?,ops[i]? with
 | some ox,some oi=>Nat.testBit (m.getD i 0) x||indep P C ops m x i ox oi
 | _,_=>false
def Eh (o:Oper)(i:Nat):Bool:=o.after.toList.all fun e=>cond (Region.binds .any e) (mG e.on i) true
def bW (P:Program)(C:Cons)(ops:Array Oper)(m:List Nat):Bool:=
 P.follows .mixedOrders &&
 (List.range ops.size).all fun i=>match ops[i]? with
  | some o=>Nat.beq (m.getD i 0) (Fc m o)&&Eh o i&&(List.range i).all fun x=>Mh P C ops m x i
  | none=>false
def Yk (base n mask q:Nat):Bool:=cond (Nat.ble base q&&mG q (base+n * 16)) (Nat.testBit mask ((q-base) / 16)) true
def kY:AV→Option Nat
 | .ptr i _=>some i
 | .Fm i _ _ _=>some i
 | .sl i _=>some i
 | .sub i _ _ _=>some i
 | .mp i=>some i
 | _=>none
def iy (ρ:Operand→AV)(o:Oper):Option Nat:=
 match o.op with
 | .store _ a _=>kY (ρ a)
 | .next x _=>kY (ρ x)
 | .mapEntry _ x _=>kY (ρ x)
 | .mapUpdate _ x _ _=>kY (ρ x)
 | .entryStore _ x _ _=>kY (ρ x)
 | .call c=>match c.args.toList with
  | x::_=>kY (ρ x)
  | []=>none
 | _=>none
def xW (t b:Nat):List Oper→Nat→Option (Nat×Oper)
 | [],_=>none
 | o::l,n=>cond (mG n b) (match xW t b l (n+1) with
  | some r=>some r
  | none=>match o.dst with
   | some d=>cond (Nat.beq d t) (some (n,o)) none
   | none=>none) none
def Jq (P:Program)(ops:Array Oper)(σ:St):Nat→Nat→Operand→AV
 | 0,_,_=>.aq
 | n+1,b,.tmp t=>match xW t b ops.toList 0 with
  | some (y,o)=>match o.op with
   | .move x=>Jq P ops σ n y x
   | .assign x=>Jq P ops σ n y x
   | .nilCheck x=>Jq P ops σ n y x
   | .fieldAddr s x f=>match rG P σ.heap s (Jq P ops σ n y x) f with
    | some (.val _ v)=>v
    | _=>.aq
   | .indexAddr t x i=>match Gl P σ.heap t (Jq P ops σ n y x) (Jq P ops σ n y i) with
    | some (.val _ v)=>v
    | _=>.aq
   | _=>.aq
  | none=>σ.tmps t
 | _,_,x=>σ.val x
def xg (P:Program)(ops:Array Oper)(base:Nat)(σ:St):Nat→Nat→Operand→Option Nat
 | 0,_,_=>none
 | n+1,b,.tmp t=>match xW t b ops.toList 0 with
  | some (y,o)=>match o.op with
   | .alloc _=>some (base+y * 16)
   | .box _ _=>some (base+y * 16)
   | .move x=>xg P ops base σ n y x
   | .assign x=>xg P ops base σ n y x
   | .fieldAddr _ x _=>xg P ops base σ n y x
   | .indexAddr _ x _=>xg P ops base σ n y x
   | .load _ x=>match Jq P ops σ n y x with
    | .ptr j off=>match σ.heap j with
     | some (.box _ cs)=>match cs[off]? with
      | some a=>kY a
      | none=>none
     | _=>none
    | _=>none
   | .nilCheck x=>xg P ops base σ n y x
   | .call c=>match c.args.toList with
    | x::_=>match xg P ops base σ n y x with
     | some j=>some j
     | none=>some (base+y * 16)
    | []=>none
   | _=>none
  | none=>kY (σ.tmps t)
 | _,_,_=>none
def aen (P:Program)(C:Cons)(ops:Array Oper)(base:Nat)(σ:St)(i:Nat)(o:Oper):Option Nat:=
 cond (Vt C o) (match o.op with
  | .store _ a _=>xg P ops base σ 9 i a
  | .next x _=>xg P ops base σ 9 i x
  | .mapEntry _ x _=>xg P ops base σ 9 i x
  | .mapUpdate _ x _ _=>xg P ops base σ 9 i x
  | .entryStore _ x _ _=>xg P ops base σ 9 i x
  | .call c=>match c.args.toList with
   | x::_=>xg P ops base σ 9 i x
   | []=>none
  | _=>none) none
def aet (P:Program)(C:Cons)(ops:Array Oper)(base:Nat)(σ:St):List (Option Nat):=
 (List.range ops.size).map fun i=>match ops[i]? with
  | some o=>aen P C ops base σ i o
  | none=>none
def eqO:Option Nat→Nat→Bool
 | some i,j=>Nat.beq i j
 | none,_=>false
def DB (P:Program)(ops:Array Oper)(m:List Nat)(i:Nat):Bool:=
 (List.range ops.size).all fun x=>Nat.beq x i||Nat.testBit (m.getD i 0) x||Nat.testBit (m.getD x 0) i||(match ops[x]? with
  | some ox=>!(Fp P ox)
  | none=>true)
def mD (P:Program)(C:Cons)(ops:Array Oper)(m:List Nat)(W:List (Option Nat))(i:Nat)(σ:St):Bool:=
 match ops[i]? with
 | some o=>cond (Vt C o) (match iy σ.val o with
  | some j=>eqO (W.getD i none) j||DB P ops m i
  | none=>true) true
 | none=>true
def aee (P:Program)(C:Cons)(ops:Array Oper)(m:List Nat):Bool:=
 (List.range ops.size).any fun i=>match ops[i]? with
  | some o=>Vt C o && !(DB P ops m i)
  | none=>false
def qG (P:Program)(C:Cons)(ops:Array Oper)(m:List Nat)(base:Nat)(σ:St):List (Option Nat):=
 cond (aee P C ops m) (aet P C ops base σ) []
def AE (L:List Nat)(i:Nat):Bool:=L.any (Nat.beq i)
def sY (m:List Nat)(W:List (Option Nat))(n i:Nat):List Nat:=
 match W with
 | []=>[]
 | _::_=>(List.range n).filterMap fun x=>cond (Nat.beq x i||Nat.testBit (m.getD i 0) x||Nat.testBit (m.getD x 0) i) none (W.getD x none)
def cu (base n mask:Nat)(ot:List Nat)(H:Heap):Heap:=fun q=>cond (Yk base n mask q && !AE ot q) (H q) none
def Ay (P:Program)(C:Cons)(ops:Array Oper)(m:List Nat)(W:List (Option Nat))(base i:Nat)(σ:St):Option St:=
 cond (mD P C ops m W i σ) (ir P C dX ops (cu base ops.size (m.getD i 0) (sY m W ops.size i)) (base+i * 16) i σ) none
def dQ (P:Program)(C:Cons)(ops:Array Oper)(m:List Nat)(W:List (Option Nat))(base:Nat):List Nat→St→Option St
 | [],σ=>some σ
 | i::l,σ=>match Ay P C ops m W base i σ with
  | some σ'=>dQ P C ops m W base l σ'
  | none=>none
def fL (P:Program)(C:Cons)(ops:Array Oper)(m:List Nat)(W:List (Option Nat))(base:Nat):List Nat→St→List Nat
 | [],_=>[]
 | i::l,σ=>ef P C ops (cu base ops.size (m.getD i 0) (sY m W ops.size i) σ.heap) (base+i * 16) i σ++(match Ay P C ops m W base i σ with
  | some σ'=>fL P C ops m W base l σ'
  | none=>[])
def wN (P:Program)(C:Cons)(ops:Array Oper)(base:Nat)(σ:St):Option St:=
 cond (bW P C ops (aB ops)) (match dQ P C ops (aB ops) (qG P C ops (aB ops) base σ) base (List.range ops.size) σ with
  | some σ'=>some (σ'.ay (fL P C ops (aB ops) (qG P C ops (aB ops) base σ) base (List.range ops.size) σ))
  | none=>none) none
def qz (P:Program)(C:Cons)(F:j3)(ops:Array Oper)(base:Nat):List Nat→St→Option (Ex×St)
 | [],σ=>some (.dJ,σ)
 | i::l,σ=>match gp P C F ops (fun H=>H) (base+i * 16) i σ with
  | some (x,H',L')=>some (.gh x,⟨σ.nt,σ.tmps,H',L'⟩)
  | none=>match ir P C F ops (fun H=>H) (base+i * 16) i σ with
   | some σ'=>qz P C F ops base l (σ'.ay (ef P C ops σ.heap (base+i * 16) i σ))
   | none=>none
def Ex.to:Ex→Exit
 | .dJ=>.normal
 | .exit i=>.exit i
 | .goto l=>.goto l
 | .ret=>.ret
 | .gh _=>.normal
def Ex.Is (μ:Mu)(S:an)(H:Heap)(e:Ex)(x:Exit):Prop:=
 match e with
 | .gh v=>∃ u,x = .panic (Fi u)∧VR μ S H v u
 | e=>x=e.to
def zy (C:Cons)(ops:Array Oper)(m:List Nat):Option Nat:=
 match ops[ops.size-1]? with
 | some o=>match o.op with
  | .call c=>match c.callee with
   | .value (.func k)=>cond ((C.rB k).isNone&&(C.aU k).isNone&&(List.range (ops.size-1)).all fun x=>Nat.testBit (m.getD (ops.size-1) 0) x) (some (ops.size-1)) none
   | _=>none
  | _=>none
 | none=>none
def oa (P:Program)(C:Cons)(F:j3)(ops:Array Oper)(base z:Nat)(σ:St):Option (Ex×St):=
 match gp P C F ops (fun H=>H) (base+z * 16) z σ with
 | some (x,H',L')=>some (.gh x,⟨σ.nt,σ.tmps,H',L'⟩)
 | none=>match ir P C F ops (fun H=>H) (base+z * 16) z σ with
  | some σ'=>some (.dJ,σ'.ay (ef P C ops σ.heap (base+z * 16) z σ))
  | none=>none
def qW (P:Program)(C:Cons)(F:j3)(ops:Array Oper)(base:Nat)(σ:St):Option (Ex×St):=
 match zy C ops (aB ops) with
 | none=>match wN P C ops base σ with
  | some σ'=>some (.dJ,σ')
  | none=>none
 | some z=>cond (bW P C ops (aB ops)) (match dQ P C ops (aB ops) (qG P C ops (aB ops) base σ) base (List.range z) σ with
  | some σ'=>oa P C F ops base z (σ'.ay (fL P C ops (aB ops) (qG P C ops (aB ops) base σ) base (List.range z) σ))
  | none=>none) none
def gZ (P:Program)(C:Cons)(ops:Array Oper)(Hh:Heap)(id:Nat)(o:Oper)(σ:St):Option NQ:=
 match want ops σ o with
 | some true=>bn P C Hh id o σ.val
 | some false=>some ⟨[],false,.lit undef⟩
 | none=>none
theorem gx {P:Program}{C:Cons}{ops:Array Oper}{hide:Heap→Heap}{id i:Nat}{σ:St}{o:Oper}(ho:ops[i]? = some o) :
  ir P C dX ops hide id i σ=match gZ P C ops (hide σ.heap) id o σ with
   | some e=>σ.IQ id o.dst e
   | none=>none:=by
 unfold ir gZ
 rw[ho]
 simp only
 cases hw:want ops σ o with
 | none=>rfl
 | some b=>
  cases b with
  | true=>
   simp only
   cases he:bn P C (hide σ.heap) id o σ.val with
   | some e=>rfl
   | none=>
    have:fU P C dX (hide σ.heap) id o σ.val σ.heap σ.ids=none:=by
     unfold fU;split<;>first|rfl|(split<;>rfl)
    simp only[this]
  | false=>rfl
section
variable [ar]{P:Program}{C:Cons}{ops:Array Oper}{σ σ' σ1 σ2:St}{H H':Heap}
omit [ar] in
theorem val_congr {x:Operand}(hn:σ'.nt=σ.nt)(h:∀ t,x = .tmp t→σ'.tmps t=σ.tmps t):σ'.val x=σ.val x:=by
 cases x with
 | tmp t=>simp only[St.val,hn,h t rfl]
 | _=>rfl
omit [ar] in
theorem rF {o:Oper}(hn:σ'.nt=σ.nt)(h:∀ t,t∈o.looksAt ops→σ'.tmps t=σ.tmps t):want ops σ' o=want ops σ o:=by
 unfold want
 cases hg:o.guard with
 | none=>rfl
 | some p=>
  obtain⟨j,b⟩:=p
  simp only
  cases hj:ops[j]? with
  | none=>rfl
  | some g=>
   simp only
   cases hd:g.dst with
   | none=>rfl
   | some d=>
    simp only
    have:σ'.val (.tmp d)=σ.val (.tmp d):=val_congr hn fun t e=>by
     cases e
     refine h d ?_
     unfold Oper.looksAt
     rw[hg];simp[hj,hd]
    rw[this]
omit [ar] in
theorem Bv {o:Oper}{id:Nat}{ρ ρ':Operand→AV}(h:∀ x∈o.op.operands,ρ' x=ρ x):sem P H id o ρ'=sem P H id o ρ:=by
 obtain⟨dst,op,ty,pos,af,gd⟩:=o
 cases op<;>simp only[Op.operands] at h<;>simp only[sem]
 case move x=>rw[h x (by simp)]
 case assign x=>rw[h x (by simp)]
 case pick c a b=>rw[h c (by simp),h a (by simp),h b (by simp)]
 case box t x=>rw[h x (by simp)]
 case load t x=>rw[h x (by simp)]
 case store t a x=>rw[h a (by simp),h x (by simp)]
 case fieldAddr s x f=>rw[h x (by simp)]
 case field s x f=>rw[h x (by simp)]
 case nilCheck x=>rw[h x (by simp)]
 case binOp op t x y yt=>rw[h x (by simp),h y (by simp)]
 case unOp op t x=>rw[h x (by simp)]
 case makeInterface t x=>rw[h x (by simp)]
 case typeAssert x s t ok=>rw[h x (by simp)]
 case convert s d x=>rw[h x (by simp)]
 case build t parts=>
  have e1:(parts.toList.map fun p=>(p.1,ρ' p.2))=parts.toList.map fun p=>(p.1,ρ p.2):=List.map_congr_left fun p hp=>by rw[h p.2 (by simp;exact⟨p.1,by simpa using hp⟩)]
  rw[e1]
 case buildSlice t n parts=>
  have e1:(parts.toList.map fun p=>(p.1,ρ' p.2))=parts.toList.map fun p=>(p.1,ρ p.2):=List.map_congr_left fun p hp=>by rw[h p.2 (by simp;exact⟨p.1,by simpa using hp⟩)]
  rw[e1]
 case makeSlice t l c=>rw[h l (by simp),h c (by simp)]
 case slice t x lo hi mx=>
  have e:∀ o:Option Operand,(∀ y,o=some y→ρ' y=ρ y)→o.map ρ'=o.map ρ:=by
   intro o ho;cases o with
   | none=>rfl
   | some y=>simp[ho y rfl]
  rw[h x (by simp),e lo (fun y e=>h y (by subst e;simp)),e hi (fun y e=>h y (by subst e;simp)),e mx (fun y e=>h y (by subst e;simp))]
 case range t x=>rw[h x (by simp)]
 case next x s=>rw[h x (by simp)]
 case extract t i=>rw[h t (by simp)]
 case index t x i=>rw[h x (by simp),h i (by simp)]
 case mapEntry t m k=>rw[h m (by simp),h k (by simp)]
 case mapUpdate t m k x=>rw[h m (by simp),h k (by simp),h x (by simp)]
 case entryStore t m s x=>rw[h m (by simp),h s (by simp),h x (by simp)]
 case lookup t x k ok=>rw[h x (by simp),h k (by simp)]
 case indexAddr t x i=>rw[h x (by simp),h i (by simp)]
 case makeFunc fn first caps=>
  have e1:first.toList.map ρ'=first.toList.map ρ:=List.map_congr_left fun x hx=>h x (by simp;exact .inl (by simpa using hx))
  have e2:caps.toList.map ρ'=caps.toList.map ρ:=List.map_congr_left fun x hx=>h x (by simp;exact .inr (by simpa using hx))
  rw[e1,e2]
 case call c=>
  obtain⟨callee,args,argTypes⟩:=c
  simp only[Call.operands] at h
  have e1:args.toList.map ρ'=args.toList.map ρ:=List.map_congr_left fun x hx=>h x (by simp;exact .inr (by simpa using hx))
  cases callee with
  | value f=>simp only[e1];rw[h f (by simp)]
  | invoke r m=>rfl
  | builtin b=>
   cases b<;>try rfl
   ·simp only
    split
    ·rename_i t u s x ht hx
     rw[h x (by simp;exact (by rw[← Array.mem_toList_iff,hx];simp)),h s (by simp;exact (by rw[← Array.mem_toList_iff,hx];simp))]
    ·rfl
   ·simp only
    split
    ·rename_i t x ht hx
     rw[h x (by simp;exact (by rw[← Array.mem_toList_iff,hx];simp))]
    ·rfl
   ·simp only
    split
    ·rename_i t x ht hx
     rw[h x (by simp;exact (by rw[← Array.mem_toList_iff,hx];simp))]
    ·rfl
   ·simp only
    split
    ·rename_i x y hx
     rw[h x (by simp;exact (by rw[← Array.mem_toList_iff,hx];simp)),h y (by simp;exact (by rw[← Array.mem_toList_iff,hx];simp))]
    ·rfl
   ·simp only
    split
    ·rename_i x y hx
     rw[h x (by simp;exact (by rw[← Array.mem_toList_iff,hx];simp)),h y (by simp;exact (by rw[← Array.mem_toList_iff,hx];simp))]
    ·rfl
omit [ar] in
theorem Sl {o:Oper}{id:Nat}{ρ:Operand→AV}(h:Fp P o=false):sem P H id o ρ=sem P H' id o ρ:=by
 obtain⟨dst,op,ty,pos,af,gd⟩:=o
 cases op<;>simp only[Fp,reduceCtorEq] at h<;>try rfl
 case convert s d x=>
  unfold sem
  simp only
  split
  ·rfl
  ·unfold QI
   split
   ·rename_i hs _
    rw[hs] at h;simp at h
   ·rfl
omit [ar] in
theorem LH {o:Oper}{id:Nat}{ρ:Operand→AV}(h:Fp P o=false):bn P C H id o ρ=bn P C H' id o ρ:=by
 unfold bn
 rw[Sl (H':=H') h]
 cases hs:sem P H' id o ρ with
 | none=>rfl
 | some out=>
  cases out with
  | call k as=>
   have hu:jt C o k=none:=by
    cases k with
    | jZ i=>rfl
    | fn k=>
    show BM C o k=none
    unfold BM
    unfold Fp at h
    split
    ·rename_i c hc;rw[hc] at h;simp at h
    ·rfl
   simp only[h,hu]
  | _=>rfl
omit [ar] in
theorem wO {o:Oper}{id:Nat}{ρ ρ':Operand→AV}(h:∀ x∈o.op.operands,ρ' x=ρ x):bn P C H id o ρ'=bn P C H id o ρ:=by
 unfold bn
 rw[Bv h]
omit [ar] in
theorem nE {o:Oper}{id:Nat}(hn:σ'.nt=σ.nt)(h:∀ t,t∈o.looksAt ops→σ'.tmps t=σ.tmps t)(hH:Fp P o=true→H'=H) :
  gZ P C ops H' id o σ'=gZ P C ops H id o σ:=by
 unfold gZ
 rw[rF hn h]
 have:bn P C H' id o σ'.val=bn P C H id o σ.val:=by
  have e1:bn P C H' id o σ'.val=bn P C H' id o σ.val:=wO fun x hx=>val_congr hn fun t e=>by
   subst e
   refine h t ?_
   unfold Oper.looksAt
   exact List.mem_append.2 (.inl (List.mem_filterMap.2 ⟨.tmp t,by simpa using hx,rfl⟩))
  rw[e1]
  cases hr:Fp P o with
  | true=>rw[hH hr]
  | false=>exact LH hr
 rw[this]
end
def ids (l:List (Nat×bq)):List Nat:=l.map (·.1)
theorem fZ:∀ (l:List (Nat×bq)) (H:Heap) (q:Nat),q∉ids l→bh H l q=H q
 | [],H,q,_=>rfl
 | (i,o)::l,H,q,h=>by
  simp only[ids,List.map_cons,List.mem_cons,not_or] at h
  rw[bh,fZ l _ q h.2,aA _ _ h.1]
theorem zw:∀ (l:List (Nat×bq)) (H:Heap) (i:Nat) (o:Option bq),i∉ids l→bh (aU H i o) l=aU (bh H l) i o
 | [],H,i,o,_=>rfl
 | (j,p)::l,H,i,o,h=>by
  simp only[ids,List.map_cons,List.mem_cons,not_or] at h
  rw[bh,bh,Gs _ _ _ h.1,zw l _ i o h.2]
theorem vu:∀ (l k:List (Nat×bq)) (H:Heap),(∀ i∈ids l,i∉ids k)→bh (bh H l) k=bh (bh H k) l
 | [],k,H,_=>rfl
 | (i,o)::l,k,H,h=>by
  rw[bh,bh,vu l k _ (fun j hj=>h j (by simp[ids] at hj ⊢;exact .inr hj)),zw k H i (some o) (h i (by simp[ids]))]
theorem l5:∀ (l:List (Nat×bq)) (H H':Heap),(∀ i∈ids l,H' i=H i)→bC H' l=bC H l
 | [],H,H',_=>rfl
 | (i,o)::l,H,H',h=>by
  have h0:H' i=H i:=h i (by simp[ids])
  simp only[bC,h0]
  rw[l5 l (aU H i (some o)) (aU H' i (some o)) (fun j hj=>by
   by_cases e:j=i
   ·subst e;rw[ax,ax]
   ·rw[aA _ _ e,aA _ _ e];exact h j (by simp[ids] at hj ⊢;exact .inr hj))]
theorem qB:∀ (l:List (Nat×bq)) (H:Heap),bC H l=true→∀ i∈ids l,H i=none
 | [],H,_,i,hi=>by simp[ids] at hi
 | (j,o)::l,H,h,i,hi=>by
  simp only[bC,Bool.and_eq_true,Option.isNone_iff_eq_none] at h
  simp only[ids,List.map_cons,List.mem_cons] at hi
  rcases hi with rfl|hi
  ·exact h.1
  ·have:=qB l _ h.2 i hi
   by_cases e:i=j
   ·subst e;exact h.1
   ·rw[aA _ _ e] at this;exact this
theorem jo:∀ {l:List (Nat×bq)} {id:Nat},fK id l=true→∀ i∈ids l,id≤i∧i<id+16
 | [],id,_,i,hi=>by simp[ids] at hi
 | (j,o)::l,id,h,i,hi=>by
  simp only[fK,Bool.and_eq_true] at h
  simp only[ids,List.map_cons,List.mem_cons] at hi
  rcases hi with rfl|hi
  ·exact⟨Nat.le_of_ble_eq_true h.1.1,cG h.1.2⟩
  ·exact jo h.2 i hi
def YB (C:Cons)(Hh:Heap)(σ:St)(id:Nat)(o:Oper)(e:NQ):Prop:=
 e.sets=[]∨e.new=true∨(Vt C o=true∧∃ j ob,e.sets=[(j,ob)]∧(Hh j).isSome=true∧iy σ.val o=some j)
theorem O4 {P:Program}{H:Heap}{t:TypeId}{a x:AV}{c:Bool}{j:Nat}{ob:bq}{v:AV}(h:qS P H t a x=some (.wr c j ob v)):(H j).isSome=true∧kY a=some j:=by
 unfold qS at h
 split at h
 ·split at h
  ·rename_i hH
   split at h
   ·have:=(aj h).2
    cases this
    exact⟨by rw[hH];rfl,rfl⟩
   ·simp at h
  ·simp at h
 ·split at h
  ·rename_i hH
   split at h
   ·split at h
    ·have:=(aj h).2
     cases this
     exact⟨by rw[hH];rfl,rfl⟩
    ·simp at h
   ·simp at h
  ·simp at h
 ·simp at h
theorem Mo {P:Program}{H:Heap}{id t:Nat}{s x:AV}{c:Bool}{j:Nat}{ob:bq}{v:AV}(h:jJ P H id t s x=some (.wr c j ob v)):(H j).isSome=true∧kY s=some j:=by
 unfold jJ at h
 split at h
 case h_2=>simp at h
 split at h
 case h_2=>simp at h
 split at h
 case h_2=>simp at h
 split at h
 case h_2=>simp at h
 have h:=(aD h).2
 split at h
 ·split at h
  case h_2=>simp at h
  rename_i hH
  split at h
  case h_2=>simp at h
  have:=(aj h).2
  cases this
  exact⟨by rw[hH];rfl,rfl⟩
 ·split at h
  case h_2=>simp at h
  split at h
  case h_2=>simp at h
  have:=(aj h).2
  simp at this
 ·simp at h
theorem J6 {P:Program}{H:Heap}{id t:Nat}{s x:AV}{c:Bool}{j:Nat}{ob:bq}{v:AV}(h:gR P H id t s x=some (.wr c j ob v)):(H j).isSome=true∧kY s=some j:=by
 unfold gR at h
 split at h
 case h_2=>exact Mo h
 split at h
 case h_2=>simp at h
 split at h
 case h_2=>simp at h
 rename_i hH
 split at h
 case h_2=>simp at h
 have h:=(aj h).2
 cases h
 exact⟨by rw[hH];rfl,rfl⟩
theorem vG {u:dA}{Hh:Heap}{i g:Nat}{part:Option Nat}{rest:List AV}{r:bq×AV}(h:jR u Hh i g part rest=some r):(Hh i).isSome=true:=by
 unfold jR at h
 split at h
 ·rename_i hH;rw[hH];rfl
 ·simp at h
theorem HR {u:dA}{Hh:Heap}{as:List AV}{i:Nat}{o:bq}{v:AV}(h:k9 u Hh as=some (i,o,v)):(Hh i).isSome=true∧∃ x r,as=x::r∧kY x=some i:=by
 unfold k9 at h
 split at h
 ·split at h
  ·rename_i hr;cases h;exact⟨vG hr,_,_,rfl,rfl⟩
  ·simp at h
 ·obtain⟨_,h⟩:=aD h
  split at h
  ·rename_i hr;cases h;exact⟨vG hr,_,_,rfl,rfl⟩
  ·simp at h
 ·simp at h
def Out.writes:Out→Option Nat
 | .wr _ i _ _=>some i
 | .Vr _ i _ _ _=>some i
 | _=>none
theorem Am {P:Program}{H:Heap}{id:Nat}{o:Oper}{ρ:Operand→AV}{out:Out}{j:Nat}(h:sem P H id o ρ=some out)(hw:out.writes=some j) :
  XL o=true∧(H j).isSome=true∧iy ρ o=some j:=by
 obtain⟨dst,op,ty,pos,af,gd⟩:=o
 unfold sem at h
 have no:∀ {o:Out} {a:Prop},some o=some out→o.writes=none→a:=by
  intro o a h1 h2
  cases h1;rw[h2] at hw;simp at hw
 cases op<;>simp only[reduceCtorEq] at h
 case move x=>exact no h rfl
 case assign x=>exact no h rfl
 case makeFunc fn first caps=>exact no h rfl
 case store t a x=>
  cases out<;>simp only[Out.writes,reduceCtorEq,Option.some.injEq] at hw
  ·subst hw;exact⟨rfl,O4 h⟩
  ·unfold qS at h;(repeat' split at h)<;>first|(simp at h;done)|(have:=(aj h).2;simp at this)
 case next x s=>
  refine⟨rfl,?_⟩
  unfold IK at h
  split at h
  case h_2=>simp at h
  split at h
  case h_2=>simp at h
  rename_i hH
  cases h
  simp only[Out.writes,Option.some.injEq] at hw
  subst hw
  exact⟨by rw[hH];rfl,by simp only[iy];simp_all [kY]⟩
 case pick c a b=>split at h<;>first|exact no h rfl|simp at h
 case alloc t=>unfold Ai at h;(repeat' split at h)<;>first|exact no h rfl|simp at h
 case box t x=>unfold Ss at h;(repeat' split at h)<;>first|exact no h rfl|simp at h
 case load t a=>
  unfold BS at h;(repeat' split at h)<;>first|exact no h rfl|(simp at h;done)|skip
  all_goals (obtain⟨_,h⟩:=aD h;(repeat' split at h)<;>first|exact no h rfl|simp at h)
 case fieldAddr s x f=>
  unfold rG at h
  split at h
  case h_2=>simp at h
  split at h
  case h_2=>simp at h
  split at h
  case h_2=>simp at h
  rename_i ti _
  cases h0:Nat.beq ti.size 0<;>rw[h0] at h<;>simp only[cond_true,cond_false,reduceCtorEq] at h
  (repeat' split at h)<;>first|exact no h rfl|(simp at h;done)|(exact no (aD h).2 rfl)
 case field s x f=>unfold Bh at h;(repeat' split at h)<;>first|exact no h rfl|simp at h
 case nilCheck x=>unfold Qz at h;(repeat' split at h)<;>first|exact no h rfl|(simp at h;done)|(exact no (aD h).2 rfl)
 case binOp op t x y yt=>
  unfold Qs at h;split at h
  ·split at h<;>first|exact no h rfl|simp at h
  ·have h:=(cM h).2
   (repeat' split at h)<;>first|exact no h rfl|simp at h
  ·(repeat' split at h)<;>first|exact no h rfl|simp at h
  ·simp at h
 case unOp op t x=>unfold oUn at h;(repeat' split at h)<;>first|exact no h rfl|simp at h
 case makeInterface t x=>unfold TY at h;exact no (aD h).2 rfl
 case typeAssert x s t ok=>unfold sx at h;(repeat' split at h)<;>first|exact no h rfl|(simp at h;done)|(exact no (aD h).2 rfl)
 case convert s d x=>
  split at h
  ·unfold Ig at h;(repeat' split at h)<;>first|exact no h rfl|simp at h
  ·unfold QI at h;(repeat' split at h)<;>first|exact no h rfl|simp at h
 case build t parts=>unfold zL at h;(repeat' split at h)<;>first|exact no h rfl|simp at h
 case buildSlice t n parts=>
  unfold eO at h
  split at h
  case h_2=>simp at h
  split at h
  case h_3=>simp at h
  case h_1=>
   split at h
   case h_2=>simp at h
   split at h
   case h_2=>simp at h
   have h:=(aD h).2
   split at h
   case h_2=>simp at h
   split at h
   ·exact no h rfl
   ·simp at h
  case h_2=>
   split at h
   case h_2=>simp at h
   split at h
   case h_2=>simp at h
   have h:=(aD h).2
   split at h
   ·exact no h rfl
   ·simp at h
 case makeSlice t l c=>
  unfold Ji at h
  (repeat' split at h)<;>first|exact no h rfl|(simp at h;done)|(exact no (aD h).2 rfl)
 case slice t x lo hi mx=>
  unfold sg Qq r0 ve at h
  (repeat' split at h)<;>first|exact no h rfl|(simp at h;done)|(exact no (aD h).2 rfl)
 case range t x=>unfold zh at h;(repeat' split at h)<;>first|exact no h rfl|simp at h
 case extract t i=>unfold OZ at h;(repeat' split at h)<;>first|exact no h rfl|simp at h
 case index t x i=>unfold uv at h;(repeat' split at h)<;>first|exact no h rfl|simp at h
 case makeMap t r=>
  cases r with
  | none=>unfold rY at h;exact no (aD h).2 rfl
  | some _=>simp at h
 case lookup t x k ok=>unfold sC at h;(repeat' split at h)<;>first|(simp at h;done)|(exact no (aD h).2 rfl)
 case mapEntry t m k=>
  refine⟨rfl,?_⟩
  unfold kR at h
  split at h
  case h_2=>simp at h
  split at h
  case h_2=>simp at h
  rename_i hH
  have h:=(aj h).2
  subst h
  simp only[Out.writes,Option.some.injEq] at hw
  subst hw
  exact⟨by rw[hH];rfl,by simp only[iy];simp_all [kY]⟩
 case mapUpdate t m k x=>
  refine⟨rfl,?_⟩
  unfold iU at h
  split at h
  case h_2=>simp at h
  split at h
  case h_2=>simp at h
  rename_i hH
  have h:=(aj h).2
  subst h
  simp only[Out.writes,Option.some.injEq] at hw
  subst hw
  exact⟨by rw[hH];rfl,by simp only[iy];simp_all [kY]⟩
 case entryStore t m s x=>
  refine⟨rfl,?_⟩
  unfold gL at h
  split at h
  case h_2=>simp at h
  split at h
  case h_2=>simp at h
  rename_i hH
  cases h
  simp only[Out.writes,Option.some.injEq] at hw
  subst hw
  exact⟨by rw[hH];rfl,by simp only[iy];simp_all [kY]⟩
 case indexAddr t x i=>unfold Gl oAt at h;(repeat' split at h)<;>first|exact no h rfl|(simp at h;done)|(exact no (aD h).2 rfl)
 case call c=>
  obtain⟨callee,args,argTypes⟩:=c
  simp only at h
  split at h
  ·split at h
   ·unfold Gg Ph at h;(repeat' split at h)<;>first|exact no h rfl|(simp at h;done)|(exact no (aD h).2 rfl)
   ·simp at h
  ·split at h
   ·refine⟨rfl,?_⟩
    unfold yS at h
    split at h
    case h_2=>simp at h
    split at h
    case h_2=>simp at h
    split at h
    case h_2=>simp at h
    rename_i hH
    (repeat' split at h)<;>first|(simp at h;done)|skip
    all_goals
     have h:=(aj h).2
     subst h
     simp only[Out.writes,Option.some.injEq] at hw
     subst hw
     exact⟨by rw[hH];rfl,by simp only[iy];simp_all [kY]⟩
   ·simp at h
  ·split at h
   ·refine⟨rfl,?_⟩
    have h:=(aD h).2
    cases out<;>simp only[Out.writes,reduceCtorEq,Option.some.injEq] at hw
    ·subst hw;obtain⟨g1,g2⟩:=J6 h;exact⟨g1,by simp only[iy];simp_all⟩
    ·exfalso
     unfold gR at h
     split at h
     ·(repeat' split at h)<;>first|(simp at h;done)|(have:=(aj h).2;simp at this)
     unfold jJ at h
     split at h
     case h_2=>simp at h
     split at h
     case h_2=>simp at h
     split at h
     case h_2=>simp at h
     split at h
     case h_2=>simp at h
     have h:=(aD h).2
     (repeat' split at h)<;>first|(simp at h;done)|(have:=(aj h).2;simp at this)
   ·simp at h
  ·split at h
   ·unfold Xw at h
    split at h
    ·exact no (aD h).2 rfl
    ·simp at h
   ·simp at h
  ·split at h
   ·unfold Xn at h
    split at h
    ·exact no (aD h).2 rfl
    ·simp at h
   ·simp at h
  ·unfold BL at h
   split at h
   case h_3=>simp at h
   case h_2=>exact no h rfl
   split at h
   case h_2=>simp at h
   split at h
   case h_2=>simp at h
   rename_i fn _ _ _ _
   cases hn:fn.name == "runtime.NumGoroutine" <;> rw[hn] at h<;>simp only[cond_true,cond_false,reduceCtorEq] at h
   exact no h rfl
  ·simp at h
theorem Su {P:Program}{H:Heap}{id:Nat}{o:Oper}{ρ:Operand→AV}{c:Bool}{j:Nat}{ob:bq}{v u:AV}(h:sem P H id o ρ=some (.wr c j ob v)∨sem P H id o ρ=some (.Vr c j ob v u)) :
  XL o=true∧(H j).isSome=true∧iy ρ o=some j:=by
 rcases h with h|h
 ·exact Am h rfl
 ·exact Am h rfl
theorem V9 {P:Program}{C:Cons}{H:Heap}{id:Nat}{o:Oper}{σ:St}{k:Callee}{as:List AV}{u:dA}{x:AV}{r:List AV}(hs:sem P H id o σ.val=some (.call k as))(hu:jt C o k=some u)(ha:as=x::r):iy σ.val o=kY x:=by
 cases k with
 | jZ i=>simp[jt] at hu
 | fn k=>
  simp only[jt] at hu
  unfold BM at hu
  split at hu
  case h_2=>simp at hu
  rename_i c hc
  split at hu
  case h_2=>simp at hu
  rename_i k' hk
  unfold sem at hs
  rw[hc] at hs
  simp only[hk] at hs
  have hv:σ.val (.func k') = .fn (.func k') [] []:=rfl
  rw[hv] at hs
  unfold BL at hs
  simp only at hs
  split at hs
  case h_2=>simp at hs
  split at hs
  case h_2=>simp at hs
  obtain⟨_,hs⟩:=cM hs
  simp only[Option.some.injEq,Out.call.injEq,List.nil_append,List.append_nil] at hs
  unfold iy
  rw[hc]
  simp only
  rw[← hs.2] at ha
  cases hl:c.args.toList with
  | nil=>rw[hl] at ha;simp at ha
  | cons a l=>
   rw[hl] at ha
   simp only[List.map_cons,List.cons.injEq] at ha
   simp only
   rw[ha.1]
theorem sr {P:Program}{C:Cons}{ops:Array Oper}{Hh:Heap}{id:Nat}{o:Oper}{σ:St}{e:NQ}(h:gZ P C ops Hh id o σ=some e):YB C Hh σ id o e:=by
 unfold gZ at h
 split at h
 ·unfold bn at h
  split at h
  ·obtain⟨_,rfl⟩:=aj h;exact .inl rfl
  ·obtain⟨_,rfl⟩:=aj h;exact .inr (.inl rfl)
  ·rename_i hs
   obtain⟨_,rfl⟩:=aj h
   obtain⟨h1,h2,h3⟩:=Su (u:=.aq) (.inl hs)
   exact .inr (.inr ⟨by unfold Vt;rw[h1];rfl,_,_,rfl,h2,h3⟩)
  ·rename_i c i ob v u hs
   obtain⟨h1,h2,h3⟩:=Su (.inr hs)
   cases c with
   | true=>simp only[cond_true,Option.some.injEq] at h;subst h;exact .inr (.inr ⟨by unfold Vt;rw[h1];rfl,_,_,rfl,h2,h3⟩)
   | false=>simp only[cond_false,Option.some.injEq] at h;subst h;exact .inl rfl
  ·split at h
   ·rename_i u hu
    split at h
    ·rename_i i ob v hout
     cases h
     obtain⟨g1,x,r,g2,g3⟩:=HR hout
     exact .inr (.inr ⟨by unfold Vt;rw[DK hu];simp,i,ob,rfl,g1,by rw[V9 (by assumption) hu g2];exact g3⟩)
    ·simp at h
   split at h
   ·unfold za at h
    split at h
    ·split at h
     ·cases h;exact .inr (.inl rfl)
     ·simp at h
    ·simp at h
   ·simp at h
  ·simp at h
 ·cases h;exact .inl rfl
 ·simp at h
section
variable [ar]{P:Program}{C:Cons}{F:j3}{r:Option Nat}{N:an}{Dt:Bool×List Deferred}{w w0:World}{μ μ':Mu}{S S':an}{B:Nat}{σ σ':St}{a:Act}{Q:Exit→Act→World→Prop}
omit [ar] in
theorem YI {Hh:Heap}{id:Nat}{o:Oper}{e:NQ}(sub:∀ i o,Hh i=some o→σ.heap i=some o)(hok:YB C Hh σ id o e)(hBd:Bd σ)(q:Nat)(hq:bh σ.heap e.sets q≠none) :
  q∈σ.ids++cond e.new (e.sets.map (·.1)) []:=by
 rcases BU _ _ q hq with h|h
 ·rcases hok with h0|h0|⟨h0,j,ob,hs,hj⟩
  ·rw[h0] at h;simp at h
  ·rw[h0];exact List.mem_append.2 (.inr h)
  ·obtain⟨hj,_⟩:=hj
   rw[hs] at h
   simp only[List.map_cons,List.map_nil,List.mem_singleton] at h
   subst h
   refine List.mem_append.2 (.inl (hBd q ?_))
   cases ho:Hh q with
   | none=>rw[ho] at hj;simp at hj
   | some o'=>rw[sub _ _ ho];simp
 ·exact List.mem_append.2 (.inl (hBd q h))
theorem lH (hF:dl P F){ops:Array Oper}{hide:Heap→Heap}(hs:∀ H i o,hide H i=some o→H i=some o){id i:Nat}(h:ir P C F ops hide id i σ=some σ')(hBd:Bd σ) :
  Bd (σ'.ay (ef P C ops (hide σ.heap) id i σ)):=by
 unfold ir at h
 unfold ef
 intro q hq
 simp only[St.ay] at hq ⊢
 cases ho:ops[i]? with
 | none=>rw[ho] at h;simp only[Option.some.injEq] at h;subst h;exact List.mem_append.2 (.inl (hBd q hq))
 | some o=>
  rw[ho] at h
  simp only at h ⊢
  cases hw:want ops σ o with
  | none=>rw[hw] at h;simp at h
  | some b=>
   rw[hw] at h
   cases b with
   | false=>
    simp only at h ⊢
    obtain⟨e1,e2⟩:=kO h
    rw[e1] at hq;rw[e2]
    exact List.mem_append.2 (.inl (hBd q hq))
   | true=>
    simp only at h ⊢
    cases he:bn P C (hide σ.heap) id o σ.val with
    | some e=>
     rw[he] at h
     simp only at h ⊢
     obtain⟨e1,e2⟩:=Bw h
     rw[e1] at hq;rw[e2]
     have hok:=sr (P:=P) (C:=C) (ops:=ops) (Hh:=hide σ.heap) (id:=id) (o:=o) (σ:=σ) (e:=e) (by unfold gZ;rw[hw];exact he)
     exact YI (hs σ.heap) hok hBd q hq
    | none=>
     rw[he] at h
     simp only at h ⊢
     split at h
     ·rename_i v H' L' hi
      obtain⟨e1,e2⟩:=kO (cM h).2
      rw[e1] at hq;rw[e2]
      unfold fU at hi
      split at hi
      ·split at hi
       ·simp at hi
       ·exact List.mem_append.2 (.inl ((hF _ _ _ _ _ _ _ _ hi hBd).1 q hq))
      ·simp at hi
     ·simp at h
theorem IL (hF:dl P F){ops:Array Oper}{base:Nat}:∀ (l:List Nat) (σ:St) (e:Ex) (σ':St),qz P C F ops base l σ=some (e,σ')→Bd σ→Bd σ'
 | [],σ,e,σ',h,hB=>by simp only[qz,Option.some.injEq,Prod.mk.injEq] at h;obtain⟨_,rfl⟩:=h;exact hB
 | i::l,σ,e,σ',h,hB=>by
  simp only[qz] at h
  split at h
  ·rename_i x H' L' h1
   cases h
   exact sL hF h1 hB
  ·split at h
   ·rename_i σ1 h1
    exact IL hF l _ e σ' h (lH hF (fun H i o h=>h) h1 hB)
   ·simp at h
omit [ar] in
theorem AR.ay {L:List Nat}(A:AR N Dt μ S σ a):AR N Dt μ S (σ.ay L) a:=⟨A.defers,A.size,A.tmp⟩
theorem JV (hC:bV P C)(hF:dl P F){ops:Array Oper}{base:Nat}:∀ (l:List Nat) (σ:St) (e:Ex) (σ':St) (a:Act) (w:World) (μ:Mu) (S:an),
  qz P C F ops base l σ=some (e,σ')→Bd σ→AR N Dt μ S σ a→Rel μ S σ.heap B w0 w →
  (∀ a' w' μ' S' x,AR N Dt μ' S' σ' a'→Rel μ' S' σ'.heap B w0 w'→Carry B μ S σ.heap μ' S' σ'.heap→e.Is μ' S' σ'.heap x→Q x a' w')→wpOpsIn (WF r) 0 P ops Q l a w
 | [],σ,e,σ',a,w,μ,S,h,hB,A,R,hK=>by
  simp only[qz,Option.some.injEq,Prod.mk.injEq] at h;obtain⟨rfl,rfl⟩:=h
  exact hK a w μ S .normal A R Carry.refl rfl
 | i::l,σ,e,σ',a,w,μ,S,h,hB,A,R,hK=>by
  simp only[qz] at h
  rw[wpOpsIn_cons]
  split at h
  ·rename_i x H' L' h1
   cases h
   exact px hF h1 hB A R fun w' μ' S' u A' R' C' hv=>hK a w' μ' S' (.panic (Fi u)) A' R' C' ⟨u,rfl,hv⟩
  split at h
  ·rename_i σ1 h1
   refine gE hC hF (fun H i o h=>h) h1 (.inl hB) A R fun a1 w1 μ1 S1 A1 R1 C1=>?_
   exact JV hC hF l _ e σ' a1 w1 μ1 S1 h (lH hF (fun H i o h=>h) h1 hB) A1.ay R1 fun a' w' μ' S' x A' R' C'=>hK a' w' μ' S' x A' R' (C1.trans C')
  ·simp at h
omit [ar] in
theorem iE {ops:Array Oper}{m:List Nat}{W:List (Option Nat)}{base:Nat}:∀ (l:List Nat) (σ σ':St) (L:List Nat),dQ P C ops m W base l σ=some σ'→Bd (σ.ay L)→Bd (σ'.ay (L++fL P C ops m W base l σ))
 | [],σ,σ',L,h,hB=>by
  simp only[dQ,Option.some.injEq] at h;subst h
  intro q hq
  have:=hB q hq
  simpa [fL,St.ay] using this
 | i::l,σ,σ',L,h,hB=>by
  simp only[dQ] at h
  split at h
  ·rename_i σ1 h1
   have hB1:Bd (σ1.ay (L++ef P C ops (cu base ops.size (m.getD i 0) (sY m W ops.size i) σ.heap) (base+i * 16) i σ)):=by
    intro q hq
    have h1':=h1
    unfold Ay at h1'
    obtain⟨_,h1'⟩:=aD h1'
    unfold ir at h1'
    unfold ef
    simp only[St.ay] at hq ⊢
    have old:σ.heap q≠none→q∈σ.ids++L:=fun h=>hB q h
    cases ho:ops[i]? with
    | none=>
     rw[ho] at h1';simp only[Option.some.injEq] at h1';subst h1'
     have:=old hq
     simp only[List.append_nil];exact this
    | some o=>
     rw[ho] at h1'
     simp only at h1' ⊢
     cases hw:want ops σ o with
     | none=>rw[hw] at h1';simp at h1'
     | some b=>
      rw[hw] at h1'
      cases b with
      | false=>
       simp only at h1' ⊢
       obtain⟨e1,e2⟩:=kO h1'
       rw[e1] at hq;rw[e2]
       simp only[List.append_nil];exact old hq
      | true=>
       simp only at h1' ⊢
       cases he:bn P C (cu base ops.size (m.getD i 0) (sY m W ops.size i) σ.heap) (base+i * 16) o σ.val with
       | some e=>
        rw[he] at h1'
        simp only at h1' ⊢
        obtain⟨e1,e2⟩:=Bw h1'
        rw[e1] at hq;rw[e2]
        have hok:=sr (P:=P) (C:=C) (ops:=ops) (Hh:=cu base ops.size (m.getD i 0) (sY m W ops.size i) σ.heap) (id:=base+i * 16) (o:=o) (σ:=σ) (e:=e) (by unfold gZ;rw[hw];exact he)
        have:=YI (σ:=σ.ay L) (id:=base+i * 16) (fun i o h=>by
         unfold cu at h
         cases hv:(Yk base ops.size _ i && !AE _ i) with
         | true=>rw[hv] at h;exact h
         | false=>rw[hv] at h;simp at h) hok hB q hq
        rw[← List.append_assoc];exact this
       | none=>
        rw[he] at h1'
        simp only at h1'
        split at h1'
        ·rename_i hi
         unfold fU at hi
         split at hi
         ·split at hi
          ·simp at hi
          ·simp[dX] at hi
         ·simp at hi
        ·simp at h1'
   have:=iE l σ1 σ' _ h hB1
   simp only[fL,h1]
   rw[← List.append_assoc];exact this
  ·simp at h
omit [ar] in
theorem T8 {ops:Array Oper}{base:Nat}(h:wN P C ops base σ=some σ')(hB:Bd σ):Bd σ':=by
 unfold wN at h
 cases hr:bW P C ops (aB ops) with
 | false=>rw[hr] at h;simp at h
 | true=>
  rw[hr] at h
  simp only[cond_true] at h
  split at h
  ·rename_i σ1 h1
   cases h
   have:=iE (List.range ops.size) σ σ1 [] h1 (by intro q hq;have:=hB q hq;simpa [St.ay] using this)
   simpa using this
  ·simp at h
theorem Cd (hF:dl P F){ops:Array Oper}{base z:Nat}{e:Ex}(h:oa P C F ops base z σ=some (e,σ'))(hB:Bd σ):Bd σ':=by
 unfold oa at h
 split at h
 ·rename_i h1;cases h;exact sL hF h1 hB
 ·split at h
  ·rename_i σ1 h1;cases h;exact lH hF (fun H i o h=>h) h1 hB
  ·simp at h
theorem PA (hF:dl P F){ops:Array Oper}{base:Nat}{e:Ex}(h:qW P C F ops base σ=some (e,σ'))(hB:Bd σ):Bd σ':=by
 unfold qW at h
 split at h
 ·split at h
  ·rename_i h1;cases h;exact T8 h1 hB
  ·simp at h
 ·rename_i z hz
  obtain⟨_,h⟩:=aD h
  split at h
  ·rename_i σ1 h1
   have:=iE (List.range z) σ σ1 [] h1 (by intro q hq;have:=hB q hq;simpa [St.ay] using this)
   exact Cd hF h (by simpa using this)
  ·simp at h
end
section
variable [ar]{F:j3}{P:Program}{C:Cons}{ops:Array Oper}{σ σ' σ1 σ2:St}{m:List Nat}{W:List (Option Nat)}{base:Nat}
omit [ar] in
theorem gA {base n mask:Nat}{ot:List Nat}{H:Heap}{q:Nat}{o:bq}(h:cu base n mask ot H q=some o):Yk base n mask q=true∧H q=some o∧AE ot q=false:=by
 unfold cu at h
 cases hv:Yk base n mask q with
 | true=>
  rw[hv] at h
  cases ho:AE ot q with
  | true=>rw[ho] at h;simp at h
  | false=>rw[ho] at h;exact⟨rfl,h,rfl⟩
 | false=>rw[hv] at h;simp at h
omit [ar] in
theorem EP {n x i j:Nat}(hx:x<n)(hne:x≠i)(h1:Nat.testBit (m.getD i 0) x=false)(h2:Nat.testBit (m.getD x 0) i=false)(hW:W.getD x none=some j):AE (sY m W n i) j=true:=by
 cases W with
 | nil=>simp at hW
 | cons w0 W0=>
 unfold AE sY
 rw[List.any_eq_true]
 refine⟨j,List.mem_filterMap.2 ⟨x,List.mem_range.2 hx,?_⟩,by simp⟩
 have hb:Nat.beq x i=false:=by
  cases hb:Nat.beq x i with
  | false=>rfl
  | true=>exact absurd (Nat.eq_of_beq_eq_true hb) hne
 rw[hb,h1,h2]
 exact hW
omit [ar] in
theorem XI {i x:Nat}{ox:Oper}(hx:ops[x]? = some ox)(h:DB P ops m i=true)(hne:x≠i)(h1:Nat.testBit (m.getD i 0) x=false)(h2:Nat.testBit (m.getD x 0) i=false):Fp P ox=false:=by
 unfold DB at h
 have:=List.all_eq_true.1 h x (List.mem_range.2 (Array.getElem?_eq_some_iff.1 hx).1)
 have hb:Nat.beq x i=false:=by
  cases hb:Nat.beq x i with
  | false=>rfl
  | true=>exact absurd (Nat.eq_of_beq_eq_true hb) hne
 rw[hb,h1,h2,hx] at this
 simpa using this
omit [ar] in
theorem Cy {i j x:Nat}{o ox:Oper}(hi:ops[i]? = some o)(hx:ops[x]? = some ox)(h:mD P C ops m W i σ=true)(hw:Vt C o=true)(ht:iy σ.val o=some j)(hr:Fp P ox=true)(hne:x≠i)
  (h1:Nat.testBit (m.getD i 0) x=false) (h2:Nat.testBit (m.getD x 0) i=false):W.getD i none=some j:=by
 unfold mD at h
 rw[hi] at h
 simp only[hw,cond_true,ht,Bool.or_eq_true] at h
 rcases h with h|h
 ·cases hg:W.getD i none with
  | none=>rw[hg] at h;simp[eqO] at h
  | some k=>rw[hg] at h;simp only[eqO] at h;rw[Nat.eq_of_beq_eq_true h]
 ·rw[XI hx h hne h1 h2] at hr;simp at hr
omit [ar] in
theorem Jj {o:Oper}{ρ ρ':Operand→AV}(h:∀ x∈o.op.operands,ρ' x=ρ x):iy ρ' o=iy ρ o:=by
 obtain⟨dst,op,ty,pos,af,gd⟩:=o
 unfold iy
 cases op<;>simp only[Op.operands] at h<;>simp only
 case store t a x=>rw[h a (by simp)]
 case next x s=>rw[h x (by simp)]
 case mapEntry t m k=>rw[h m (by simp)]
 case mapUpdate t m k x=>rw[h m (by simp)]
 case entryStore t m s x=>rw[h m (by simp)]
 case call c=>
  cases hl:c.args.toList with
  | nil=>rfl
  | cons a l=>
   refine congrArg kY (h a ?_)
   have:a∈c.args:=by rw[← Array.mem_toList_iff,hl];simp
   unfold Call.operands
   cases c.callee<;>simp[this]
omit [ar] in
theorem oK {i:Nat}{o:Oper}(hi:ops[i]? = some o)(hn:σ'.nt=σ.nt)(h:∀ t,t∈o.looksAt ops→σ'.tmps t=σ.tmps t):mD P C ops m W i σ'=mD P C ops m W i σ:=by
 unfold mD
 rw[hi]
 simp only
 rw[Jj (ρ:=σ.val) (ρ':=σ'.val) fun x hx=>val_congr hn fun t e=>by
  subst e
  refine h t ?_
  unfold Oper.looksAt
  exact List.mem_append.2 (.inl (List.mem_filterMap.2 ⟨.tmp t,by simpa using hx,rfl⟩))]
omit [ar] in
theorem EM {base n mask x q:Nat}(hx:x<n)(h1:base+x * 16≤q)(h2:q<base+x * 16+16)(hm:Nat.testBit mask x=false):Yk base n mask q=false:=by
 unfold Yk
 have a1:Nat.ble base q=true:=Nat.ble_eq_true_of_le (by omega)
 have a2:mG q (base+n * 16)=true:=Ab (by omega)
 have a3:(q-base) / 16=x:=by omega
 rw[a1,a2,a3]
 exact hm
omit [ar] in
theorem pP {σ σ':St}{id:Nat}{dst:Option Tmp}{e:NQ}(h:σ.IQ id dst e=some σ') :
  (e.new=true→bC σ.heap e.sets=true∧fK id e.sets=true)∧(σ.with (bh σ.heap e.sets)).put dst e.v=some σ':=by
 unfold St.IQ at h
 cases hn:e.new with
 | false=>rw[hn] at h;exact⟨fun h=>by simp at h,h⟩
 | true=>
  rw[hn] at h
  cases hb:(bC σ.heap e.sets&&fK id e.sets) with
  | false=>rw[hb] at h;simp at h
  | true=>
   rw[hb] at h
   simp only[Bool.and_eq_true] at hb
   exact⟨fun _=>hb,h⟩
omit [ar] in
theorem Cs {σ σ':St}{id:Nat}{dst:Option Tmp}{e:NQ}(h1:e.new=true→bC σ.heap e.sets=true∧fK id e.sets=true)
  (h2:(σ.with (bh σ.heap e.sets)).put dst e.v=some σ'):σ.IQ id dst e=some σ':=by
 unfold St.IQ
 cases hn:e.new with
 | false=>exact h2
 | true=>rw[(h1 hn).1,(h1 hn).2];exact h2
omit [ar] in
theorem uT {σ σ':St}{H:Heap}{dst:Option Tmp}{v:AV}(h:(σ.with H).put dst v=some σ') :
  σ'.nt=σ.nt∧σ'.heap=H∧(∀ t,dst≠some t→σ'.tmps t=σ.tmps t):=by
 cases dst with
 | none=>simp only[St.put,Option.some.injEq] at h;subst h;exact⟨rfl,rfl,fun _ _=>rfl⟩
 | some d=>
  obtain⟨_,rfl⟩:=aj h
  exact⟨rfl,rfl,fun t ht=>aA _ _ (fun e=>ht (by rw[e]))⟩
omit [ar] in
theorem U3 {σ σ1 σ2:St}{H1 H2 H3:Heap}{d1 d2:Option Tmp}{v1 v2:AV}(h1:(σ.with H1).put d1 v1=some σ1)(h2:(σ1.with H2).put d2 v2=some σ2)
  (hd:∀ d,d1=some d→d2≠some d):∃ σ3,(σ.with H3).put d2 v2=some σ3∧(σ3.with H2).put d1 v1=some σ2:=by
 cases d1 with
 | none=>
  simp only[St.put,Option.some.injEq] at h1;subst h1
  cases d2 with
  | none=>simp only[St.put,Option.some.injEq] at h2;subst h2;exact⟨_,rfl,rfl⟩
  | some d=>obtain⟨c,rfl⟩:=aj h2;exact⟨⟨σ.nt,aU σ.tmps d v2,H3,σ.ids⟩,by simp only[St.put,St.with] at c ⊢;rw[c];rfl,rfl⟩
 | some d=>
  obtain⟨c1,rfl⟩:=aj h1
  cases d2 with
  | none=>
   simp only[St.put,Option.some.injEq] at h2;subst h2
   exact⟨_,rfl,by simp only[St.put,St.with] at c1 ⊢;rw[c1];rfl⟩
  | some e=>
   obtain⟨c2,rfl⟩:=aj h2
   simp only[St.with] at c1 c2
   refine⟨⟨σ.nt,aU σ.tmps e v2,H3,σ.ids⟩,by simp only[St.put,St.with];rw[c2];rfl,?_⟩
   simp only[St.put,St.with]
   rw[c1]
   have hne:d≠e:=fun h=>hd d rfl (by rw[h])
   simp only[cond_true,Option.some.injEq,St.mk.injEq,true_and,and_true]
   exact (Gs σ.tmps v1 v2 hne).symm
omit [ar] in
theorem swap {x i:Nat}{ox oi:Oper}(hx:ops[x]? = some ox)(hi:ops[i]? = some oi)(hind:indep P C ops m x i ox oi=true)(hxi:x≠i)
  (h1:Ay P C ops m W base x σ=some σ1) (h2:Ay P C ops m W base i σ1=some σ2) :
  ∃ σ3,Ay P C ops m W base i σ=some σ3∧Ay P C ops m W base x σ3=some σ2:=by
 have hxn:x<ops.size:=(Array.getElem?_eq_some_iff.1 hx).1
 have hin:i<ops.size:=(Array.getElem?_eq_some_iff.1 hi).1
 unfold indep at hind
 simp only[Bool.and_eq_true,Bool.not_eq_true',Bool.and_eq_false_iff] at hind
 obtain⟨⟨hap,hb1⟩,hb2⟩:=hind
 obtain⟨p1,p2,p3⟩:=Oper.apart_spec hap
 unfold Ay at h1 h2 ⊢
 obtain⟨t1,h1⟩:=aD h1
 obtain⟨t2,h2⟩:=aD h2
 rw[gx hx] at h1
 rw[gx hi] at h2
 cases he1:gZ P C ops (cu base ops.size (m.getD x 0) (sY m W ops.size x) σ.heap) (base+x * 16) ox σ with
 | none=>rw[he1] at h1;simp at h1
 | some ex=>
  rw[he1] at h1
  simp only at h1
  cases he2:gZ P C ops (cu base ops.size (m.getD i 0) (sY m W ops.size i) σ1.heap) (base+i * 16) oi σ1 with
  | none=>rw[he2] at h2;simp at h2
  | some ei=>
   rw[he2] at h2
   simp only at h2
   obtain⟨q1,q2⟩:=pP h1
   obtain⟨r1,r2⟩:=pP h2
   obtain⟨f1,f2,f3⟩:=uT q2
   have okx:=sr he1
   have oki:=sr he2
   have hH:Fp P oi=true→cu base ops.size (m.getD i 0) (sY m W ops.size i) σ.heap=cu base ops.size (m.getD i 0) (sY m W ops.size i) σ1.heap:=by
    intro hr
    funext q
    unfold cu
    cases hv:(Yk base ops.size (m.getD i 0) q && !AE (sY m W ops.size i) q) with
    | false=>rfl
    | true=>
     simp only[cond_true]
     simp only[Bool.and_eq_true,Bool.not_eq_true'] at hv
     obtain⟨hv,hv2⟩:=hv
     rw[f2]
     symm
     refine fZ _ _ _ fun hq=>?_
     rcases okx with h0|h0|⟨h0,j,ob,hs,hj,ht⟩
     ·rw[h0] at hq;simp[ids] at hq
     ·have:=jo (q1 h0).2 q hq
      have:=EM (mask:=m.getD i 0) hxn this.1 this.2 hb1
      rw[hv] at this;simp at this
     ·rw[hs] at hq
      simp only[ids,List.map_cons,List.map_nil,List.mem_singleton] at hq
      subst hq
      rw[EP hxn hxi hb1 hb2 (Cy hx hi t1 h0 ht hr (Ne.symm hxi) hb2 hb1)] at hv2
      simp at hv2
   have hsi:gZ P C ops (cu base ops.size (m.getD i 0) (sY m W ops.size i) σ.heap) (base+i * 16) oi σ=some ei:=by
    rw[← he2]
    refine nE f1.symm (fun t ht=>?_) hH
    exact (f3 t (fun e=>p1 t e ht)).symm
   have hdis:∀ q∈ids ex.sets,q∉ids ei.sets:=by
    intro q hq hq2
    rcases okx with h0|h0|⟨h0,j,ob,hs,hj,ht⟩
    ·rw[h0] at hq;simp[ids] at hq
    ·have a1:=jo (q1 h0).2 q hq
     rcases oki with k0|k0|⟨k0,j,ob,ks,kj,kt⟩
     ·rw[k0] at hq2;simp[ids] at hq2
     ·have a2:=jo (r1 k0).2 q hq2
      omega
     ·rw[ks] at hq2
      simp only[ids,List.map_cons,List.map_nil,List.mem_singleton] at hq2
      subst hq2
      cases ho:cu base ops.size (m.getD i 0) (sY m W ops.size i) σ1.heap q with
      | none=>rw[ho] at kj;simp at kj
      | some o=>
       have:=(gA ho).1
       rw[EM (mask:=m.getD i 0) hxn a1.1 a1.2 hb1] at this;simp at this
    ·rw[hs] at hq
     simp only[ids,List.map_cons,List.map_nil,List.mem_singleton] at hq
     subst hq
     have hjs:(σ.heap q).isSome=true:=by
      cases ho:cu base ops.size (m.getD x 0) (sY m W ops.size x) σ.heap q with
      | none=>rw[ho] at hj;simp at hj
      | some o=>rw[(gA ho).2.1];rfl
     rcases oki with k0|k0|⟨k0,j2,ob2,ks,kj,kt⟩
     ·rw[k0] at hq2;simp[ids] at hq2
     ·have:=qB _ _ (r1 k0).1 q hq2
      rw[f2,hs] at this
      simp only[bh,ax] at this
      simp at this
     ·rw[ks] at hq2
      simp only[ids,List.map_cons,List.map_nil,List.mem_singleton] at hq2
      subst hq2
      cases ho:cu base ops.size (m.getD i 0) (sY m W ops.size i) σ1.heap q with
      | none=>rw[ho] at kj;simp at kj
      | some o=>
       have:=(gA ho).2.2
       rw[EP hxn hxi hb1 hb2 (Cy hx hi t1 h0 ht (WS k0) (Ne.symm hxi) hb2 hb1)] at this
       simp at this
   obtain⟨σ3,g1,g2⟩:=U3 (H3:=bh σ.heap ei.sets) q2 r2 p2
   obtain⟨l1,l2,l3⟩:=uT g1
   have hside:σ.IQ (base+i * 16) oi.dst ei=some σ3:=Cs (fun hn=>⟨by
    rw[← (r1 hn).1,f2]
    symm
    exact l5 _ _ _ fun q hq=>fZ _ _ _ fun hq2=>hdis q hq2 hq,(r1 hn).2⟩) g1
   have t2':mD P C ops m W i σ=true:=by rw[← t2];exact oK hi f1.symm fun t ht=>(f3 t (fun e=>p1 t e ht)).symm
   have t1':mD P C ops m W x σ3=true:=by rw[← t1];exact oK hx l1 fun t ht=>l3 t (fun e=>p3 t e ht)
   refine⟨σ3,by rw[t2',gx hi,hsi];exact hside,?_⟩
   have hH2:Fp P ox=true→cu base ops.size (m.getD x 0) (sY m W ops.size x) σ3.heap=cu base ops.size (m.getD x 0) (sY m W ops.size x) σ.heap:=by
    intro hr
    funext q
    unfold cu
    cases hv:(Yk base ops.size (m.getD x 0) q && !AE (sY m W ops.size x) q) with
    | false=>rfl
    | true=>
     simp only[cond_true]
     simp only[Bool.and_eq_true,Bool.not_eq_true'] at hv
     obtain⟨hv,hv2⟩:=hv
     rw[l2]
     refine fZ _ _ _ fun hq=>?_
     rcases oki with h0|h0|⟨h0,j,ob,hs,hj,ht⟩
     ·rw[h0] at hq;simp[ids] at hq
     ·have:=jo (r1 h0).2 q hq
      have:=EM (mask:=m.getD x 0) hin this.1 this.2 hb2
      rw[hv] at this;simp at this
     ·rw[hs] at hq
      simp only[ids,List.map_cons,List.map_nil,List.mem_singleton] at hq
      subst hq
      rw[EP hin (Ne.symm hxi) hb2 hb1 (Cy hi hx t2 h0 ht hr hxi hb1 hb2)] at hv2
      simp at hv2
   have hsx:gZ P C ops (cu base ops.size (m.getD x 0) (sY m W ops.size x) σ3.heap) (base+x * 16) ox σ3=some ex:=by
    rw[← he1]
    refine nE l1 (fun t ht=>l3 t (fun e=>p3 t e ht)) hH2
   rw[t1',gx hx,hsx]
   simp only[cond_true]
   refine Cs (fun hn=>⟨by
    rw[← (q1 hn).1,l2]
    exact l5 _ _ _ fun q hq=>fZ _ _ _ fun hq2=>hdis q hq hq2,(q1 hn).2⟩) ?_
   rw[l2,← vu _ _ _ hdis,← f2]
   exact g2
omit [ar] in
theorem front {i:Nat}{oi:Oper}(hi:ops[i]? = some oi):∀ (p s:List Nat) (σ:St),(∀ x∈p,x≠i∧∃ ox,ops[x]? = some ox∧indep P C ops m x i ox oi=true) →
  dQ P C ops m W base (p++i::s) σ=some σ'→∃ σ1,Ay P C ops m W base i σ=some σ1∧dQ P C ops m W base (p++s) σ1=some σ'
 | [],s,σ,_,h=>by
  simp only[List.nil_append,dQ] at h
  split at h
  ·rename_i σ1 h1;exact⟨σ1,h1,h⟩
  ·simp at h
 | x::p,s,σ,hp,h=>by
  simp only[List.cons_append,dQ] at h
  split at h
  ·rename_i σx hx
   obtain⟨σ1,k1,k2⟩:=front hi p s σx (fun y hy=>hp y (by simp[hy])) h
   obtain⟨hne,ox,hox,hind⟩:=hp x (by simp)
   obtain⟨σ3,q1,q2⟩:=swap hox hi hind hne hx k1
   exact⟨σ3,q1,by simp only[List.cons_append,dQ,q2];exact k2⟩
  ·simp at h
omit [ar] in
theorem cB (m:List Nat)(x:Nat):∀ (l:List Edge) (s:Nat),Nat.testBit (l.foldl (fun s e=>cond (Region.binds .any e) (s ||| 2 ^ e.on ||| m.getD e.on 0) s) s) x=true →
  Nat.testBit s x=true∨∃ e∈l,Region.binds .any e=true∧(x=e.on∨Nat.testBit (m.getD e.on 0) x=true)
 | [],s,h=>.inl h
 | e::l,s,h=>by
  simp only[List.foldl_cons] at h
  rcases cB m x l _ h with h|⟨e',h1,h2⟩
  ·cases hb:Region.binds .any e with
   | false=>rw[hb] at h;exact .inl h
   | true=>
    rw[hb] at h
    simp only[cond_true,Nat.testBit_or,Bool.or_eq_true,Nat.testBit_two_pow] at h
    rcases h with (h|h)|h
    ·exact .inl h
    ·exact .inr ⟨e,by simp,hb,.inl (by simpa using Eq.symm (by simpa using h))⟩
    ·exact .inr ⟨e,by simp,hb,.inr h⟩
  ·exact .inr ⟨e',by simp[h1],h2⟩
structure Jd (P:Program)(C:Cons)(ops:Array Oper)(m:List Nat):Prop where
 mixed:P.follows .mixedOrders=true
 mask:∀ i o,ops[i]? = some o→m.getD i 0=Fc m o
 Vz:∀ i o,ops[i]? = some o→∀ e∈o.after.toList,Region.binds .any e=true→e.on<i
 pair:∀ x i,x<i→∀ ox oi,ops[x]? = some ox→ops[i]? = some oi→Nat.testBit (m.getD i 0) x=true∨indep P C ops m x i ox oi=true
omit [ar] in
theorem gF (h:bW P C ops m=true):Jd P C ops m:=by
 unfold bW at h
 simp only[Bool.and_eq_true,List.all_eq_true,List.mem_range] at h
 obtain⟨h1,h2⟩:=h
 have key:∀ i o,ops[i]? = some o→(Nat.beq (m.getD i 0) (Fc m o)=true∧Eh o i=true)∧∀ x,x<i→Mh P C ops m x i=true:=by
  intro i o ho
  have:=h2 i (Array.getElem?_eq_some_iff.1 ho).1
  rw[ho] at this
  simpa only [Bool.and_eq_true,List.all_eq_true,List.mem_range] using this
 refine⟨h1,fun i o ho=>Nat.eq_of_beq_eq_true (key i o ho).1.1,fun i o ho e he hb=>?_,fun x i hx ox oi hox hoi=>?_⟩
 ·have:=(key i o ho).1.2
  unfold Eh at this
  rw[List.all_eq_true] at this
  have:=this e he
  rw[hb] at this
  exact cG this
 ·have:=(key i oi hoi).2 x hx
  unfold Mh at this
  rw[hox,hoi] at this
  simpa only [Bool.or_eq_true] using this
def rem (n:Nat)(L:Array Bool):List Nat:=(List.range n).filter fun i=>!L.getD i true
def qI (m:List Nat)(L:Array Bool):Prop:=∀ i,L.getD i false=true→∀ x,Nat.testBit (m.getD i 0) x=true→L.getD x false=true
omit [ar] in
theorem gC {L:Array Bool}{i:Nat}(h:i∈Region.ready .any ops L) :
  i<ops.size∧L.getD i true=false∧∃ o,ops[i]? = some o∧∀ e∈o.after.toList,Region.binds .any e=true→L.getD e.on false=true:=by
 unfold Region.ready at h
 simp only[List.mem_filter,List.mem_range,Bool.and_eq_true,Bool.not_eq_true'] at h
 obtain⟨h1,h2,h3⟩:=h
 refine⟨h1,h2,ops[i],by simp[h1],fun e he hb=>?_⟩
 simp only[h1,getElem?_pos,Option.map_some,Option.getD_some,Array.all_eq_true_iff_forall_mem,Bool.or_eq_true,Bool.not_eq_true'] at h3
 have:=h3 e (by simpa using he)
 rw[hb] at this
 simpa using this
omit [ar] in
theorem sw {L:Array Bool}{i:Nat}{o:Oper}(ho:ops[i]? = some o)(h2:L.getD i true=false)(h3:∀ e∈o.after.toList,Region.binds .any e=true→L.getD e.on false=true) :
  i∈Region.ready .any ops L:=by
 unfold Region.ready
 simp only[List.mem_filter,List.mem_range,Bool.and_eq_true,Bool.not_eq_true']
 refine⟨(Array.getElem?_eq_some_iff.1 ho).1,h2,?_⟩
 rw[ho]
 simp only[Option.map_some,Option.getD_some,Array.all_eq_true_iff_forall_mem,Bool.or_eq_true,Bool.not_eq_true']
 intro e he
 cases hb:Region.binds .any e with
 | false=>exact .inl rfl
 | true=>exact .inr (h3 e (by simpa using he) hb)
omit [ar] in
theorem bN {L:Array Bool}{i:Nat}(d:Bool)(h:i<L.size)(j:Nat):(L.setIfInBounds i true).getD j d=if j=i then true else L.getD j d:=by
 simp only[Array.getD_eq_getD_getElem?]
 by_cases e:j=i
 ·subst e;simp[h]
 ·rw[Array.getElem?_setIfInBounds_ne (Ne.symm e),if_neg e]
omit [ar] in
theorem kM {n:Nat}{L:Array Bool}{i:Nat}(hs:L.size=n)(hi:i<n)(hl:L.getD i true=false) :
  ∃ p s,rem n L=p++i::s∧rem n (L.setIfInBounds i true)=p++s∧(∀ x∈p,x<i∧L.getD x true=false):=by
 have hr:List.range n=List.range i++i::(List.range' (i+1) (n-i-1)):=by
  rw[List.range_eq_range',List.range_eq_range',show n=i+(1+(n-i-1)) from by omega,← List.range'_append_1,Nat.zero_add,← List.range'_append_1]
  simp only[List.range'_succ,List.range'_zero,List.singleton_append]
  congr 3
  omega
 refine⟨(List.range i).filter fun j=>!L.getD j true,(List.range' (i+1) (n-i-1)).filter fun j=>!L.getD j true,?_,?_,fun x hx=>?_⟩
 ·unfold rem
  rw[hr,List.filter_append,List.filter_cons_of_pos (by simp[hl])]
 ·unfold rem
  rw[hr,List.filter_append,List.filter_cons_of_neg (by rw[bN true (by omega)];simp)]
  congr 1
  ·refine List.filter_congr fun x hx=>?_
   have:x<i:=List.mem_range.1 hx
   rw[bN true (by omega),if_neg (by omega)]
  ·refine List.filter_congr fun x hx=>?_
   have:=List.mem_range'_1.1 hx
   rw[bN true (by omega),if_neg (by omega)]
 ·simp only[List.mem_filter,List.mem_range,Bool.not_eq_true'] at hx
  exact hx
theorem J5 (hC:bV P C){r:Option Nat}{N:an}{Dt:Bool×List Deferred}{B:Nat}{w0:World}{Q:Exit→Act→World→Prop}(hr:Jd P C ops m) :
  ∀ (fuel:Nat) (L:Array Bool) (σ:St) (a:Act) (w:World) (μ:Mu) (S:an),L.size=ops.size→(rem ops.size L).length≤fuel→qI m L →
   dQ P C ops m W base (rem ops.size L) σ=some σ'→AR N Dt μ S σ a→Rel μ S σ.heap B w0 w →
   (∀ a' w' μ' S',AR N Dt μ' S' σ' a'→Rel μ' S' σ'.heap B w0 w'→Carry B μ S σ.heap μ' S' σ'.heap→Q .normal a' w') →
   wpAnyIn (WF r) 0 P .any ops Q fuel L a w:=by
 intro fuel
 have none_left:∀ (L:Array Bool),Region.ready .any ops L=[]→rem ops.size L=[]:=by
  intro L hL
  have all:∀ i,i<ops.size→L.getD i true=true:=by
   intro i
   induction i using Nat.strongRecOn with
   | _ i ih=>
    intro hi
    cases hd:L.getD i true with
    | true=>rfl
    | false=>
     have ho:ops[i]? = some ops[i]:=by simp[hi]
     have:=sw ho hd fun e he hb=>by
      have hlt:=hr.Vz i _ ho e he hb
      have:=ih e.on hlt (by omega)
      rw[Array.getD_eq_getD_getElem?] at this ⊢
      cases hx:L[e.on]? with
      | some b=>rw[hx] at this;simpa using this
      | none=>
       rw[hx] at this
       exfalso
       have h1:L.size≤e.on:=by simpa using hx
       have h2:L.getD i true=true:=by rw[Array.getD_eq_getD_getElem?];rw[Array.getElem?_eq_none (by omega)];rfl
       rw[h2] at hd;simp at hd
     rw[hL] at this;simp at this
  unfold rem
  rw[List.filter_eq_nil_iff]
  intro i hi
  rw[all i (List.mem_range.1 hi)];simp
 induction fuel with
 | zero=>
  intro L σ a w μ S hs hf hcl h A R hK
  have hnil:rem ops.size L=[]:=List.eq_nil_of_length_eq_zero (by omega)
  rw[hnil] at h
  simp only[dQ,Option.some.injEq] at h;subst h
  refine⟨?_,hK a w μ S A R Carry.refl⟩
  cases hrd:Region.ready .any ops L with
  | nil=>rfl
  | cons i l=>
   have:=gC (L:=L) (i:=i) (ops:=ops) (by rw[hrd];simp)
   obtain⟨p,s,h1,_⟩:=kM hs this.1 this.2.1
   rw[hnil] at h1;simp at h1
 | succ fuel ih=>
  intro L σ a w μ S hs hf hcl h A R hK
  refine⟨fun hrd=>?_,fun i hi=>?_⟩
  ·rw[none_left L hrd] at h
   simp only[dQ,Option.some.injEq] at h;subst h
   exact hK a w μ S A R Carry.refl
  ·obtain⟨hin,hli,oi,hoi,hed⟩:=gC hi
   obtain⟨p,s,e1,e2,hp⟩:=kM hs hin hli
   rw[e1] at h
   have hind:∀ x∈p,x≠i∧∃ ox,ops[x]? = some ox∧indep P C ops m x i ox oi=true:=by
    intro x hx
    obtain⟨hlt,hlx⟩:=hp x hx
    have hox:ops[x]? = some ops[x]:=by simp[show x<ops.size from by omega]
    refine⟨by omega,_,hox,?_⟩
    rcases hr.pair x i hlt _ _ hox hoi with hb|hb
    ·exfalso
     rw[hr.mask i oi hoi] at hb
     rcases cB m x _ _ hb with h0|⟨e,he,hbd,h0⟩
     ·simp at h0
     ·have hle:=hed e he hbd
      have hLx:L.getD x false=true:=by
       rcases h0 with rfl|h0
       ·exact hle
       ·exact hcl e.on hle x h0
      have hsz:x<L.size:=by omega
      simp[Array.getD_eq_getD_getElem?,hsz] at hLx hlx
      rw[hLx] at hlx;simp at hlx
    ·exact hb
   obtain⟨σ1,k1,k2⟩:=front hoi p s σ hind h
   unfold Ay at k1
   obtain⟨_,k1⟩:=aD k1
   refine gE hC (F:=dX) (fun _ _ _ _ _ _ _ _ h=>by simp[dX] at h) (fun H j o h=>(gA h).2.1) k1 (.inr rfl) A R fun a1 w1 μ1 S1 A1 R1 C1=>?_
   have hsz:i<L.size:=by omega
   refine ih (L.setIfInBounds i true) σ1 a1 w1 μ1 S1 (by simp[hs]) ?_ ?_ (by rw[e2];exact k2) A1 R1 (fun a' w' μ' S' A' R' C'=>hK a' w' μ' S' A' R' (C1.trans C'))
   ·rw[e1] at hf
    rw[e2]
    simp at hf ⊢;omega
   ·intro j hj x hx
    rw[bN false hsz] at hj ⊢
    by_cases e:x=i
    ·rw[if_pos e]
    ·rw[if_neg e]
     by_cases ej:j=i
     ·subst ej
      rw[hr.mask j oi hoi] at hx
      rcases cB m x _ _ hx with h0|⟨e',he,hbd,h0⟩
      ·simp at h0
      ·have hle:=hed e' he hbd
       rcases h0 with rfl|h0
       ·exact hle
       ·exact hcl e'.on hle x h0
     ·rw[if_neg ej] at hj
      exact hcl j hj x hx
def qZ (n z:Nat)(L:Array Bool):List Nat:=(rem n L).filter fun i=>!(Nat.beq i z)
theorem Ch (hC:bV P C){r:Option Nat}{N:an}{Dt:Bool×List Deferred}{B:Nat}{w0:World}{Q:Exit→Act→World→Prop}(hr:Jd P C ops m)
  {z:Nat} {oz:Oper} (hzo:ops[z]? = some oz) (hzn:z+1=ops.size) (hfull:∀ x,x<z→Nat.testBit (m.getD z 0) x=true) :
  ∀ (fuel:Nat) (L:Array Bool) (σ:St) (a:Act) (w:World) (μ:Mu) (S:an),L.size=ops.size→L.getD z true=false→(qZ ops.size z L).length+1≤fuel→qI m L →
   dQ P C ops m W base (qZ ops.size z L) σ=some σ'→AR N Dt μ S σ a→Rel μ S σ.heap B w0 w →
   (∀ a' w' μ' S',AR N Dt μ' S' σ' a'→Rel μ' S' σ'.heap B w0 w'→Carry B μ S σ.heap μ' S' σ'.heap→wpOpIn (WF r) 0 P ops Q z (fun a w=>Q .normal a w) a' w') →
   wpAnyIn (WF r) 0 P .any ops Q fuel L a w:=by
 intro fuel
 induction fuel with
 | zero=>intro L σ a w μ S hs hz hf;omega
 | succ fuel ih=>
  intro L σ a w μ S hs hz hf hcl h A R hK
  have hzlt:z<ops.size:=by omega
  refine⟨fun hrd=>?_,fun i hi=>?_⟩
  ·
   exfalso
   have all:∀ i,i<ops.size→L.getD i true=true:=by
    intro i
    induction i using Nat.strongRecOn with
    | _ i ih2=>
     intro hi
     cases hd:L.getD i true with
     | true=>rfl
     | false=>
      have ho:ops[i]? = some ops[i]:=by simp[hi]
      have:=sw ho hd fun e he hb=>by
       have hlt:=hr.Vz i _ ho e he hb
       have:=ih2 e.on hlt (by omega)
       have hsz:e.on<L.size:=by omega
       simpa [Array.getD_eq_getD_getElem?,hsz] using this
      rw[hrd] at this;simp at this
   rw[all z hzlt] at hz;simp at hz
  ·obtain⟨hin,hli,oi,hoi,hed⟩:=gC hi
   by_cases hiz:i=z
   ·
    subst hiz
    have hdone:∀ x,x<i→L.getD x false=true:=by
     intro x hx
     have hb:=hfull x hx
     rw[hr.mask i oi hoi] at hb
     rcases cB m x _ _ hb with h0|⟨e,he,hbd,h0⟩
     ·simp at h0
     ·have hle:=hed e he hbd
      rcases h0 with rfl|h0
      ·exact hle
      ·exact hcl e.on hle x h0
    have hnil:qZ ops.size i L=[]:=by
     unfold qZ rem
     rw[List.filter_filter,List.filter_eq_nil_iff]
     intro x hx
     have hx:=List.mem_range.1 hx
     by_cases e:x=i
     ·subst e;simp
     ·have hd:=hdone x (by omega)
      have hsz:x<L.size:=by omega
      have:L.getD x true=true:=by simpa [Array.getD_eq_getD_getElem?,hsz] using hd
      simp[this]
    rw[hnil] at h
    simp only[dQ,Option.some.injEq] at h;subst h
    have hop:=hK a w μ S A R Carry.refl
    have hend:∀ a' w',Q .normal a' w'→wpAnyIn (WF r) 0 P .any ops Q fuel (L.setIfInBounds i true) a' w':=by
     intro a' w' hq
     have hno:Region.ready .any ops (L.setIfInBounds i true)=[]:=by
      cases hrd:Region.ready .any ops (L.setIfInBounds i true) with
      | nil=>rfl
      | cons j l=>
       exfalso
       obtain⟨hj,hlj,_⟩:=gC (L:=L.setIfInBounds i true) (i:=j) (ops:=ops) (by rw[hrd];simp)
       rw[bN true (by omega)] at hlj
       by_cases e:j=i
       ·rw[if_pos e] at hlj;simp at hlj
       ·rw[if_neg e] at hlj
        have hd:=hdone j (by omega)
        have hsz:j<L.size:=by omega
        have:L.getD j true=true:=by simpa [Array.getD_eq_getD_getElem?,hsz] using hd
        rw[this] at hlj;simp at hlj
     cases fuel with
     | zero=>exact⟨hno,hq⟩
     | succ f=>exact⟨fun _=>hq,fun j hj=>by rw[hno] at hj;simp at hj⟩
    exact wpOpIn_mono hend hop
   ·obtain⟨p,s,e1,e2,hp⟩:=kM hs hin hli
    have hbz:(!(Nat.beq i z))=true:=by
     cases hb:Nat.beq i z with
     | true=>exact absurd (Nat.eq_of_beq_eq_true hb) hiz
     | false=>rfl
    have f1:qZ ops.size z L=(p.filter fun i=>!(Nat.beq i z))++i::(s.filter fun i=>!(Nat.beq i z)):=by
     unfold qZ
     rw[e1,List.filter_append,List.filter_cons_of_pos (by exact hbz)]
    have f2:qZ ops.size z (L.setIfInBounds i true)=(p.filter fun i=>!(Nat.beq i z))++(s.filter fun i=>!(Nat.beq i z)):=by
     unfold qZ
     rw[e2,List.filter_append]
    rw[f1] at h
    have hind:∀ x∈(p.filter fun i=>!(Nat.beq i z)),x≠i∧∃ ox,ops[x]? = some ox∧indep P C ops m x i ox oi=true:=by
     intro x hx
     have hx:=(List.mem_filter.1 hx).1
     obtain⟨hlt,hlx⟩:=hp x hx
     have hox:ops[x]? = some ops[x]:=by simp[show x<ops.size from by omega]
     refine⟨by omega,_,hox,?_⟩
     rcases hr.pair x i hlt _ _ hox hoi with hb|hb
     ·exfalso
      rw[hr.mask i oi hoi] at hb
      rcases cB m x _ _ hb with h0|⟨e,he,hbd,h0⟩
      ·simp at h0
      ·have hle:=hed e he hbd
       have hLx:L.getD x false=true:=by
        rcases h0 with rfl|h0
        ·exact hle
        ·exact hcl e.on hle x h0
       have hsz:x<L.size:=by omega
       simp[Array.getD_eq_getD_getElem?,hsz] at hLx hlx
       rw[hLx] at hlx;simp at hlx
     ·exact hb
    obtain⟨σ1,k1,k2⟩:=front hoi _ _ σ hind h
    unfold Ay at k1
    obtain⟨_,k1⟩:=aD k1
    refine gE hC (F:=dX) (fun _ _ _ _ _ _ _ _ h=>by simp[dX] at h) (fun H j o h=>(gA h).2.1) k1 (.inr rfl) A R fun a1 w1 μ1 S1 A1 R1 C1=>?_
    have hsz:i<L.size:=by omega
    refine ih (L.setIfInBounds i true) σ1 a1 w1 μ1 S1 (by simp[hs]) ?_ ?_ ?_ (by rw[f2];exact k2) A1 R1 (fun a' w' μ' S' A' R' C'=>hK a' w' μ' S' A' R' (C1.trans C'))
    ·rw[bN true hsz,if_neg (fun e=>hiz e.symm)];exact hz
    ·rw[f1] at hf
     rw[f2]
     simp at hf ⊢;omega
    ·intro j hj x hx
     rw[bN false hsz] at hj ⊢
     by_cases e:x=i
     ·rw[if_pos e]
     ·rw[if_neg e]
      by_cases ej:j=i
      ·subst ej
       rw[hr.mask j oi hoi] at hx
       rcases cB m x _ _ hx with h0|⟨e',he,hbd,h0⟩
       ·simp at h0
       ·have hle:=hed e' he hbd
        rcases h0 with rfl|h0
        ·exact hle
        ·exact hcl e'.on hle x h0
      ·rw[if_neg ej] at hj
       exact hcl j hj x hx
theorem Rx (hC:bV P C){r:Option Nat}{N:an}{Dt:Bool×List Deferred}{B:Nat}{w w0:World}{a:Act}{μ:Mu}{S:an}{Q:Exit→Act→World→Prop}{id:Nat}(h:wN P C ops base σ=some σ')(A:AR N Dt μ S σ a)(R:Rel μ S σ.heap B w0 w)
  (hK:∀ a' w' μ' S',AR N Dt μ' S' σ' a'→Rel μ' S' σ'.heap B w0 w'→Carry B μ S σ.heap μ' S' σ'.heap→Q .normal a' w'):(Code.region id ops true).wpIn (WF r) 0 P Q a w:=by
 unfold wN at h
 cases hr:bW P C ops (aB ops) with
 | false=>rw[hr] at h;simp at h
 | true=>
  rw[hr] at h
  have hr:=gF hr
  simp only[cond_true] at h
  split at h
  case h_2=>simp at h
  rename_i σ1 h1
  cases h
  refine wpIn_region_any hr.mixed ?_
  have hrem:rem ops.size (Array.replicate ops.size false)=List.range ops.size:=by
   unfold rem
   rw[List.filter_eq_self]
   intro i hi
   have:=List.mem_range.1 hi
   simp[Array.getD_eq_getD_getElem?,this]
  have R':Rel μ S σ.heap B w0 w.drew:=⟨R.below.drew,R.size,R.st,R.dom,fun i o ho=>by
   obtain⟨l,h1,h2⟩:=R.obj i o ho
   refine⟨l,h1,?_⟩
   cases o<;>exact h2,R.sep,R.pre⟩
  refine J5 hC hr ops.size _ σ a w.drew μ S (by simp) (by rw[hrem];simp) ?_ (by rw[hrem];exact h1) A R' (fun a' w' μ' S' A' R' C'=>hK a' w' μ' S' A'.ay R' C')
  intro i hi x hx
  by_cases hlt:i<ops.size
  ·simp[Array.getD_eq_getD_getElem?,hlt] at hi
  ·simp[Array.getD_eq_getD_getElem?,hlt] at hi
theorem PR (hC:bV P C)(hF:dl P F){r:Option Nat}{N:an}{Dt:Bool×List Deferred}{B:Nat}{w w0:World}{a:Act}{μ:Mu}{S:an}{Q:Exit→Act→World→Prop}{id:Nat}{e:Ex}(h:qW P C F ops base σ=some (e,σ'))(hB:Bd σ)(A:AR N Dt μ S σ a)(R:Rel μ S σ.heap B w0 w)
  (hK:∀ a' w' μ' S' x,AR N Dt μ' S' σ' a'→Rel μ' S' σ'.heap B w0 w'→Carry B μ S σ.heap μ' S' σ'.heap→e.Is μ' S' σ'.heap x→Q x a' w'):(Code.region id ops true).wpIn (WF r) 0 P Q a w:=by
 unfold qW at h
 split at h
 ·split at h
  ·rename_i h1
   cases h
   exact Rx hC h1 A R fun a' w' μ' S' A' R' C'=>hK a' w' μ' S' _ A' R' C' rfl
  ·simp at h
 ·rename_i z hz
  obtain⟨hr,h⟩:=aD h
  have hr:=gF hr
  split at h
  case h_2=>simp at h
  rename_i σ1 h1
  have hzf:z=ops.size-1∧0<ops.size∧∀ x,x<z→Nat.testBit ((aB ops).getD z 0) x=true:=by
   unfold zy at hz
   split at hz
   case h_2=>simp at hz
   rename_i o ho
   split at hz
   case h_2=>simp at hz
   split at hz
   case h_2=>simp at hz
   obtain⟨hc,rfl⟩:=aj hz
   simp only[Bool.and_eq_true,List.all_eq_true,List.mem_range] at hc
   refine⟨rfl,?_,fun x hx=>hc.2 x hx⟩
   have:=(Array.getElem?_eq_some_iff.1 ho).1
   omega
  obtain⟨hz1,hpos,hfull⟩:=hzf
  have hzo:ops[z]? = some ops[z]:=by simp[show z<ops.size by omega]
  have hBz:Bd (σ1.ay (fL P C ops (aB ops) (qG P C ops (aB ops) base σ) base (List.range z) σ)):=by
   have:=iE (List.range z) σ σ1 [] h1 (by intro q hq;have:=hB q hq;simpa [St.ay] using this)
   simpa using this
  refine wpIn_region_any hr.mixed ?_
  have hrem:qZ ops.size z (Array.replicate ops.size false)=List.range z:=by
   have e0:rem ops.size (Array.replicate ops.size false)=List.range ops.size:=by
    unfold rem
    rw[List.filter_eq_self]
    intro i hi
    have:=List.mem_range.1 hi
    simp[Array.getD_eq_getD_getElem?,this]
   unfold qZ
   rw[e0,show ops.size=z+1 by omega,List.range_succ,List.filter_append]
   have e1:(List.range z).filter (fun i=>!(Nat.beq i z))=List.range z:=by
    rw[List.filter_eq_self]
    intro i hi
    have:=List.mem_range.1 hi
    cases hb:Nat.beq i z with
    | true=>have:=Nat.eq_of_beq_eq_true hb;omega
    | false=>rfl
   rw[e1]
   simp[show Nat.beq z z=true from Nat.beq_refl z]
  have R':Rel μ S σ.heap B w0 w.drew:=⟨R.below.drew,R.size,R.st,R.dom,fun i o ho=>by
   obtain⟨l,h1,h2⟩:=R.obj i o ho
   refine⟨l,h1,?_⟩
   cases o<;>exact h2,R.sep,R.pre⟩
  refine Ch hC hr hzo (by omega) hfull ops.size _ σ a w.drew μ S (by simp) ?_ (by rw[hrem];simp;omega) ?_ (by rw[hrem];exact h1) A R' fun a' w' μ' S' A' R' C'=>?_
  ·simp[Array.getD_eq_getD_getElem?,show z<ops.size by omega]
  ·intro i hi x hx
   by_cases hlt:i<ops.size
   ·simp[Array.getD_eq_getD_getElem?,hlt] at hi
   ·simp[Array.getD_eq_getD_getElem?,hlt] at hi
  ·unfold oa at h
   split at h
   ·rename_i y H1 L1 hp
    cases h
    exact px hF hp hBz A'.ay R' fun w2 μ2 S2 u A2 R2 C2 hv=>hK a' w2 μ2 S2 _ A2 R2 (C'.trans C2) ⟨u,rfl,hv⟩
   ·split at h
    ·rename_i σ2 hop
     cases h
     exact gE hC hF (fun H i o h=>h) hop (.inl hBz) A'.ay R' fun a2 w2 μ2 S2 A2 R2 C2=>hK a2 w2 μ2 S2 _ A2.ay R2 (C'.trans C2) rfl
    ·simp at h
end
def Ou:IntKind→IntKind→Bool
 | .i8,.i8=>true
 | .i16,.i16=>true
 | .i32,.i32=>true
 | .i64,.i64=>true
 | .u8,.u8=>true
 | .u16,.u16=>true
 | .u32,.u32=>true
 | .u64,.u64=>true
 | _,_=>false
theorem GY {a b:IntKind}(h:Ou a b=true):a=b:=by
 cases a<;>cases b<;>first|rfl|(simp[Ou] at h)
mutual
def dI:AV→AV→Bool
 | .ptr i o,.ptr j p=>Nat.beq i j&&Nat.beq o p
 | .sl i g,.sl j h=>Nat.beq i j&&Nat.beq g h
 | .aq,.aq=>true
 | .agg a,.agg b=>uX a b
 | .mp i,.mp j=>Nat.beq i j
 | .lit (.int k i),.lit (.int l j)=>Ou k l&&decide (i=j)
 | .lit (.tuple x),.lit (.tuple y)=>Nat.beq x.size 0&&Nat.beq y.size 0
 | _,_=>false
def uX:List AV→List AV→Bool
 | [],[]=>true
 | a::as,b::bs=>dI a b&&uX as bs
 | _,_=>false
end
mutual
theorem Gm:∀ (a b:AV),dI a b=true→a=b
 | .ptr i o,b,h=>by
  cases b<;>simp only[dI,Bool.false_eq_true] at h
  simp only[Bool.and_eq_true] at h
  rw[Nat.eq_of_beq_eq_true h.1,Nat.eq_of_beq_eq_true h.2]
 | .sl i o,b,h=>by
  cases b<;>simp only[dI,Bool.false_eq_true] at h
  simp only[Bool.and_eq_true] at h
  rw[Nat.eq_of_beq_eq_true h.1,Nat.eq_of_beq_eq_true h.2]
 | .agg a,b,h=>by
  cases b<;>simp only[dI,Bool.false_eq_true] at h
  rw[BJ _ _ h]
 | .aq,b,h=>by
  cases b<;>simp only[dI,Bool.false_eq_true] at h
  rfl
 | .mp i,b,h=>by
  cases b<;>simp only[dI,Bool.false_eq_true] at h
  rw[Nat.eq_of_beq_eq_true h]
 | .lit x,b,h=>by
  cases b with
  | lit y=>
   cases x with
   | int k i=>
    cases y<;>simp only[dI,Bool.false_eq_true,Bool.and_eq_true,decide_eq_true_eq] at h
    rw[GY h.1,h.2]
   | tuple x=>
    cases y<;>simp only[dI,Bool.false_eq_true,Bool.and_eq_true] at h
    rename_i y
    have h1:=Nat.eq_of_beq_eq_true h.1
    have h2:=Nat.eq_of_beq_eq_true h.2
    have e1:x = #[]:=by simpa using h1
    have e2:y = #[]:=by simpa using h2
    rw[e1,e2]
   | _=>simp[dI] at h
  | _=>cases x<;>simp[dI] at h
 | .fn f a b,y,h=>by cases y<;>simp[dI] at h
 | .NK e x o,y,h=>by cases y<;>simp[dI] at h
 | .Fm i g k o,y,h=>by cases y<;>simp[dI] at h
 | .cont e xs,y,h=>by cases y<;>simp[dI] at h
 | .A8 l,y,h=>by cases y<;>simp[dI] at h
 | .sub i g a b,y,h=>by cases y<;>simp[dI] at h
 | .UM i n,y,h=>by cases y<;>simp[dI] at h
 | .jZ i,y,h=>by cases y<;>simp[dI] at h
 | .Db t v,y,h=>by cases y<;>simp[dI] at h
 | .gh v,y,h=>by cases y<;>simp[dI] at h
 | .YZ,y,h=>by cases y<;>simp[dI] at h
theorem BJ:∀ (as bs:List AV),uX as bs=true→as=bs
 | [],[],_=>rfl
 | [],_::_,h=>by simp[uX] at h
 | _::_,[],h=>by simp[uX] at h
 | a::as,b::bs,h=>by
  simp only[uX,Bool.and_eq_true] at h
  rw[Gm a b h.1,BJ as bs h.2]
end
def lY:Op→Bool
 | .load _ _=>true
 | .move _=>true
 | .assign _=>true
 | .nilCheck _=>true
 | .fieldAddr _ _ _=>true
 | .field _ _ _=>true
 | .extract _ _=>true
 | .indexAddr _ _ _=>true
 | .binOp _ _ _ _ _=>true
 | .unOp _ _ _=>true
 | .index _ _ _=>true
 | _=>false
def ux (m:List Nat)(z i:Nat):Bool:=!(Nat.beq i z) && !(Nat.testBit (m.getD z 0) i) && !(Nat.testBit (m.getD i 0) z)
def Fq (m:List Nat)(z i:Nat):Bool:=!(Nat.beq i z) && !(Nat.testBit (m.getD i 0) z)
def Kk (m:List Nat)(z i:Nat):Bool:=!(Nat.beq i z) && !(Nat.testBit (m.getD z 0) i)
def eR (m:List Nat)(z n:Nat):List Nat:=(List.range n).filter (Fq m z)
def BB (m:List Nat)(z n:Nat):List Nat:=(List.range n).filter (Kk m z)
def blind (ops:Array Oper)(o u:Oper):Bool:=
 match u.dst with
 | some d=>!(AE (o.looksAt ops) d)
 | none=>true
def jA (ops:Array Oper)(i u:Nat):Bool:=
 match ops[i]?,ops[u]? with
 | some o,some ou=>blind ops o ou
 | _,_=>true
def Ea (ops:Array Oper)(u:Nat):Bool:=
 match ops[u]? with
 | some o=>lY o.op
 | none=>true
def N7 (ops:Array Oper)(m:List Nat)(z:Nat):Bool:=
 (List.range ops.size).all fun u=>!(ux m z u)||(Ea ops u&&jA ops z u&&(List.range (u+1)).all fun i=>!(Kk m z i)||jA ops i u)
def r7 (C:Cons):List Oper→Nat→Option Nat
 | [],_=>none
 | o::l,n=>match o.op with
  | .call c=>match c.callee with
   | .value (.func k)=>cond ((C.rB k).isNone&&(C.aU k).isNone) (some n) (r7 C l (n+1))
   | _=>r7 C l (n+1)
  | _=>r7 C l (n+1)
def Uu (C:Cons)(ops:Array Oper)(m:List Nat):Option Nat:=
 match zy C ops m with
 | some _=>none
 | none=>match r7 C ops.toList 0 with
  | some z=>cond (N7 ops m z) (some z) none
  | none=>none
def gV (ops:Array Oper)(i:Nat):Option Tmp:=
 match ops[i]? with
 | some o=>o.dst
 | none=>none
def xV (ops:Array Oper)(i:Nat)(σ σ':St):Bool:=
 match gV ops i with
 | some d=>dI (σ'.tmps d) (σ.tmps d)
 | none=>true
def uP (P:Program)(C:Cons)(ops:Array Oper)(m:List Nat)(W:List (Option Nat))(base z:Nat):List Nat→St→Option St
 | [],σ=>some σ
 | i::l,σ=>match Ay P C ops m W base i σ with
  | some σ'=>cond (ux m z i) (cond (xV ops i σ σ') (uP P C ops m W base z l σ) none) (uP P C ops m W base z l σ')
  | none=>none
def kC (P:Program)(C:Cons)(ops:Array Oper)(m:List Nat)(W:List (Option Nat))(base z:Nat):List Nat→St→List Nat
 | [],_=>[]
 | i::l,σ=>match Ay P C ops m W base i σ with
  | some σ'=>cond (ux m z i) (kC P C ops m W base z l σ) (ef P C ops (cu base ops.size (m.getD i 0) (sY m W ops.size i) σ.heap) (base+i * 16) i σ++kC P C ops m W base z l σ')
  | none=>[]
def zH (ops:Array Oper)(m:List Nat)(z t:Nat):Bool:=(List.range ops.size).any fun u=>ux m z u&&(match gV ops u with
 | some d=>Nat.beq d t
 | none=>false)
def Bg (ops:Array Oper)(m:List Nat)(z:Nat)(σ:St):Nat→AV:=fun t=>cond (zH ops m z t) .aq (σ.tmps t)
def Ad (P:Program)(C:Cons)(F:j3)(ops:Array Oper)(m:List Nat)(W:List (Option Nat))(base z:Nat)(σ:St):Option (Ex×St):=
 match gp P C F ops (fun H=>H) (base+z * 16) z σ with
 | some (x,H',L')=>some (.gh x,⟨σ.nt,Bg ops m z σ,H',L'⟩)
 | none=>match ir P C F ops (fun H=>H) (base+z * 16) z σ with
  | some σ'=>match uP P C ops m W base z (BB m z ops.size) (σ'.ay (ef P C ops σ.heap (base+z * 16) z σ)) with
   | some σ2=>some (.dJ,σ2.ay (kC P C ops m W base z (BB m z ops.size) (σ'.ay (ef P C ops σ.heap (base+z * 16) z σ))))
   | none=>none
  | none=>none
def JY (P:Program)(C:Cons)(F:j3)(ops:Array Oper)(base z:Nat)(σ:St):Option (Ex×St):=
 cond (bW P C ops (aB ops)) (match dQ P C ops (aB ops) (qG P C ops (aB ops) base σ) base (eR (aB ops) z ops.size) σ with
  | some σ'=>Ad P C F ops (aB ops) (qG P C ops (aB ops) base σ) base z (σ'.ay (fL P C ops (aB ops) (qG P C ops (aB ops) base σ) base (eR (aB ops) z ops.size) σ))
  | none=>none) none
def nO (m:List Nat)(z n z2:Nat):List Nat:=(List.range n).filter fun i=>Kk m z i && !(Nat.beq i z2)
def tQ (P:Program)(C:Cons)(F:j3)(ops:Array Oper)(m:List Nat)(W:List (Option Nat))(base z z2:Nat)(σ:St):Option (Ex×St):=
 match gp P C F ops (fun H=>H) (base+z * 16) z σ with
 | some (x,H',L')=>some (.gh x,⟨σ.nt,Bg ops m z σ,H',L'⟩)
 | none=>match ir P C F ops (fun H=>H) (base+z * 16) z σ with
  | some σ'=>match uP P C ops m W base z (nO m z ops.size z2) (σ'.ay (ef P C ops σ.heap (base+z * 16) z σ)) with
   | some σ2=>oa P C F ops base z2 (σ2.ay (kC P C ops m W base z (nO m z ops.size z2) (σ'.ay (ef P C ops σ.heap (base+z * 16) z σ))))
   | none=>none
  | none=>none
def yE (P:Program)(C:Cons)(F:j3)(ops:Array Oper)(base z z2:Nat)(σ:St):Option (Ex×St):=
 cond (bW P C ops (aB ops)) (match dQ P C ops (aB ops) (qG P C ops (aB ops) base σ) base (eR (aB ops) z ops.size) σ with
  | some σ'=>tQ P C F ops (aB ops) (qG P C ops (aB ops) base σ) base z z2 (σ'.ay (fL P C ops (aB ops) (qG P C ops (aB ops) base σ) base (eR (aB ops) z ops.size) σ))
  | none=>none) none
def UZ (C:Cons)(ops:Array Oper)(m:List Nat):Option (Nat×Nat):=
 match zy C ops m with
 | some z2=>match r7 C ops.toList 0 with
  | some z=>cond (mG z z2&&N7 ops m z) (some (z,z2)) none
  | none=>none
 | none=>none
def iM (P:Program)(C:Cons)(F:j3)(ops:Array Oper)(base:Nat)(σ:St):Option (Ex×St):=
 match UZ C ops (aB ops) with
 | some (z,z2)=>yE P C F ops base z z2 σ
 | none=>match Uu C ops (aB ops) with
  | some z=>JY P C F ops base z σ
  | none=>qW P C F ops base σ
section
variable [ar]{F:j3}{P:Program}{C:Cons}{ops:Array Oper}{σ σ' σ1 σ2 τ:St}{m:List Nat}{W:List (Option Nat)}{base z:Nat}
omit [ar] in
theorem PM {H:Heap}{id:Nat}{o:Oper}{ρ:Operand→AV}{out:Out}(hs:lY o.op=true)(h:sem P H id o ρ=some out):∃ c v,out = .val c v:=by
 obtain⟨dst,op,ty,pos,af,gd⟩:=o
 unfold sem at h
 cases op<;>simp only[lY,Bool.false_eq_true] at hs<;>simp only at h
 case move x=>cases h;exact⟨_,_,rfl⟩
 case assign x=>cases h;exact⟨_,_,rfl⟩
 case load t a=>
  unfold BS at h;(repeat' split at h)<;>first|(cases h;exact⟨_,_,rfl⟩)|(simp at h;done)|skip
  all_goals (obtain⟨_,h⟩:=aD h;(repeat' split at h)<;>first|(cases h;exact⟨_,_,rfl⟩)|simp at h)
 case fieldAddr s x f=>
  unfold rG at h
  split at h
  case h_2=>simp at h
  split at h
  case h_2=>simp at h
  split at h
  case h_2=>simp at h
  rename_i ti _
  cases h0:Nat.beq ti.size 0<;>rw[h0] at h<;>simp only[cond_true,cond_false,reduceCtorEq] at h
  (repeat' split at h)<;>first|(cases h;exact⟨_,_,rfl⟩)|(simp at h;done)|(have h:=(aD h).2;cases h;exact⟨_,_,rfl⟩)
 case field s x f=>unfold Bh at h;(repeat' split at h)<;>first|(cases h;exact⟨_,_,rfl⟩)|simp at h
 case nilCheck x=>unfold Qz at h;(repeat' split at h)<;>first|(cases h;exact⟨_,_,rfl⟩)|(simp at h;done)|(have h:=(aD h).2;cases h;exact⟨_,_,rfl⟩)
 case binOp op t x y yt=>
  unfold Qs at h;split at h
  ·split at h<;>first|(cases h;exact⟨_,_,rfl⟩)|simp at h
  ·have h:=(cM h).2
   (repeat' split at h)<;>first|(cases h;exact⟨_,_,rfl⟩)|simp at h
  ·(repeat' split at h)<;>first|(cases h;exact⟨_,_,rfl⟩)|simp at h
  ·simp at h
 case unOp op t x=>unfold oUn at h;(repeat' split at h)<;>first|(cases h;exact⟨_,_,rfl⟩)|simp at h
 case extract t i=>unfold OZ at h;(repeat' split at h)<;>first|(cases h;exact⟨_,_,rfl⟩)|simp at h
 case index t x i=>unfold uv at h;(repeat' split at h)<;>first|(cases h;exact⟨_,_,rfl⟩)|simp at h
 case indexAddr t x i=>unfold Gl oAt at h;(repeat' split at h)<;>first|(cases h;exact⟨_,_,rfl⟩)|(simp at h;done)|(have h:=(aD h).2;cases h;exact⟨_,_,rfl⟩)
omit [ar] in
theorem K7 {Hh:Heap}{id:Nat}{o:Oper}{e:NQ}(hs:lY o.op=true)(h:gZ P C ops Hh id o σ=some e):e.sets=[]:=by
 unfold gZ at h
 cases hw:want ops σ o with
 | none=>rw[hw] at h;simp at h
 | some b=>
  rw[hw] at h
  cases b with
  | false=>simp only[Option.some.injEq] at h;subst h;rfl
  | true=>
   simp only at h
   unfold bn at h
   cases hsm:sem P Hh id o σ.val with
   | none=>rw[hsm] at h;simp at h
   | some out=>
    obtain⟨c,v,rfl⟩:=PM hs hsm
    rw[hsm] at h
    simp only at h
    obtain⟨_,rfl⟩:=aj h
    rfl
structure AB (T:Nat→Prop)(σ σ':St):Prop where
 nt:σ'.nt=σ.nt
 heap:σ'.heap=σ.heap
 tmp:∀ t,¬ T t→σ'.tmps t=σ.tmps t
omit [ar] in
theorem AB.refl {T:Nat→Prop}{σ:St}:AB T σ σ:=⟨rfl,rfl,fun _ _=>rfl⟩
omit [ar] in
theorem AB.mono {T T':Nat→Prop}{σ σ':St}(h:AB T σ σ')(hT:∀ t,T t→T' t):AB T' σ σ':=⟨h.nt,h.heap,fun t ht=>h.tmp t fun k=>ht (hT t k)⟩
omit [ar] in
theorem Nl {T:Nat→Prop}{id:Nat}{dst:Option Tmp}{e:NQ}(hO:AB T σ σ')(h:σ.IQ id dst e=some τ):∃ τ',σ'.IQ id dst e=some τ'∧AB (fun t=>T t∧dst≠some t) τ τ':=by
 obtain⟨h1,h2⟩:=pP h
 cases dst with
 | none=>
  simp only[St.put,St.with,Option.some.injEq] at h2;subst h2
  refine⟨⟨σ'.nt,σ'.tmps,bh σ.heap e.sets,σ'.ids⟩,Cs (fun hn=>by rw[hO.heap];exact h1 hn) (by simp only[St.put,St.with,hO.heap]),⟨hO.nt,rfl,fun t ht=>hO.tmp t fun k=>ht ⟨k,by simp⟩⟩⟩
 | some d=>
  obtain⟨c,rfl⟩:=aj h2
  refine⟨⟨σ'.nt,aU σ'.tmps d e.v,bh σ.heap e.sets,σ'.ids⟩,Cs (fun hn=>by rw[hO.heap];exact h1 hn) ?_,⟨hO.nt,rfl,fun t ht=>?_⟩⟩
  ·simp only[St.put,St.with] at c ⊢
   rw[hO.nt,c,hO.heap];rfl
  ·simp only[St.with]
   by_cases e:t=d
   ·subst e;rw[ax,ax]
   ·rw[aA _ _ e,aA _ _ e]
    exact hO.tmp t fun k=>ht ⟨k,fun x=>e (by cases x;rfl)⟩
omit [ar] in
theorem Nu {T:Nat→Prop}{i:Nat}{o:Oper}(ho:ops[i]? = some o)(hO:AB T σ σ')(hl:∀ t∈o.looksAt ops,¬ T t)(h:Ay P C ops m W base i σ=some τ) :
  ∃ τ',Ay P C ops m W base i σ'=some τ'∧AB (fun t=>T t∧o.dst≠some t) τ τ':=by
 unfold Ay at h ⊢
 obtain⟨h0,h⟩:=aD h
 have ht:∀ t,t∈o.looksAt ops→σ'.tmps t=σ.tmps t:=fun t k=>hO.tmp t (hl t k)
 rw[oK ho hO.nt ht,h0]
 rw[gx ho] at h ⊢
 rw[hO.heap,nE (H:=cu base ops.size (m.getD i 0) (sY m W ops.size i) σ.heap) hO.nt ht (fun _=>rfl)]
 cases he:gZ P C ops (cu base ops.size (m.getD i 0) (sY m W ops.size i) σ.heap) (base+i * 16) o σ with
 | none=>rw[he] at h;simp at h
 | some e=>
  rw[he] at h
  simp only[cond_true] at h ⊢
  exact Nl hO h
omit [ar] in
theorem BP {i:Nat}{o:Oper}(ho:ops[i]? = some o)(hs:lY o.op=true)(h:Ay P C ops m W base i σ=some τ):τ.nt=σ.nt∧τ.heap=σ.heap∧τ.ids=σ.ids∧∀ t,o.dst≠some t→τ.tmps t=σ.tmps t:=by
 unfold Ay at h
 obtain⟨_,h⟩:=aD h
 rw[gx ho] at h
 cases he:gZ P C ops (cu base ops.size (m.getD i 0) (sY m W ops.size i) σ.heap) (base+i * 16) o σ with
 | none=>rw[he] at h;simp at h
 | some e=>
  rw[he] at h
  simp only at h
  obtain⟨h1,h2⟩:=pP h
  obtain⟨f1,f2,f3⟩:=uT h2
  refine⟨f1,by rw[f2,K7 hs he];rfl,?_,f3⟩
  have:=(kO h2).2
  exact this
omit [ar] in
theorem qK:∀ (l:List Nat) (σ τ:St),(∀ i∈l,∃ o,ops[i]? = some o∧lY o.op=true)→dQ P C ops m W base l σ=some τ →
  AB (fun t=>∃ i∈l,gV ops i=some t) τ σ∧τ.ids=σ.ids
 | [],σ,τ,_,h=>by
  simp only[dQ,Option.some.injEq] at h;subst h
  exact⟨AB.refl,rfl⟩
 | i::l,σ,τ,hs,h=>by
  simp only[dQ] at h
  split at h
  case h_2=>simp at h
  rename_i σ1 h1
  obtain⟨o,ho,hst⟩:=hs i (by simp)
  obtain⟨f1,f2,f3,f4⟩:=BP ho hst h1
  obtain⟨g,g2⟩:=qK l σ1 τ (fun j hj=>hs j (by simp[hj])) h
  refine⟨⟨by rw[← f1,g.nt],by rw[← f2,g.heap],fun t ht=>?_⟩,by rw[g2,f3]⟩
  rw[← g.tmp t fun⟨j,hj,hd⟩=>ht ⟨j,by simp[hj],hd⟩]
  refine (f4 t fun hd=>ht ⟨i,by simp,?_⟩).symm
  unfold gV;rw[ho];exact hd
omit [ar] in
theorem qT {i u t:Nat}{o:Oper}(ho:ops[i]? = some o)(hb:jA ops i u=true)(hd:gV ops u=some t):t∉o.looksAt ops:=by
 unfold gV at hd
 split at hd
 case h_2=>simp at hd
 rename_i ou hu
 unfold jA at hb
 rw[ho,hu] at hb
 simp only[blind,hd] at hb
 intro ht
 unfold AE at hb
 simp only[Bool.not_eq_true',List.any_eq_false] at hb
 exact hb t ht (Nat.beq_refl t)
structure Bp (ops:Array Oper)(m:List Nat)(z:Nat):Prop where
 still:∀ u o,ops[u]? = some o→ux m z u=true→lY o.op=true
 call:∀ u,u<ops.size→ux m z u=true→jA ops z u=true
 back:∀ u,u<ops.size→ux m z u=true→∀ i,i≤u→Kk m z i=true→jA ops i u=true
omit [ar] in
theorem Aq (h:N7 ops m z=true):Bp ops m z:=by
 unfold N7 at h
 simp only[List.all_eq_true,List.mem_range,Bool.or_eq_true,Bool.not_eq_true',Bool.and_eq_true] at h
 have key:∀ u,u<ops.size→ux m z u=true→(Ea ops u=true∧jA ops z u=true)∧∀ i,i<u+1→Kk m z i=false∨jA ops i u=true:=by
  intro u hu hU
  rcases h u hu with h|h
  ·rw[hU] at h;simp at h
  ·exact h
 refine⟨fun u o ho hU=>?_,fun u hu hU=>(key u hu hU).1.2,fun u hu hU i hi hB=>?_⟩
 ·have:=(key u (Array.getElem?_eq_some_iff.1 ho).1 hU).1.1
  unfold Ea at this
  rw[ho] at this
  exact this
 ·rcases (key u hu hU).2 i (by omega) with h|h
  ·rw[hB] at h;simp at h
  ·exact h
omit [ar] in
theorem Ax (hM:Bp ops m z)(und:Nat→Bool):∀ (l:List Nat) (σ σ' τ:St),l.Pairwise (· < ·)→(∀ i∈l,i<ops.size∧Kk m z i=true)→(∀ i∈l,ux m z i=false→und i=true) →
  AB (fun t=>∃ u∈l,ux m z u=true∧und u=true∧gV ops u=some t) σ σ'→uP P C ops m W base z l σ=some τ →
  ∃ τ',dQ P C ops m W base (l.filter und) σ'=some τ'∧AB (fun _=>False) τ τ'
 | [],σ,σ',τ,_,_,_,hO,h=>by
  simp only[uP,Option.some.injEq] at h;subst h
  exact⟨σ',rfl,hO.mono fun t ⟨u,hu,_⟩=>by simp at hu⟩
 | i::l,σ,σ',τ,hp,hl,hd,hO,h=>by
  simp only[uP] at h
  split at h
  case h_2=>simp at h
  rename_i σ1 h1
  have hp2:=List.pairwise_cons.1 hp
  have hin:=(hl i (by simp)).1
  have ho:ops[i]? = some ops[i]:=by simp[hin]
  have hlook:∀ t∈ops[i].looksAt ops,¬ ∃ u∈i::l,ux m z u=true∧und u=true∧gV ops u=some t:=by
   rintro t ht ⟨u,hu,hU,_,hdu⟩
   have hle:i≤u:=by
    rcases List.mem_cons.1 hu with rfl|hu
    ·exact Nat.le_refl _
    ·exact Nat.le_of_lt (hp2.1 u hu)
   exact qT ho (hM.back u (hl u hu).1 hU i hle (hl i (by simp)).2) hdu ht
  have hdst:gV ops i=ops[i].dst:=by unfold gV;rw[ho]
  have rest:=fun σ σ' hO h=>Ax hM und l σ σ' τ hp2.2 (fun j hj=>hl j (by simp[hj])) (fun j hj=>hd j (by simp[hj])) hO h
  cases hU:ux m z i with
  | true=>
   rw[hU] at h
   obtain⟨hsame,h⟩:=aD h
   cases hu:und i with
   | false=>
    rw[List.filter_cons_of_neg (by rw[hu];simp)]
    refine rest σ σ' (hO.mono ?_) h
    rintro t ⟨u,hm,q1,q2,q3⟩
    rcases List.mem_cons.1 hm with rfl|hm
    ·rw[hu] at q2;simp at q2
    ·exact⟨u,hm,q1,q2,q3⟩
   | true=>
    rw[List.filter_cons_of_pos (by exact hu)]
    obtain⟨σ1',k1,k2⟩:=Nu ho hO hlook h1
    obtain⟨f1,f2,f3,f4⟩:=BP ho (hM.still i _ ho hU) h1
    simp only[dQ,k1]
    refine rest σ σ1' ⟨by rw[k2.nt,f1],by rw[k2.heap,f2],fun t ht=>?_⟩ h
    have hT:¬ ((∃ u∈i::l,ux m z u=true∧und u=true∧gV ops u=some t)∧ops[i].dst≠some t):=by
     rintro ⟨⟨u,hm,q1,q2,q3⟩,q4⟩
     rcases List.mem_cons.1 hm with rfl|hm
     ·exact q4 (by rw[← hdst];exact q3)
     ·exact ht ⟨u,hm,q1,q2,q3⟩
    rw[k2.tmp t hT]
    by_cases e:ops[i].dst=some t
    ·unfold xV at hsame
     rw[hdst,e] at hsame
     exact Gm _ _ hsame
    ·exact f4 t e
  | false=>
   rw[hU] at h
   simp only[cond_false] at h
   rw[List.filter_cons_of_pos (by exact hd i (by simp) hU)]
   obtain⟨σ1',k1,k2⟩:=Nu ho hO hlook h1
   simp only[dQ,k1]
   refine rest σ1 σ1' (k2.mono ?_) h
   rintro t ⟨⟨u,hm,q1,q2,q3⟩,q4⟩
   rcases List.mem_cons.1 hm with rfl|hm
   ·rw[hU] at q1;simp at q1
   ·exact⟨u,hm,q1,q2,q3⟩
section
variable {T:Nat→Prop}{i:Nat}{o:Oper}{hide:Heap→Heap}{id:Nat}
omit [ar] in
theorem BI (ho:ops[i]? = some o)(hO:AB T σ σ')(hl:∀ t∈o.looksAt ops,¬ T t)(Hh:Heap):bn P C Hh id o σ'.val=bn P C Hh id o σ.val∧(∀ H L,fU P C F Hh id o σ'.val H L=fU P C F Hh id o σ.val H L)∧(∀ x∈o.op.operands,σ'.val x=σ.val x):=by
 have hx:∀ x∈o.op.operands,σ'.val x=σ.val x:=fun x hx=>val_congr hO.nt fun t e=>by
  subst e
  refine hO.tmp t (hl t ?_)
  unfold Oper.looksAt
  exact List.mem_append.2 (.inl (List.mem_filterMap.2 ⟨.tmp t,by simpa using hx,rfl⟩))
 refine⟨wO hx,fun H L=>?_,hx⟩
 unfold fU
 rw[Bv hx]
omit [ar] in
theorem Gv (ho:ops[i]? = some o)(hO:AB T σ σ')(hids:σ'.ids=σ.ids)(hl:∀ t∈o.looksAt ops,¬ T t)(h:ir P C F ops hide id i σ=some τ) :
  ∃ τ',ir P C F ops hide id i σ'=some τ'∧AB T τ τ':=by
 unfold ir at h ⊢
 rw[ho] at h ⊢
 simp only at h ⊢
 rw[rF hO.nt fun t k=>hO.tmp t (hl t k),hO.heap,hids]
 obtain⟨e1,e2,_⟩:=BI (P:=P) (C:=C) (F:=F) (id:=id) ho hO hl (hide σ.heap)
 have put:∀ {H:Heap} {L:List Nat} {v:AV},(⟨σ.nt,σ.tmps,H,L⟩:St).put o.dst v=some τ→∃ τ',(⟨σ'.nt,σ'.tmps,H,L⟩:St).put o.dst v=some τ'∧AB T τ τ':=by
  intro H L v h
  cases hd:o.dst with
  | none=>
   rw[hd] at h
   simp only[St.put,Option.some.injEq] at h;subst h
   exact⟨_,rfl,hO.nt,rfl,hO.tmp⟩
  | some d=>
   rw[hd] at h
   obtain⟨c,rfl⟩:=aj h
   simp only at c
   refine⟨⟨σ'.nt,aU σ'.tmps d v,H,L⟩,by simp only[St.put];rw[hO.nt,c];rfl,hO.nt,rfl,fun t ht=>?_⟩
   by_cases e:t=d
   ·subst e;simp only[ax]
   ·simp only[aA _ _ e];exact hO.tmp t ht
 cases hw:want ops σ o with
 | none=>rw[hw] at h;simp at h
 | some b=>
  rw[hw] at h
  cases b with
  | false=>obtain⟨nt',tm',hp',id'⟩:=σ';obtain⟨nt0,tm0,hp0,id0⟩:=σ;simp only at hids;have:=hO.heap;simp only at this;subst hids;subst this;exact put h
  | true=>
   simp only at h ⊢
   rw[e1,e2]
   cases he:bn P C (hide σ.heap) id o σ.val with
   | some e=>
    rw[he] at h
    simp only at h ⊢
    obtain⟨τ',k1,k2⟩:=Nl hO h
    exact⟨τ',k1,k2.mono fun t h=>h.1⟩
   | none=>
    rw[he] at h
    simp only at h ⊢
    cases hi:fU P C F (hide σ.heap) id o σ.val σ.heap σ.ids with
    | none=>rw[hi] at h;simp at h
    | some p=>
     obtain⟨v,H',L'⟩:=p
     rw[hi] at h
     simp only at h ⊢
     cases hp:v.e7 with
     | true=>rw[hp] at h;simp at h
     | false=>
      rw[hp] at h
      simp only[cond_false] at h ⊢
      exact put h
omit [ar] in
theorem BT (ho:ops[i]? = some o)(hO:AB T σ σ')(hids:σ'.ids=σ.ids)(hl:∀ t∈o.looksAt ops,¬ T t):gp P C F ops hide id i σ'=gp P C F ops hide id i σ:=by
 unfold gp
 rw[ho]
 simp only
 rw[rF hO.nt fun t k=>hO.tmp t (hl t k),hO.heap,hids]
 obtain⟨e1,e2,e3⟩:=BI (P:=P) (C:=C) (F:=F) (id:=id) ho hO hl (hide σ.heap)
 rw[e1,e2]
 cases hop:o.op with
 | panic x=>simp only;rw[e3 x (by rw[hop];simp[Op.operands])]
 | _=>rfl
end
def kQ (m:List Nat)(n z:Nat)(L:Array Bool):List Nat:=(rem n L).filter (Fq m z)
omit [ar] in
theorem Be {n:Nat}{f:Nat→Bool}:(List.filter f (List.range n)).Pairwise (· < ·):=List.Pairwise.filter _ List.pairwise_lt_range
theorem SH (hC:bV P C)(hF:dl P F){r:Option Nat}{N:an}{Dt:Bool×List Deferred}{B:Nat}{w0:World}{Q:Exit→Act→World→Prop}(hr:Jd P C ops m)(hM:Bp ops m z)
  (hzn:z<ops.size) {σA:St} {L0:List Nat} {e:Ex} (hfin:Ad P C F ops m W base z (σA.ay L0)=some (e,σ')) (hB:Bd (σA.ay L0)) :
  ∀ (fuel:Nat) (L:Array Bool) (σ:St) (a:Act) (w:World) (μ:Mu) (S:an),L.size=ops.size→L.getD z true=false→(rem ops.size L).length≤fuel→qI m L →
   dQ P C ops m W base (kQ m ops.size z L) σ=some σA→AR N Dt μ S σ a→Rel μ S σ.heap B w0 w →
   (∀ a' w' μ' S' x,AR N Dt μ' S' σ' a'→Rel μ' S' σ'.heap B w0 w'→Carry B μ S σ.heap μ' S' σ'.heap→e.Is μ' S' σ'.heap x→Q x a' w') →
   wpAnyIn (WF r) 0 P .any ops Q fuel L a w:=by
 intro fuel
 induction fuel with
 | zero=>
  intro L σ a w μ S hs hz hf
  exfalso
  have hnil:rem ops.size L=[]:=List.eq_nil_of_length_eq_zero (by omega)
  have:z∈rem ops.size L:=List.mem_filter.2 ⟨List.mem_range.2 hzn,by rw[hz];rfl⟩
  rw[hnil] at this;simp at this
 | succ fuel ih=>
  intro L σ a w μ S hs hz hf hcl h A R hK
  refine⟨fun hrd=>?_,fun i hi=>?_⟩
  ·
   exfalso
   have all:∀ i,i<ops.size→L.getD i true=true:=by
    intro i
    induction i using Nat.strongRecOn with
    | _ i ih2=>
     intro hi
     cases hd:L.getD i true with
     | true=>rfl
     | false=>
      have ho:ops[i]? = some ops[i]:=by simp[hi]
      have:=sw ho hd fun e he hb=>by
       have hlt:=hr.Vz i _ ho e he hb
       have:=ih2 e.on hlt (by omega)
       have hsz:e.on<L.size:=by omega
       simpa [Array.getD_eq_getD_getElem?,hsz] using this
      rw[hrd] at this;simp at this
   rw[all z hzn] at hz;simp at hz
  ·obtain⟨hin,hli,oi,hoi,hed⟩:=gC hi
   have hsz:i<L.size:=by omega
   have ahead:∀ x,Nat.testBit (m.getD i 0) x=true→L.getD x false=true:=by
    intro x hb
    rw[hr.mask i oi hoi] at hb
    rcases cB m x _ _ hb with h0|⟨e,he,hbd,h0⟩
    ·simp at h0
    ·have hle:=hed e he hbd
     rcases h0 with rfl|h0
     ·exact hle
     ·exact hcl e.on hle x h0
   have hcl2:qI m (L.setIfInBounds i true):=by
    intro j hj x hx
    rw[bN false hsz] at hj ⊢
    by_cases e:x=i
    ·rw[if_pos e]
    ·rw[if_neg e]
     by_cases ej:j=i
     ·subst ej;exact ahead x hx
     ·rw[if_neg ej] at hj
      exact hcl j hj x hx
   obtain⟨p,s,e1,e2,hp⟩:=kM hs hin hli
   have hf2:(rem ops.size (L.setIfInBounds i true)).length≤fuel:=by
    rw[e1] at hf;rw[e2];simp at hf ⊢;omega
   by_cases hiz:i=z
   ·
    subst hiz
    have doneT:∀ x,x<ops.size→Nat.testBit (m.getD i 0) x=true→L.getD x true=true:=by
     intro x hx hb
     have:=ahead x hb
     have hsz:x<L.size:=by omega
     simpa [Array.getD_eq_getD_getElem?,hsz] using this
    have hRU:∀ x∈kQ m ops.size i L,x<ops.size∧ux m i x=true:=by
     intro x hx
     obtain⟨h1,h2⟩:=List.mem_filter.1 hx
     obtain⟨h3,h4⟩:=List.mem_filter.1 h1
     have hxn:=List.mem_range.1 h3
     refine⟨hxn,?_⟩
     unfold Fq at h2
     unfold ux
     simp only[Bool.and_eq_true,Bool.not_eq_true'] at h2 h4 ⊢
     refine⟨⟨h2.1,?_⟩,h2.2⟩
     cases hb:Nat.testBit (m.getD i 0) x with
     | false=>rfl
     | true=>rw[doneT x hxn hb] at h4;simp at h4
    obtain⟨hO0,hids⟩:=qK _ σ σA (fun x hx=>by
     have hx2:=hRU x hx
     exact⟨ops[x],by simp[hx2.1],hM.still x _ (by simp[hx2.1]) hx2.2⟩) h
    have hO:AB (fun t=>∃ u∈kQ m ops.size i L,gV ops u=some t) (σA.ay L0) (σ.ay L0):=⟨hO0.nt,hO0.heap,hO0.tmp⟩
    have hids2:(σ.ay L0).ids=(σA.ay L0).ids:=by simp only[St.ay,hids]
    have hlook:∀ t∈oi.looksAt ops,¬ ∃ u∈kQ m ops.size i L,gV ops u=some t:=by
     rintro t ht ⟨u,hu,hd⟩
     have hu2:=hRU u hu
     exact qT hoi (hM.call u hu2.1 hu2.2) hd ht
    have hBσ:Bd (σ.ay L0):=by
     intro q hq
     rw[hids2]
     refine hB q ?_
     rw[← hO.heap];exact hq
    unfold Ad at hfin
    split at hfin
    ·rename_i y H1 L1 hpan
     cases hfin
     rw[← BT hoi hO hids2 hlook] at hpan
     refine px hF hpan hBσ A.ay R fun w2 μ2 S2 u A2 R2 C2 hv=>hK a w2 μ2 S2 _ ⟨A2.defers,?_,fun t ht=>?_⟩ R2 C2 ⟨u,rfl,hv⟩
     ·rw[A2.size];exact hO.nt
     ·have hnt:(σ.ay L0).nt=(σA.ay L0).nt:=hO.nt
      have:=A2.tmp t (by simp only at ht ⊢;rw[hnt];exact ht)
      simp only[Bg]
      cases hu:zH ops m i t with
      | true=>simp only[cond_true,VR]
      | false=>
       simp only[cond_false]
       rw[← hO.tmp t ?_];exact this
       rintro ⟨u,hu',hd⟩
       have hu2:=hRU u hu'
       have:zH ops m i t=true:=by
        unfold zH
        rw[List.any_eq_true]
        exact⟨u,List.mem_range.2 hu2.1,by rw[hu2.2,hd];simp⟩
       rw[hu] at this;simp at this
    ·split at hfin
     case h_2=>simp at hfin
     rename_i σ2 hop
     split at hfin
     case h_2=>simp at hfin
     rename_i σ3 hre
     cases hfin
     obtain⟨σ2',hop',hO2⟩:=Gv hoi hO hids2 hlook hop
     refine gE hC hF (fun H i o h=>h) hop' (.inl hBσ) A.ay R fun a2 w2 μ2 S2 A2 R2 C2=>?_
     have hund:(BB m i ops.size).filter (fun x=>!(L.setIfInBounds i true).getD x true)=rem ops.size (L.setIfInBounds i true):=by
      unfold BB rem
      rw[List.filter_filter]
      refine List.filter_congr fun x hx=>?_
      have hxn:=List.mem_range.1 hx
      rw[bN true hsz]
      by_cases e:x=i
      ·rw[if_pos e];rfl
      ·rw[if_neg e]
       cases hd:L.getD x true with
       | true=>rfl
       | false=>
        simp only[Bool.not_false,Bool.true_and,Kk,Bool.and_eq_true,Bool.not_eq_true']
        refine⟨?_,?_⟩
        ·cases hb:Nat.beq x i with
         | false=>rfl
         | true=>exact absurd (Nat.eq_of_beq_eq_true hb) e
        ·cases hb:Nat.testBit (m.getD i 0) x with
         | false=>rfl
         | true=>rw[doneT x hxn hb] at hd;simp at hd
     obtain⟨σ3',k1,k2⟩:=Ax (P:=P) (C:=C) (W:=W) (base:=base) hM (fun x=>!(L.setIfInBounds i true).getD x true) (BB m i ops.size) (σ2.ay (ef P C ops (σA.ay L0).heap (base+i * 16) i (σA.ay L0))) (σ2'.ay []) σ3 Be (fun x hx=>by
       obtain⟨h1,h2⟩:=List.mem_filter.1 hx
       exact⟨List.mem_range.1 h1,h2⟩) (fun x hx hU=>by
       obtain⟨h1,h2⟩:=List.mem_filter.1 hx
       have hxn:=List.mem_range.1 h1
       have hxi:x≠i:=by
        intro e;subst e
        unfold Kk at h2
        simp at h2
       have hb:Nat.testBit (m.getD x 0) i=true:=by
        unfold Kk at h2
        unfold ux at hU
        cases hb:Nat.testBit (m.getD x 0) i with
        | true=>rfl
        | false=>rw[h2,hb] at hU;simp at hU
       rw[bN true hsz,if_neg hxi]
       cases hd:L.getD x true with
       | false=>rfl
       | true=>
        exfalso
        have hxs:x<L.size:=by omega
        have h3:=hcl x (by simpa [Array.getD_eq_getD_getElem?,hxs] using hd) i hb
        have h4:L.getD i true=true:=by simpa [Array.getD_eq_getD_getElem?,hsz] using h3
        rw[h4] at hz;simp at hz) (AB.mono (T:=fun t=>∃ u∈kQ m ops.size i L,gV ops u=some t) ⟨hO2.nt,hO2.heap,hO2.tmp⟩ (by
       rintro t ⟨u,hu,hd⟩
       have hu2:=hRU u hu
       obtain⟨h1,_⟩:=List.mem_filter.1 hu
       obtain⟨_,h4⟩:=List.mem_filter.1 h1
       have hne:u≠i:=by
        intro e;subst e
        have:=hu2.2
        unfold ux at this
        simp at this
       refine⟨u,List.mem_filter.2 ⟨List.mem_range.2 hu2.1,?_⟩,hu2.2,?_,hd⟩
       ·have:=hu2.2
        unfold ux at this
        unfold Kk
        simp only[Bool.and_eq_true] at this ⊢
        exact this.1
       ·rw[bN true hsz,if_neg hne];exact h4)) hre
     rw[hund] at k1
     refine J5 hC hr fuel _ (σ2'.ay []) a2 w2 μ2 S2 (by simp[hs]) hf2 hcl2 k1 A2.ay R2 fun a3 w3 μ3 S3 A3 R3 C3=>?_
     have hheap:σ3'.heap=σ3.heap:=k2.heap
     rw[hheap] at R3 C3
     refine hK a3 w3 μ3 S3 _ ⟨A3.defers,by rw[A3.size];exact k2.nt,fun t ht=>?_⟩ R3 (C2.trans C3) rfl
     have:=A3.tmp t (by rw[k2.nt];exact ht)
     rw[hheap,k2.tmp t (fun h=>h)] at this
     exact this
   ·
    have hAi:Fq m z i=true:=by
     unfold Fq
     simp only[Bool.and_eq_true,Bool.not_eq_true']
     refine⟨?_,?_⟩
     ·cases hb:Nat.beq i z with
      | true=>exact absurd (Nat.eq_of_beq_eq_true hb) hiz
      | false=>rfl
     ·cases hb:Nat.testBit (m.getD i 0) z with
      | false=>rfl
      | true=>
       exfalso
       have h3:=ahead z hb
       have hzs:z<L.size:=by omega
       have h4:L.getD z true=true:=by simpa [Array.getD_eq_getD_getElem?,hzs] using h3
       rw[h4] at hz;simp at hz
    have f1:kQ m ops.size z L=(p.filter (Fq m z))++i::(s.filter (Fq m z)):=by
     unfold kQ
     rw[e1,List.filter_append,List.filter_cons_of_pos (by exact hAi)]
    have f2:kQ m ops.size z (L.setIfInBounds i true)=(p.filter (Fq m z))++(s.filter (Fq m z)):=by
     unfold kQ
     rw[e2,List.filter_append]
    rw[f1] at h
    have hind:∀ x∈(p.filter (Fq m z)),x≠i∧∃ ox,ops[x]? = some ox∧indep P C ops m x i ox oi=true:=by
     intro x hx
     have hx:=(List.mem_filter.1 hx).1
     obtain⟨hlt,hlx⟩:=hp x hx
     have hox:ops[x]? = some ops[x]:=by simp[show x<ops.size from by omega]
     refine⟨by omega,_,hox,?_⟩
     rcases hr.pair x i hlt _ _ hox hoi with hb|hb
     ·exfalso
      have hLx:=ahead x hb
      have hsz:x<L.size:=by omega
      simp[Array.getD_eq_getD_getElem?,hsz] at hLx hlx
      rw[hLx] at hlx;simp at hlx
     ·exact hb
    obtain⟨σ1,k1,k2⟩:=front hoi _ _ σ hind h
    unfold Ay at k1
    obtain⟨_,k1⟩:=aD k1
    refine gE hC (F:=dX) (fun _ _ _ _ _ _ _ _ h=>by simp[dX] at h) (fun H j o h=>(gA h).2.1) k1 (.inr rfl) A R fun a1 w1 μ1 S1 A1 R1 C1=>?_
    refine ih (L.setIfInBounds i true) σ1 a1 w1 μ1 S1 (by simp[hs]) ?_ hf2 hcl2 (by rw[f2];exact k2) A1 R1 (fun a' w' μ' S' x A' R' C' hx=>hK a' w' μ' S' x A' R' (C1.trans C') hx)
    rw[bN true hsz,if_neg (fun e=>hiz e.symm)];exact hz
omit [ar] in
theorem sK:∀ (l:List Nat) (σ σ':St) (L:List Nat),uP P C ops m W base z l σ=some σ'→Bd (σ.ay L)→Bd (σ'.ay (L++kC P C ops m W base z l σ))
 | [],σ,σ',L,h,hB=>by
  simp only[uP,Option.some.injEq] at h;subst h
  intro q hq
  have:=hB q hq
  simpa [kC,St.ay] using this
 | i::l,σ,σ',L,h,hB=>by
  simp only[uP] at h
  split at h
  case h_2=>simp at h
  rename_i σ1 h1
  have one:=iE (P:=P) (C:=C) (ops:=ops) (m:=m) (W:=W) (base:=base) [i] σ σ1 L (by simp only[dQ,h1]) hB
  cases hU:ux m z i with
  | true=>
   rw[hU] at h
   obtain⟨_,h⟩:=aD h
   have:=sK l σ σ' L h hB
   simp only[kC,h1,hU,cond_true]
   exact this
  | false=>
   rw[hU] at h
   simp only[cond_false] at h
   have:=sK l σ1 σ' _ h one
   simp only[kC,h1,hU,cond_false]
   simp only[fL,h1,List.append_nil] at this
   rw[← List.append_assoc];exact this
theorem Ps (hC:bV P C)(hF:dl P F){r:Option Nat}{N:an}{Dt:Bool×List Deferred}{B:Nat}{w0:World}{Q:Exit→Act→World→Prop}(hr:Jd P C ops m)(hM:Bp ops m z)
  {z2:Nat} (hzn:z<z2) (CA:z2+1=ops.size) (hfull:∀ x,x<z2→Nat.testBit (m.getD z2 0) x=true) {σA:St} {L0:List Nat} {e:Ex} (hfin:tQ P C F ops m W base z z2 (σA.ay L0)=some (e,σ')) (hB:Bd (σA.ay L0)) :
  ∀ (fuel:Nat) (L:Array Bool) (σ:St) (a:Act) (w:World) (μ:Mu) (S:an),L.size=ops.size→L.getD z true=false→(rem ops.size L).length≤fuel→qI m L →
   dQ P C ops m W base (kQ m ops.size z L) σ=some σA→AR N Dt μ S σ a→Rel μ S σ.heap B w0 w →
   (∀ a' w' μ' S' x,AR N Dt μ' S' σ' a'→Rel μ' S' σ'.heap B w0 w'→Carry B μ S σ.heap μ' S' σ'.heap→e.Is μ' S' σ'.heap x→Q x a' w') →
   wpAnyIn (WF r) 0 P .any ops Q fuel L a w:=by
 have hzn':z<ops.size:=by omega
 have hz2o:ops[z2]? = some ops[z2]:=by simp[show z2<ops.size by omega]
 intro fuel
 induction fuel with
 | zero=>
  intro L σ a w μ S hs hz hf
  exfalso
  have hnil:rem ops.size L=[]:=List.eq_nil_of_length_eq_zero (by omega)
  have:z∈rem ops.size L:=List.mem_filter.2 ⟨List.mem_range.2 hzn',by rw[hz];rfl⟩
  rw[hnil] at this;simp at this
 | succ fuel ih=>
  intro L σ a w μ S hs hz hf hcl h A R hK
  refine⟨fun hrd=>?_,fun i hi=>?_⟩
  ·
   exfalso
   have all:∀ i,i<ops.size→L.getD i true=true:=by
    intro i
    induction i using Nat.strongRecOn with
    | _ i ih2=>
     intro hi
     cases hd:L.getD i true with
     | true=>rfl
     | false=>
      have ho:ops[i]? = some ops[i]:=by simp[hi]
      have:=sw ho hd fun e he hb=>by
       have hlt:=hr.Vz i _ ho e he hb
       have:=ih2 e.on hlt (by omega)
       have hsz:e.on<L.size:=by omega
       simpa [Array.getD_eq_getD_getElem?,hsz] using this
      rw[hrd] at this;simp at this
   rw[all z hzn'] at hz;simp at hz
  ·obtain⟨hin,hli,oi,hoi,hed⟩:=gC hi
   have hsz:i<L.size:=by omega
   have ahead:∀ x,Nat.testBit (m.getD i 0) x=true→L.getD x false=true:=by
    intro x hb
    rw[hr.mask i oi hoi] at hb
    rcases cB m x _ _ hb with h0|⟨e,he,hbd,h0⟩
    ·simp at h0
    ·have hle:=hed e he hbd
     rcases h0 with rfl|h0
     ·exact hle
     ·exact hcl e.on hle x h0
   have hcl2:qI m (L.setIfInBounds i true):=by
    intro j hj x hx
    rw[bN false hsz] at hj ⊢
    by_cases e:x=i
    ·rw[if_pos e]
    ·rw[if_neg e]
     by_cases ej:j=i
     ·subst ej;exact ahead x hx
     ·rw[if_neg ej] at hj
      exact hcl j hj x hx
   obtain⟨p,s,e1,e2,hp⟩:=kM hs hin hli
   have hf2:(rem ops.size (L.setIfInBounds i true)).length≤fuel:=by
    rw[e1] at hf;rw[e2];simp at hf ⊢;omega
   by_cases hiz:i=z
   ·
    subst hiz
    have doneT:∀ x,x<ops.size→Nat.testBit (m.getD i 0) x=true→L.getD x true=true:=by
     intro x hx hb
     have:=ahead x hb
     have hsz:x<L.size:=by omega
     simpa [Array.getD_eq_getD_getElem?,hsz] using this
    have hRU:∀ x∈kQ m ops.size i L,x<ops.size∧ux m i x=true:=by
     intro x hx
     obtain⟨h1,h2⟩:=List.mem_filter.1 hx
     obtain⟨h3,h4⟩:=List.mem_filter.1 h1
     have hxn:=List.mem_range.1 h3
     refine⟨hxn,?_⟩
     unfold Fq at h2
     unfold ux
     simp only[Bool.and_eq_true,Bool.not_eq_true'] at h2 h4 ⊢
     refine⟨⟨h2.1,?_⟩,h2.2⟩
     cases hb:Nat.testBit (m.getD i 0) x with
     | false=>rfl
     | true=>rw[doneT x hxn hb] at h4;simp at h4
    obtain⟨hO0,hids⟩:=qK _ σ σA (fun x hx=>by
     have hx2:=hRU x hx
     exact⟨ops[x],by simp[hx2.1],hM.still x _ (by simp[hx2.1]) hx2.2⟩) h
    have hO:AB (fun t=>∃ u∈kQ m ops.size i L,gV ops u=some t) (σA.ay L0) (σ.ay L0):=⟨hO0.nt,hO0.heap,hO0.tmp⟩
    have hids2:(σ.ay L0).ids=(σA.ay L0).ids:=by simp only[St.ay,hids]
    have hlook:∀ t∈oi.looksAt ops,¬ ∃ u∈kQ m ops.size i L,gV ops u=some t:=by
     rintro t ht ⟨u,hu,hd⟩
     have hu2:=hRU u hu
     exact qT hoi (hM.call u hu2.1 hu2.2) hd ht
    have hBσ:Bd (σ.ay L0):=by
     intro q hq
     rw[hids2]
     refine hB q ?_
     rw[← hO.heap];exact hq
    unfold tQ at hfin
    split at hfin
    ·rename_i y H1 L1 hpan
     cases hfin
     rw[← BT hoi hO hids2 hlook] at hpan
     refine px hF hpan hBσ A.ay R fun w2 μ2 S2 u A2 R2 C2 hv=>hK a w2 μ2 S2 _ ⟨A2.defers,?_,fun t ht=>?_⟩ R2 C2 ⟨u,rfl,hv⟩
     ·rw[A2.size];exact hO.nt
     ·have hnt:(σ.ay L0).nt=(σA.ay L0).nt:=hO.nt
      have:=A2.tmp t (by simp only at ht ⊢;rw[hnt];exact ht)
      simp only[Bg]
      cases hu:zH ops m i t with
      | true=>simp only[cond_true,VR]
      | false=>
       simp only[cond_false]
       rw[← hO.tmp t ?_];exact this
       rintro ⟨u,hu',hd⟩
       have hu2:=hRU u hu'
       have:zH ops m i t=true:=by
        unfold zH
        rw[List.any_eq_true]
        exact⟨u,List.mem_range.2 hu2.1,by rw[hu2.2,hd];simp⟩
       rw[hu] at this;simp at this
    ·split at hfin
     case h_2=>simp at hfin
     rename_i σ2 hop
     split at hfin
     case h_2=>simp at hfin
     rename_i σ3 hre
     obtain⟨σ2',hop',hO2⟩:=Gv hoi hO hids2 hlook hop
     refine gE hC hF (fun H i o h=>h) hop' (.inl hBσ) A.ay R fun a2 w2 μ2 S2 A2 R2 C2=>?_
     have hund:(nO m i ops.size z2).filter (fun x=>!(L.setIfInBounds i true).getD x true)=qZ ops.size z2 (L.setIfInBounds i true):=by
      unfold nO qZ rem
      rw[List.filter_filter,List.filter_filter]
      refine List.filter_congr fun x hx=>?_
      have hxn:=List.mem_range.1 hx
      rw[bN true hsz]
      by_cases e:x=i
      ·rw[if_pos e];simp
      ·rw[if_neg e]
       cases hd:L.getD x true with
       | true=>simp
       | false=>
        have hBx:Kk m i x=true:=by
         simp only[Kk,Bool.and_eq_true,Bool.not_eq_true']
         refine⟨?_,?_⟩
         ·cases hb:Nat.beq x i with
          | false=>rfl
          | true=>exact absurd (Nat.eq_of_beq_eq_true hb) e
         ·cases hb:Nat.testBit (m.getD i 0) x with
          | false=>rfl
          | true=>rw[doneT x hxn hb] at hd;simp at hd
        rw[hBx];simp
     obtain⟨σ3',k1,k2⟩:=Ax (P:=P) (C:=C) (W:=W) (base:=base) hM (fun x=>!(L.setIfInBounds i true).getD x true) (nO m i ops.size z2) (σ2.ay (ef P C ops (σA.ay L0).heap (base+i * 16) i (σA.ay L0))) (σ2'.ay []) σ3 Be (fun x hx=>by
       obtain⟨h1,h2⟩:=List.mem_filter.1 hx
       exact⟨List.mem_range.1 h1,(Bool.and_eq_true _ _ ▸ h2).1⟩) (fun x hx hU=>by
       obtain⟨h1,h2⟩:=List.mem_filter.1 hx
       have h2:Kk m i x=true:=(Bool.and_eq_true _ _ ▸ h2).1
       have hxn:=List.mem_range.1 h1
       have hxi:x≠i:=by
        intro e;subst e
        unfold Kk at h2
        simp at h2
       have hb:Nat.testBit (m.getD x 0) i=true:=by
        unfold Kk at h2
        unfold ux at hU
        cases hb:Nat.testBit (m.getD x 0) i with
        | true=>rfl
        | false=>rw[h2,hb] at hU;simp at hU
       rw[bN true hsz,if_neg hxi]
       cases hd:L.getD x true with
       | false=>rfl
       | true=>
        exfalso
        have hxs:x<L.size:=by omega
        have h3:=hcl x (by simpa [Array.getD_eq_getD_getElem?,hxs] using hd) i hb
        have h4:L.getD i true=true:=by simpa [Array.getD_eq_getD_getElem?,hsz] using h3
        rw[h4] at hz;simp at hz) (AB.mono (T:=fun t=>∃ u∈kQ m ops.size i L,gV ops u=some t) ⟨hO2.nt,hO2.heap,hO2.tmp⟩ (by
       rintro t ⟨u,hu,hd⟩
       have hu2:=hRU u hu
       obtain⟨h1,_⟩:=List.mem_filter.1 hu
       obtain⟨_,h4⟩:=List.mem_filter.1 h1
       have hne:u≠i:=by
        intro e;subst e
        have:=hu2.2
        unfold ux at this
        simp at this
       refine⟨u,List.mem_filter.2 ⟨List.mem_range.2 hu2.1,?_⟩,hu2.2,?_,hd⟩
       ·have:=hu2.2
        have hu3:u≠z2:=by
         intro e;subst e
         unfold ux at this
         rw[hfull i hzn] at this
         simp at this
        unfold ux at this
        unfold Kk
        simp only[Bool.and_eq_true] at this ⊢
        refine⟨this.1,?_⟩
        cases hb:Nat.beq u z2 with
        | false=>rfl
        | true=>exact absurd (Nat.eq_of_beq_eq_true hb) hu3
       ·rw[bN true hsz,if_neg hne];exact h4)) hre
     rw[hund] at k1
     have hlz:(L.setIfInBounds i true).getD z2 true=false:=by
      rw[bN true hsz,if_neg (by omega)]
      cases hd:L.getD z2 true with
      | false=>rfl
      | true=>
       exfalso
       have hxs:z2<L.size:=by omega
       have h3:=hcl z2 (by simpa [Array.getD_eq_getD_getElem?,hxs] using hd) i (hfull i hzn)
       have h4:L.getD i true=true:=by simpa [Array.getD_eq_getD_getElem?,hsz] using h3
       rw[h4] at hz;simp at hz
     have hfz:(qZ ops.size z2 (L.setIfInBounds i true)).length+1≤fuel:=by
      have hm:z2∈rem ops.size (L.setIfInBounds i true):=List.mem_filter.2 ⟨List.mem_range.2 (by omega),by rw[hlz];rfl⟩
      have:(qZ ops.size z2 (L.setIfInBounds i true)).length<(rem ops.size (L.setIfInBounds i true)).length:=by
       unfold qZ
       exact List.length_filter_lt_length_iff_exists.2 ⟨z2,hm,by simp⟩
      omega
     have hB2:Bd ((σ3.ay (kC P C ops m W base i (nO m i ops.size z2) (σ2.ay (ef P C ops (σA.ay L0).heap (base+i * 16) i (σA.ay L0)))))):=by
      have b2:=lH hF (fun H i o h=>h) hop hB
      have:=sK _ _ σ3 [] hre (by intro q hq;have:=b2 q hq;simpa [St.ay] using this)
      simpa using this
     refine Ch hC hr hz2o CA hfull fuel _ (σ2'.ay []) a2 w2 μ2 S2 (by simp[hs]) hlz hfz hcl2 k1 A2.ay R2 fun a3 w3 μ3 S3 A3 R3 C3=>?_
     have hheap:σ3'.heap=σ3.heap:=k2.heap
     rw[hheap] at R3 C3
     have A3':AR N Dt μ3 S3 (σ3.ay (kC P C ops m W base i (nO m i ops.size z2) (σ2.ay (ef P C ops (σA.ay L0).heap (base+i * 16) i (σA.ay L0))))) a3:=⟨A3.defers,by rw[A3.size];exact k2.nt,fun t ht=>by
      have:=A3.tmp t (by rw[k2.nt];exact ht)
      rw[hheap,k2.tmp t (fun h=>h)] at this
      exact this⟩
     unfold oa at hfin
     split at hfin
     ·rename_i y H1 L1 hp
      cases hfin
      exact px hF hp hB2 A3' R3 fun w4 μ4 S4 u A4 R4 C4 hv=>hK a3 w4 μ4 S4 _ A4 R4 (C2.trans (C3.trans C4)) ⟨u,rfl,hv⟩
     ·split at hfin
      ·rename_i σ4 hop4
       cases hfin
       exact gE hC hF (fun H i o h=>h) hop4 (.inl hB2) A3' R3 fun a4 w4 μ4 S4 A4 R4 C4=>hK a4 w4 μ4 S4 _ A4.ay R4 (C2.trans (C3.trans C4)) rfl
      ·simp at hfin
   ·
    have hAi:Fq m z i=true:=by
     unfold Fq
     simp only[Bool.and_eq_true,Bool.not_eq_true']
     refine⟨?_,?_⟩
     ·cases hb:Nat.beq i z with
      | true=>exact absurd (Nat.eq_of_beq_eq_true hb) hiz
      | false=>rfl
     ·cases hb:Nat.testBit (m.getD i 0) z with
      | false=>rfl
      | true=>
       exfalso
       have h3:=ahead z hb
       have hzs:z<L.size:=by omega
       have h4:L.getD z true=true:=by simpa [Array.getD_eq_getD_getElem?,hzs] using h3
       rw[h4] at hz;simp at hz
    have f1:kQ m ops.size z L=(p.filter (Fq m z))++i::(s.filter (Fq m z)):=by
     unfold kQ
     rw[e1,List.filter_append,List.filter_cons_of_pos (by exact hAi)]
    have f2:kQ m ops.size z (L.setIfInBounds i true)=(p.filter (Fq m z))++(s.filter (Fq m z)):=by
     unfold kQ
     rw[e2,List.filter_append]
    rw[f1] at h
    have hind:∀ x∈(p.filter (Fq m z)),x≠i∧∃ ox,ops[x]? = some ox∧indep P C ops m x i ox oi=true:=by
     intro x hx
     have hx:=(List.mem_filter.1 hx).1
     obtain⟨hlt,hlx⟩:=hp x hx
     have hox:ops[x]? = some ops[x]:=by simp[show x<ops.size from by omega]
     refine⟨by omega,_,hox,?_⟩
     rcases hr.pair x i hlt _ _ hox hoi with hb|hb
     ·exfalso
      have hLx:=ahead x hb
      have hsz:x<L.size:=by omega
      simp[Array.getD_eq_getD_getElem?,hsz] at hLx hlx
      rw[hLx] at hlx;simp at hlx
     ·exact hb
    obtain⟨σ1,k1,k2⟩:=front hoi _ _ σ hind h
    unfold Ay at k1
    obtain⟨_,k1⟩:=aD k1
    refine gE hC (F:=dX) (fun _ _ _ _ _ _ _ _ h=>by simp[dX] at h) (fun H j o h=>(gA h).2.1) k1 (.inr rfl) A R fun a1 w1 μ1 S1 A1 R1 C1=>?_
    refine ih (L.setIfInBounds i true) σ1 a1 w1 μ1 S1 (by simp[hs]) ?_ hf2 hcl2 (by rw[f2];exact k2) A1 R1 (fun a' w' μ' S' x A' R' C' hx=>hK a' w' μ' S' x A' R' (C1.trans C') hx)
    rw[bN true hsz,if_neg (fun e=>hiz e.symm)];exact hz
omit [ar] in
theorem Ix:∀ (l:List Oper) (n z:Nat),r7 C l n=some z→z<n+l.length
 | [],n,z,h=>by simp[r7] at h
 | o::l,n,z,h=>by
  unfold r7 at h
  have rest:r7 C l (n+1)=some z→z<n+(o::l).length:=fun h=>by
   have:=Ix l (n+1) z h
   simp;omega
  split at h
  ·split at h
   ·rename_i k hk
    cases hb:(Option.isNone (C.rB _)&&Option.isNone (C.aU _)) with
    | true=>rw[hb] at h;simp only[cond_true,Option.some.injEq] at h;simp;omega
    | false=>rw[hb] at h;exact rest h
   ·exact rest h
  ·exact rest h
omit [ar] in
theorem Pe (h:Uu C ops m=some z):z<ops.size∧Bp ops m z:=by
 unfold Uu at h
 split at h
 ·simp at h
 ·split at h
  ·rename_i z' hz
   obtain⟨hc,rfl⟩:=aj h
   exact⟨by have:=Ix _ _ _ hz;simpa using this,Aq hc⟩
  ·simp at h
omit [ar] in
theorem Pf {z2:Nat}(h:UZ C ops m=some (z,z2)):z<z2∧Bp ops m z∧z2+1=ops.size∧∀ x,x<z2→Nat.testBit (m.getD z2 0) x=true:=by
 unfold UZ at h
 split at h
 case h_2=>simp at h
 rename_i z2' hz
 split at h
 case h_2=>simp at h
 obtain⟨hc,he⟩:=aj h
 cases he
 simp only[Bool.and_eq_true] at hc
 have hzf:z2=ops.size-1∧0<ops.size∧∀ x,x<z2→Nat.testBit (m.getD z2 0) x=true:=by
  unfold zy at hz
  split at hz
  case h_2=>simp at hz
  rename_i o ho
  split at hz
  case h_2=>simp at hz
  split at hz
  case h_2=>simp at hz
  obtain⟨hcc,he⟩:=aj hz
  subst he
  simp only[Bool.and_eq_true,List.all_eq_true,List.mem_range] at hcc
  refine⟨rfl,?_,fun x hx=>hcc.2 x hx⟩
  have:=(Array.getElem?_eq_some_iff.1 ho).1
  omega
 exact⟨cG hc.1,Aq hc.2,by omega,hzf.2.2⟩
theorem zf (hC:bV P C)(hF:dl P F){r:Option Nat}{N:an}{Dt:Bool×List Deferred}{B:Nat}{w w0:World}{a:Act}{μ:Mu}{S:an}{Q:Exit→Act→World→Prop}{id:Nat}{e:Ex}(h:iM P C F ops base σ=some (e,σ'))(hB:Bd σ)(A:AR N Dt μ S σ a)(R:Rel μ S σ.heap B w0 w)
  (hK:∀ a' w' μ' S' x,AR N Dt μ' S' σ' a'→Rel μ' S' σ'.heap B w0 w'→Carry B μ S σ.heap μ' S' σ'.heap→e.Is μ' S' σ'.heap x→Q x a' w'):(Code.region id ops true).wpIn (WF r) 0 P Q a w:=by
 unfold iM at h
 have R':Rel μ S σ.heap B w0 w.drew:=⟨R.below.drew,R.size,R.st,R.dom,fun i o ho=>by
  obtain⟨l,h1,h2⟩:=R.obj i o ho
  refine⟨l,h1,?_⟩
  cases o<;>exact h2,R.sep,R.pre⟩
 have hrem:rem ops.size (Array.replicate ops.size false)=List.range ops.size:=by
  unfold rem
  rw[List.filter_eq_self]
  intro i hi
  have:=List.mem_range.1 hi
  simp[Array.getD_eq_getD_getElem?,this]
 have hcl:qI (aB ops) (Array.replicate ops.size false):=by
  intro i hi x hx
  by_cases hlt:i<ops.size
  ·simp[Array.getD_eq_getD_getElem?,hlt] at hi
  ·simp[Array.getD_eq_getD_getElem?,hlt] at hi
 split at h
 ·rename_i z z2 hz
  obtain⟨hzn,hM,CA,hfull⟩:=Pf hz
  unfold yE at h
  obtain⟨hr,h⟩:=aD h
  have hr:=gF hr
  split at h
  case h_2=>simp at h
  rename_i σ1 h1
  have hBz:Bd (σ1.ay (fL P C ops (aB ops) (qG P C ops (aB ops) base σ) base (eR (aB ops) z ops.size) σ)):=by
   have:=iE (eR (aB ops) z ops.size) σ σ1 [] h1 (by intro q hq;have:=hB q hq;simpa [St.ay] using this)
   simpa using this
  refine wpIn_region_any hr.mixed ?_
  refine Ps hC hF hr hM hzn CA hfull h hBz ops.size _ σ a w.drew μ S (by simp) ?_ (by rw[hrem];simp) hcl (by unfold kQ;rw[hrem];exact h1) A R' hK
  simp[Array.getD_eq_getD_getElem?,show z<ops.size by omega]
 split at h
 case h_2=>exact PR hC hF h hB A R hK
 rename_i z hz
 obtain⟨hzn,hM⟩:=Pe hz
 unfold JY at h
 obtain⟨hr,h⟩:=aD h
 have hr:=gF hr
 split at h
 case h_2=>simp at h
 rename_i σ1 h1
 have hBz:Bd (σ1.ay (fL P C ops (aB ops) (qG P C ops (aB ops) base σ) base (eR (aB ops) z ops.size) σ)):=by
  have:=iE (eR (aB ops) z ops.size) σ σ1 [] h1 (by intro q hq;have:=hB q hq;simpa [St.ay] using this)
  simpa using this
 refine wpIn_region_any hr.mixed ?_
 have hrem:rem ops.size (Array.replicate ops.size false)=List.range ops.size:=by
  unfold rem
  rw[List.filter_eq_self]
  intro i hi
  have:=List.mem_range.1 hi
  simp[Array.getD_eq_getD_getElem?,this]
 have R':Rel μ S σ.heap B w0 w.drew:=⟨R.below.drew,R.size,R.st,R.dom,fun i o ho=>by
  obtain⟨l,h1,h2⟩:=R.obj i o ho
  refine⟨l,h1,?_⟩
  cases o<;>exact h2,R.sep,R.pre⟩
 refine SH hC hF hr hM hzn h hBz ops.size _ σ a w.drew μ S (by simp) ?_ (by rw[hrem];simp) ?_ (by unfold kQ;rw[hrem];exact h1) A R' hK
 ·simp[Array.getD_eq_getD_getElem?,hzn]
 ·intro i hi x hx
  by_cases hlt:i<ops.size
  ·simp[Array.getD_eq_getD_getElem?,hlt] at hi
  ·simp[Array.getD_eq_getD_getElem?,hlt] at hi
theorem yg (hF:dl P F){e:Ex}(h:iM P C F ops base σ=some (e,σ'))(hB:Bd σ):Bd σ':=by
 unfold iM at h
 split at h
 ·rename_i z z2 hz
  unfold yE at h
  obtain⟨_,h⟩:=aD h
  split at h
  case h_2=>simp at h
  rename_i σ1 h1
  have hBz:Bd (σ1.ay (fL P C ops (aB ops) (qG P C ops (aB ops) base σ) base (eR (aB ops) z ops.size) σ)):=by
   have:=iE (eR (aB ops) z ops.size) σ σ1 [] h1 (by intro q hq;have:=hB q hq;simpa [St.ay] using this)
   simpa using this
  unfold tQ at h
  split at h
  ·rename_i hp;cases h
   exact sL hF hp hBz
  ·split at h
   case h_2=>simp at h
   rename_i σ2 hop
   split at h
   case h_2=>simp at h
   rename_i σ3 hre
   have b2:=lH hF (fun H i o h=>h) hop hBz
   have:=sK _ _ σ3 [] hre (by intro q hq;have:=b2 q hq;simpa [St.ay] using this)
   exact Cd hF h (by simpa using this)
 split at h
 case h_2=>exact PA hF h hB
 rename_i z hz
 unfold JY at h
 obtain⟨_,h⟩:=aD h
 split at h
 case h_2=>simp at h
 rename_i σ1 h1
 have hBz:Bd (σ1.ay (fL P C ops (aB ops) (qG P C ops (aB ops) base σ) base (eR (aB ops) z ops.size) σ)):=by
  have:=iE (eR (aB ops) z ops.size) σ σ1 [] h1 (by intro q hq;have:=hB q hq;simpa [St.ay] using this)
  simpa using this
 unfold Ad at h
 split at h
 ·rename_i hp;cases h
  exact sL hF hp hBz
 ·split at h
  case h_2=>simp at h
  rename_i σ2 hop
  split at h
  case h_2=>simp at h
  rename_i σ3 hre
  cases h
  have b2:=lH hF (fun H i o h=>h) hop hBz
  have:=sK _ _ σ3 [] hre (by intro q hq;have:=b2 q hq;simpa [St.ay] using this)
  simpa using this
end
def bump (H0:Heap)(j off:Nat)(H:Heap):Heap:=
 match H j with
 | some (.box t cs)=>match cs[off]? with
  | some (.sl i g)=>match H0 i,H i with
   | some (.row _ _ g0 _),some (.row te e g1 xs)=>cond (Nat.beq g g1&&Nat.beq g0 g1) (aU (aU H i (some (.row te e (g1+1) xs))) j (some (.box t (cs.set off (.sl i (g1+1)))))) H
   | _,_=>H
  | _=>H
 | _=>H
def Ci (H0:Heap)(j:Nat):List Nat→Heap→Heap
 | [],H=>H
 | off::l,H=>Ci H0 j l (bump H0 j off H)
def Rz:Option bq→Nat
 | some (.box _ cs)=>cs.length
 | _=>0
def St.align (σ:St)(j:Nat)(σ':St):St:=⟨σ'.nt,σ'.tmps,Ci σ.heap j (List.range (Rz (σ.heap j))) σ'.heap,σ'.ids⟩
def MP (P:Program)(ops:Array Oper)(σ:St):List Oper→Nat→Option Nat
 | [],_=>none
 | o::l,b=>match (match o.op with
  | .indexAddr t x (.tmp _)=>match P.underlying t with
   | some (.array _ _)=>match Jq P ops σ 9 b x with
    | .ptr j _=>some j
    | _=>none
   | _=>none
  | _=>none) with
  | some r=>some r
  | none=>MP P ops σ l (b+1)
def jL (P:Program)(C:Cons)(F:j3)(ops:Array Oper)(base:Nat)(σ:St):Option (Ex×St):=
 match MP P ops σ ops.toList 0 with
 | some j=>match iM P C F ops base σ with
  | some (e,σ')=>some (e,σ.align j σ')
  | none=>none
 | none=>iM P C F ops base σ
section
variable [ar]{F:j3}{P:Program}{C:Cons}{ops:Array Oper}{σ σ':St}{base:Nat}{μ:Mu}{S:an}{H H0:Heap}{B:Nat}{w0 w:World}
structure Told (μ:Mu)(S:an)(H H':Heap):Prop where
 ext:Ext μ S H μ S H'
 dom:∀ i,(H' i).isSome=(H i).isSome
 rel:∀ B w0 w,Rel μ S H B w0 w→Rel μ S H' B w0 w
omit [ar] in
theorem Ext.adB:Ext μ S H μ S H:=⟨fun _ _ h=>.inl h,fun _ _ h=>h,fun i t e g xs _ h=>⟨t,g,xs,h,Nat.le_refl _,fun _=>rfl⟩⟩
omit [ar] in
theorem He {as:List AV}{vs:List Value}(h:aP μ S H as vs):∀ {off:Nat} {x:AV},(∀ v,vs[off]? = some v→VR μ S H x v)→aP μ S H (as.set off x) vs:=by
 induction as generalizing vs with
 | nil=>intro off x _;simpa using h
 | cons a as ih=>
  intro off x hx
  simp only[aP] at h
  obtain⟨v,r,rfl,h1,h2⟩:=h
  cases off with
  | zero=>simp only[List.set_cons_zero,aP];exact⟨v,r,rfl,hx v (by simp),h2⟩
  | succ n=>simp only[List.set_cons_succ,aP];exact⟨v,r,rfl,h1,ih h2 fun v hv=>hx v (by simpa using hv)⟩
omit [ar] in
theorem Dx {as:List AV}{vs:List Value}(h:aP μ S H as vs):∀ {off:Nat} {a:AV} {v:Value},as[off]? = some a→vs[off]? = some v→VR μ S H a v:=by
 induction as generalizing vs with
 | nil=>intro off a v h1;simp at h1
 | cons b as ih=>
  intro off a v h1 h2
  simp only[aP] at h
  obtain⟨u,r,rfl,k1,k2⟩:=h
  cases off with
  | zero=>simp only[List.getElem?_cons_zero,Option.some.injEq] at h1 h2;subst h1;subst h2;exact k1
  | succ n=>exact ih k2 (by simpa using h1) (by simpa using h2)
theorem BH (j off:Nat):Told μ S H (bump H0 j off H):=by
 have same:Told μ S H H:=⟨Ext.adB,fun _=>rfl,fun _ _ _ h=>h⟩
 unfold bump
 split
 case h_2=>exact same
 rename_i t cs hj
 split
 case h_2=>exact same
 rename_i i g hc
 split
 case h_2=>exact same
 rename_i te0 e0 g0 xs0 te e g1 xs h0 hi
 cases hb:(Nat.beq g g1&&Nat.beq g0 g1) with
 | false=>exact same
 | true=>
 simp only[cond_true]
 simp only[Bool.and_eq_true] at hb
 have hg:g=g1:=Nat.eq_of_beq_eq_true hb.1
 subst hg
 have hij:i≠j:=by intro e;subst e;rw[hj] at hi;simp at hi
 have ext:Ext μ S H μ S (aU (aU H i (some (.row te e (g+1) xs))) j (some (.box t (cs.set off (.sl i (g+1)))))):=by
  refine⟨fun _ _ h=>.inl h,fun _ _ h=>h,fun k t' e' g' ys _ hk=>?_⟩
  by_cases ek:k=j
  ·subst ek;rw[ax] at hk;simp at hk
  ·rw[aA _ _ ek] at hk
   by_cases ei:k=i
   ·subst ei;rw[ax] at hk
    injection hk with hk
    injection hk with a1 a2 a3 a4
    subst a2;subst a3
    exact⟨te,g,xs,hi,by omega,fun h=>by omega⟩
   ·rw[aA _ _ ei] at hk
    exact⟨t',g',ys,hk,Nat.le_refl _,fun _=>rfl⟩
 have dom:∀ k,((aU (aU H i (some (.row te e (g+1) xs))) j (some (.box t (cs.set off (.sl i (g+1)))))) k).isSome=(H k).isSome:=by
  intro k
  by_cases ek:k=j
  ·subst ek;rw[ax,hj];rfl
  ·rw[aA _ _ ek]
   by_cases ei:k=i
   ·subst ei;rw[ax,hi];rfl
   ·rw[aA _ _ ei]
 refine⟨ext,dom,fun B w0 w R=>⟨R.below,R.size,R.st,fun k=>by rw[dom];exact R.dom k,fun k o hk=>?_,R.sep,R.pre⟩⟩
 by_cases ek:k=j
 ·subst ek
  rw[ax] at hk;cases hk
  obtain⟨l,h1,h2⟩:=R.obj k _ hj
  refine⟨l,h1,?_⟩
  obtain⟨b,vs,q1,q2,q3,q4,q5⟩:=bU ext (w':=w) (fun _ _=>rfl) (fun b hb=>(R.ge h1 hb).2) h2
  refine⟨b,vs,q1,q2,q3,q4,He q5 fun v hv=>?_⟩
  have:=Dx q5 hc hv
  obtain⟨b',vs',p1,p2,p3,p4,p5⟩:=h2
  have evs:vs'=vs:=by
   have eb:b'=b:=Option.some.inj (p1.symm.trans q1)
   subst eb
   have:=p4.symm.trans q4
   simpa using this
  subst evs
  have hold:=Dx p5 hc hv
  simp only[VR] at hold ⊢
  obtain⟨s0,l2,s1,s2⟩:=hold
  refine⟨s0,l2,s1,fun t' e' gc ys hH=>?_⟩
  rw[aA _ _ hij,ax] at hH
  injection hH with hH
  injection hH with a1 a2 a3 a4
  subst a2;subst a3
  have a5:=eq_of_heq a4
  subst a5
  exact⟨Nat.le_refl _,fun _=>(s2 te e g xs hi).2 rfl⟩
 ·rw[aA _ _ ek] at hk
  by_cases ei:k=i
  ·subst ei
   rw[ax] at hk;cases hk
   obtain⟨l,h1,h2⟩:=R.obj k _ hi
   exact⟨l,h1,h2⟩
  ·rw[aA _ _ ei] at hk
   obtain⟨l,h1,h2⟩:=R.obj k o hk
   exact⟨l,h1,bU ext (w':=w) (fun _ _=>rfl) (fun b hb=>(R.ge h1 hb).2) h2⟩
theorem Ik {N:an}{Dt:Bool×List Deferred}{nt:Nat}{tm:Nat→AV}{ids:List Nat}{a:Act}{j:Nat}:∀ (l:List Nat) (H:Heap),AR N Dt μ S ⟨nt,tm,H,ids⟩ a→Rel μ S H B w0 w →
  AR N Dt μ S ⟨nt,tm,Ci H0 j l H,ids⟩ a∧Rel μ S (Ci H0 j l H) B w0 w∧∀ x v,VR μ S H x v→VR μ S (Ci H0 j l H) x v
 | [],H,A,R=>⟨A,R,fun _ _ h=>h⟩
 | off::l,H,A,R=>by
  have T:=BH (μ:=μ) (S:=S) (H:=H) (H0:=H0) j off
  obtain⟨h1,h2,h4⟩:=Ik (j:=j) l (bump H0 j off H) (a:=a) (N:=N) (Dt:=Dt) (nt:=nt) (tm:=tm) (ids:=ids) ⟨A.defers,A.size,fun t ht=>en T.ext _ _ (A.tmp t ht)⟩ (T.rel _ _ _ R)
  exact⟨h1,h2,fun x v h=>h4 x v (en T.ext _ _ h)⟩
theorem UK (j off i:Nat)(h:bump H0 j off H i≠none):H i≠none:=by
 have:=(BH (μ:=fun _=>none) (S:=fun _=>none) (H:=H) (H0:=H0) j off).dom i
 intro e
 rw[e] at this
 cases hb:bump H0 j off H i with
 | none=>exact h hb
 | some o=>rw[hb] at this;simp at this
theorem Bf {j:Nat}:∀ (l:List Nat) (H:Heap) (i:Nat),Ci H0 j l H i≠none→H i≠none
 | [],H,i,h=>h
 | off::l,H,i,h=>UK j off i (Bf l _ i h)
theorem KC (hF:dl P F){e:Ex}(h:jL P C F ops base σ=some (e,σ'))(hB:Bd σ):Bd σ':=by
 unfold jL at h
 split at h
 ·split at h
  ·rename_i e1 σ1 h1
   cases h
   intro q hq
   exact yg hF h1 hB q (Bf _ _ q hq)
  ·simp at h
 ·exact yg hF h hB
theorem Lu (hC:bV P C)(hF:dl P F){r:Option Nat}{N:an}{Dt:Bool×List Deferred}{a:Act}{Q:Exit→Act→World→Prop}{id:Nat}{e:Ex}(h:jL P C F ops base σ=some (e,σ'))(hB:Bd σ)(A:AR N Dt μ S σ a)(R:Rel μ S σ.heap B w0 w)
  (hK:∀ a' w' μ' S' x,AR N Dt μ' S' σ' a'→Rel μ' S' σ'.heap B w0 w'→Carry B μ S σ.heap μ' S' σ'.heap→e.Is μ' S' σ'.heap x→Q x a' w'):(Code.region id ops true).wpIn (WF r) 0 P Q a w:=by
 unfold jL at h
 split at h
 case h_2=>exact zf hC hF h hB A R hK
 rename_i j hj
 split at h
 case h_2=>simp at h
 rename_i e1 σ1 h1
 cases h
 refine zf hC hF h1 hB A R fun a1 w1 μ1 S1 x A1 R1 C1 hx=>?_
 obtain⟨h2,h3,h4⟩:=Ik (H0:=σ.heap) (j:=j) (List.range (Rz (σ.heap j))) σ1.heap (ids:=σ1.ids) A1 R1
 refine hK a1 w1 μ1 S1 x h2 h3 ⟨fun y v hv=>h4 y v (C1.vr y v hv),C1.st,C1.sub⟩ ?_
 cases e with
 | gh v=>
  obtain⟨u,e1,e2⟩:=hx
  exact⟨u,e1,h4 _ _ e2⟩
 | _=>exact hx
end
def lJ (j off n:Nat)(σ:St):St:=
 match σ.heap j with
 | some (.box t cs)=>match cs[off]? with
  | some (.sl i g)=>match σ.heap i,σ.heap n with
   | some (.row te e g1 xs),none=>cond (Nat.beq g g1) ⟨σ.nt,σ.tmps,aU (aU (aU σ.heap n (some (.row te e 0 xs))) i (some (.row te e (g1+1) []))) j (some (.box t (cs.set off (.sl n 0)))),σ.ids++[n]⟩ σ
   | _,_=>σ
  | _=>σ
 | _=>σ
def St.gm (σ:St):List (Nat×Nat×Nat)→St
 | []=>σ
 | p::l=>(lJ p.1 p.2.1 p.2.2 σ).gm l
section
variable [ar]{N:an}{Dt:Bool×List Deferred}{σ:St}{a:Act}{μ μo:Mu}{S So:an}{Ho:Heap}{B:Nat}{w0 w:World}
theorem La (j off n:Nat)(A:AR N Dt μ S σ a)(R:Rel μ S σ.heap B w0 w)(Co:Carry B μo So Ho μ S σ.heap) :
  ∃ μ',AR N Dt μ' S (lJ j off n σ) a∧Rel μ' S (lJ j off n σ).heap B w0 w∧Carry B μo So Ho μ' S (lJ j off n σ).heap:=by
 have same:∃ μ',AR N Dt μ' S σ a∧Rel μ' S σ.heap B w0 w∧Carry B μo So Ho μ' S σ.heap:=⟨μ,A,R,Co⟩
 unfold lJ
 split
 case h_2=>exact same
 rename_i t cs hj
 split
 case h_2=>exact same
 rename_i i g hc
 split
 case h_2=>exact same
 rename_i te e g1 xs hi hn
 cases hb:Nat.beq g g1 with
 | false=>exact same
 | true=>
 simp only[cond_true]
 have hg:g=g1:=Nat.eq_of_beq_eq_true hb
 subst hg
 have hij:i≠j:=by intro e;subst e;rw[hj] at hi;simp at hi
 have hni:n≠i:=by intro e;subst e;rw[hi] at hn;simp at hn
 have hnj:n≠j:=by intro e;subst e;rw[hj] at hn;simp at hn
 have hmn:μ n=none:=by
  have:=R.dom n
  rw[hn] at this
  cases h:μ n with
  | none=>rfl
  | some _=>rw[h] at this;simp at this
 obtain⟨li,hmi,hOi⟩:=R.obj i _ hi
 have eH:∀ q,q≠n→q≠i→q≠j→(aU (aU (aU σ.heap n (some (.row te e 0 xs))) i (some (.row te e (g+1) []))) j (some (.box t (cs.set off (.sl n 0))))) q=σ.heap q:=by
  intro q h1 h2 h3
  rw[aA _ _ h3,aA _ _ h2,aA _ _ h1]
 have eHn:(aU (aU (aU σ.heap n (some (.row te e 0 xs))) i (some (.row te e (g+1) []))) j (some (.box t (cs.set off (.sl n 0))))) n=some (.row te e 0 xs):=by
  rw[aA _ _ hnj,aA _ _ hni,ax]
 have eHi:(aU (aU (aU σ.heap n (some (.row te e 0 xs))) i (some (.row te e (g+1) []))) j (some (.box t (cs.set off (.sl n 0))))) i=some (.row te e (g+1) []):=by
  rw[aA _ _ hij,ax]
 have eHj:(aU (aU (aU σ.heap n (some (.row te e 0 xs))) i (some (.row te e (g+1) []))) j (some (.box t (cs.set off (.sl n 0))))) j=some (.box t (cs.set off (.sl n 0))):=ax _ _ _
 generalize (aU (aU (aU σ.heap n (some (.row te e 0 xs))) i (some (.row te e (g+1) []))) j (some (.box t (cs.set off (.sl n 0)))))=H' at eH eHn eHi eHj
 have mn:(aU (aU μ n (some li)) i (some ⟨none,0⟩)) n=some li:=by rw[aA _ _ hni,ax]
 have mi:(aU (aU μ n (some li)) i (some ⟨none,0⟩)) i=some ⟨none,0⟩:=ax _ _ _
 have mq:∀ q,q≠n→q≠i→(aU (aU μ n (some li)) i (some ⟨none,0⟩)) q=μ q:=fun q h1 h2=>by rw[aA _ _ h2,aA _ _ h1]
 generalize (aU (aU μ n (some li)) i (some ⟨none,0⟩))=μ' at mn mi mq
 have ext:Ext μ S σ.heap μ' S H':=by
  refine⟨fun q l hq=>?_,fun _ _ h=>h,fun q t' e' g' ys hq hk=>?_⟩
  ·by_cases e1:q=n
   ·subst e1;rw[hmn] at hq;simp at hq
   ·by_cases e2:q=i
    ·subst e2
     exact .inr ⟨_,te,e,g,xs,te,g+1,[],mi,hi,eHi,by omega⟩
    ·rw[mq q e1 e2];exact .inl hq
  ·by_cases e1:q=n
   ·subst e1;rw[hmn] at hq;simp at hq
   ·by_cases e3:q=j
    ·subst e3;rw[eHj] at hk;simp at hk
    ·by_cases e2:q=i
     ·subst e2
      rw[eHi] at hk
      injection hk with hk
      injection hk with a1 a2 a3 a4
      subst a2;subst a3
      exact⟨te,g,xs,hi,by omega,fun h=>by omega⟩
     ·rw[eH q e1 e2 e3] at hk
      exact⟨t',g',ys,hk,Nat.le_refl _,fun _=>rfl⟩
 refine⟨μ',⟨A.defers,A.size,fun q hq=>en ext _ _ (A.tmp q hq)⟩,⟨R.below,R.size,R.st,fun q=>?_,fun q o hq=>?_,fun p q lp lq b hpq hp hq hbp=>?_,R.pre⟩,⟨fun x v h=>en ext _ _ (Co.vr x v h),Co.st,Co.sub⟩⟩
 ·by_cases e1:q=n
  ·subst e1;rw[eHn,mn];rfl
  ·by_cases e2:q=i
   ·subst e2;rw[eHi,mi];rfl
   ·by_cases e3:q=j
    ·subst e3
     rw[eHj,mq _ e1 e2,← R.dom,hj];rfl
    ·rw[eH q e1 e2 e3,mq q e1 e2];exact R.dom q
 ·by_cases e1:q=n
  ·subst e1
   rw[eHn] at hq;cases hq
   exact⟨li,mn,hOi⟩
  ·by_cases e2:q=i
   ·subst e2
    rw[eHi] at hq;cases hq
    exact⟨_,mi,⟨by simp,Nat.zero_le _⟩,.inl ⟨rfl,rfl⟩⟩
   ·by_cases e3:q=j
    ·subst e3
     rw[eHj] at hq;cases hq
     obtain⟨l,h1,h2⟩:=R.obj q _ hj
     refine⟨l,by rw[mq q e1 e2];exact h1,?_⟩
     obtain⟨b,vs,q1,q2,q3,q4,q5⟩:=bU ext (w':=w) (fun _ _=>rfl) (fun b hb=>(R.ge h1 hb).2) h2
     refine⟨b,vs,q1,q2,q3,q4,He q5 fun v hv=>?_⟩
     obtain⟨b',vs',p1,p2,p3,p4,p5⟩:=h2
     have evs:vs'=vs:=by
      have eb:b'=b:=Option.some.inj (p1.symm.trans q1)
      subst eb
      have:=p4.symm.trans q4
      simpa using this
     subst evs
     have hold:=Dx p5 hc hv
     simp only[VR] at hold ⊢
     obtain⟨s0,l2,s1,s2⟩:=hold
     rw[hmi] at s1;cases s1
     refine⟨s0,li,mn,fun t' e' gc ys hH=>?_⟩
     rw[eHn] at hH
     injection hH with hH
     injection hH with a1 a2 a3 a4
     subst a2;subst a3
     have a5:=eq_of_heq a4
     subst a5
     exact⟨Nat.le_refl _,fun _=>(s2 te e g xs hi).2 rfl⟩
    ·rw[eH q e1 e2 e3] at hq
     obtain⟨l,h1,h2⟩:=R.obj q o hq
     exact⟨l,by rw[mq q e1 e2];exact h1,bU ext (w':=w) (fun _ _=>rfl) (fun b hb=>(R.ge h1 hb).2) h2⟩
 ·
  intro hbq
  have nb:∀ q l,μ' q=some l→l.blk=some b→∃ q',μ q'=some l∧(q=n∧q'=i∨q≠n∧q≠i∧q'=q):=by
   intro q l hq hb
   by_cases e1:q=n
   ·subst e1;rw[mn] at hq;cases hq;exact⟨i,hmi,.inl ⟨rfl,rfl⟩⟩
   ·by_cases e2:q=i
    ·subst e2;rw[mi] at hq;cases hq;simp at hb
    ·rw[mq q e1 e2] at hq;exact⟨q,hq,.inr ⟨e1,e2,rfl⟩⟩
  obtain⟨p',k1,k2⟩:=nb p lp hp hbp
  obtain⟨q',k3,k4⟩:=nb q lq hq hbq
  have hne:p'≠q':=by
   rcases k2 with⟨rfl,rfl⟩|⟨h1,h2,rfl⟩
   ·rcases k4 with⟨rfl,rfl⟩|⟨h3,h4,rfl⟩
    ·exact absurd rfl hpq
    ·exact fun e=>h4 e.symm
   ·rcases k4 with⟨rfl,rfl⟩|⟨h3,h4,rfl⟩
    ·exact h2
    ·exact hpq
  exact R.sep p' q' lp lq b hne k1 k3 hbp hbq
omit [ar] in
theorem L7 (j off n:Nat)(h:Bd σ):Bd (lJ j off n σ):=by
 unfold lJ
 split
 case h_2=>exact h
 rename_i t cs hj
 split
 case h_2=>exact h
 rename_i i g hc
 split
 case h_2=>exact h
 rename_i hi hn
 cases Nat.beq _ _ with
 | false=>exact h
 | true=>
  intro q hq
  simp only[cond_true] at hq ⊢
  rw[List.mem_append]
  by_cases e3:q=j
  ·subst e3;exact .inl (h q (by rw[hj];simp))
  ·rw[aA _ _ e3] at hq
   by_cases e2:q=i
   ·exact .inl (h q (by rw[e2,hi];simp))
   ·rw[aA _ _ e2] at hq
    by_cases e1:q=n
    ·exact .inr (by simp[e1])
    ·rw[aA _ _ e1] at hq;exact .inl (h q hq)
theorem HN:∀ (l:List (Nat×Nat×Nat)) {σ:St} {μ:Mu},AR N Dt μ S σ a→Rel μ S σ.heap B w0 w→Carry B μo So Ho μ S σ.heap →
  ∃ μ',AR N Dt μ' S (σ.gm l) a∧Rel μ' S (σ.gm l).heap B w0 w∧Carry B μo So Ho μ' S (σ.gm l).heap
 | [],σ,μ,A,R,Co=>⟨μ,A,R,Co⟩
 | p::l,σ,μ,A,R,Co=>by
  obtain⟨μ1,A1,R1,C1⟩:=La p.1 p.2.1 p.2.2 A R Co
  exact HN l A1 R1 C1
omit [ar] in
theorem Gd:∀ (l:List (Nat×Nat×Nat)) {σ:St},Bd σ→Bd (σ.gm l)
 | [],σ,h=>h
 | p::l,σ,h=>Gd l (L7 p.1 p.2.1 p.2.2 h)
end
end Go.Sy
