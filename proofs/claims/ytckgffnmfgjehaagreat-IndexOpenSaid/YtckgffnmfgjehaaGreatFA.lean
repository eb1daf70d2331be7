/- Sym1, Sym2, Sym3, Sym4, Sym4d, Sym5, Sym5b, Sym5c. -/
import Derived.Orders
import Derived.Below
import Derived.WideLaws
import Derived.Laws.Cells
import Derived.Laws.CopyRow
import Derived.Laws.Rows
import Derived.Laws.CopyOwn
import Derived.Laws.StructEq
import Derived.Laws.Build
import Derived.Maps.AppendAt
import Derived.Laws.MakeOwn
import Derived.Laws.BytesArg
import Derived.Laws.AppendOwn
open Nat renaming eq_of_beq_eq_true → ae, beq → be, le_refl → bi, mul_le_mul_right → dj, add_mul → dp, zero_add → dt, le_of_ble_eq_true → eI, add_assoc → ik, one_mul → im, add_zero → jn, lt_succ_self → my, zero_le → pb, ble → pv, sub_zero → pB, zero_mul → pC
open Go.Result renaming andThen_ok → al
open Go.Sem renaming run_bind → ap, run_pure → aw, run_ite → ee
open Bool renaming and_eq_true → ba, false_eq_true → ky
open Option.some renaming injEq → bj, inj → bm
open Array renaming getElem?_setIfInBounds_ne → cd, length_toList → cf, getElem?_eq_some_iff → da, getElem?_setIfInBounds_self_of_lt → fb, getElem?_toList → gg, getElem?_setIfInBounds → h9, size_setIfInBounds → kh, toList_setIfInBounds → nf
open Go.Instr renaming sliceBounds → cn, sliceAt → dC, sureAddr → eJ, indexAt → eK, loadAt → gn, storeAt → kb, slice → lr, typeAssert → nz, buildSlice → oj, fieldAt → pj, fill → po, index → pD, build → ra
open List renaming getElem?_eq_some_iff → db, replicate → dd, getElem?_eq_getElem → dk, getElem?_take → dv, getElem?_set_self → dE, eq_nil_of_length_eq_zero → eh, getD_eq_getElem?_getD → eQ, getElem?_append_left → fa, getElem?_set_ne → fg, length_append → fj, getElem?_drop → ft, getElem?_append_right → fx, toList_toArray → gk, length_take → gl, getElem?_eq_none → il, replicate_succ → ka, length_set → km, append_nil → kn, append_assoc → ly, flatten_cons → lA, length_replicate → mf, length_drop → ml, length → na, length_nil → nd, map_cons → pf, range → pk
open Option renaming map_none → dq, map_some → du
open Go.Builtin renaming append_ → ib, len_ → lO, zeroCells → ma, clear_ → nn
open Go.Utf8 renaming decode → ll
open Go.Value renaming ownBlock → lL
open Go.RowKit.Below renaming refl → nl
open Go.World.grownBy renaming refl → nm
open Go.Program renaming methodsAt → np
open Go.Op renaming equalIn → o0, eqFields → pc
open Ne renaming symm → pa
open Iff renaming rfl → pd
open Classical renaming byCases → pA
namespace Go.Sy
open Go Go.RowKit
inductive Ty where
 | int (k:IntKind)
 | bool
 | str
 | row (e:Ty)
 | pair (a b:Ty)
 | one (a:Ty)
 | CQ (k:Nat)
 | nil
 deriving DecidableEq
@[reducible] def Ty.T:Ty→Type
 | .int _=>Int
 | .bool=>Bool
 | .str=>ByteArray
 | .row e=>List e.T
 | .pair a b=>a.T×b.T
 | .one a=>a.T
 | .CQ _=>Unit
 | .nil=>Unit
def Ty.size:Ty→Nat
 | .int _=>1
 | .bool=>1
 | .str=>1
 | .row _=>1
 | .pair a b=>a.size+b.size
 | .one a=>a.size
 | .CQ _=>1
 | .nil=>1
inductive AV where
 | lit (x:Value)
 | ptr (i off:Nat)
 | FI (e:Ty) (x:e.T) (off:Nat)
 | CY (i g k off:Nat)
 | cont (e:Ty) (xs:List e.T)
 | sl (i g:Nat)
 | sub (i g lo hi:Nat)
 | Rb (i n:Nat)
 | iK (i:Nat)
 | mp (i:Nat)
 | fn (f:Fn) (first caps:List AV)
 | agg (cs:List AV)
 | uo (vs:List AV)
 | AJ (t:TypeId) (v:AV)
 | fE (v:AV)
 | CS
 | zR (i:Nat)
 | ur (i k off:Nat)
 | cH (i q k lo hi:Nat)
 | Mp (i q k p:Nat)
 | Ks (i:Nat) (xs:List Int)
 | ah
structure Lc where
 blk:Option Nat
 cap:Nat
 cH:Nat→Option Nat×Nat
abbrev aT:Nat→Option Nat×Nat:=fun _=>(none,0)
def Lc.at (l:Lc)(k:Nat):Lc:=⟨(l.cH k).1,(l.cH k).2,aT⟩
def Lc.has (l:Lc)(b:Nat):Prop:=l.blk=some b∨∃ k,(l.cH k).1=some b
abbrev cM:Ty:=.pair (.int .i64) (.pair (.row (.int .u8)) (.int .i64))
abbrev FT:Type:=Int×(List Int×Int)
def Lc.addr (l:Lc):Option Addr:=l.blk.map fun b=>⟨b,0,none⟩
abbrev ar:=Nat→Option Obj
def cellS (S:ar)(a:Addr):Option Value:=
 match S a.block with
 | some (.cells c _ _)=>if a.spot.isSome then none else c[a.off]?
 | _=>none
def Rd (S:ar):(t:Ty)→t.T→List Value→Prop
 | .int k,x,cs=>cs=[.int k x]
 | .bool,x,cs=>cs=[.bool x]
 | .str,x,cs=>cs=[.string x]
 | .row e,xs,cs=>∃ a cap,cs=[.slice a (na xs) cap]∧(na xs≤cap∧(a=none→cap=0)) ∧
   ∀ (j:Nat) (x:e.T),xs[j]? = some x→∃ ad c,a=some ad∧Rd S e x c∧∀ m v,c[m]? = some v→cellS S (ad.add (j * e.size+m))=some v
 | .pair a b,x,cs=>∃ c d,cs=c++d∧Rd S a x.1 c∧Rd S b x.2 d
 | .one a,x,cs=>Rd S a x cs
 | .CQ k,_,cs=>cs=[.func (.func k) #[] #[]]
 | .nil,_,cs=>cs=[.slice none 0 0]
def enc:(t:Ty)→t.T→List AV
 | .int k,x=>[.lit (.int k x)]
 | .bool,x=>[.lit (.bool x)]
 | .str,x=>[.lit (.string x)]
 | .row e,xs=>[.cont e xs]
 | .pair a b,x=>enc a x.1++enc b x.2
 | .one a,x=>enc a x
 | .CQ k,_=>[.fn (.func k) [] []]
 | .nil,_=>[.lit (.slice none 0 0)]
inductive Xz where
 | ret
 | exit (id:Nat)
 | goto (l:Nat)
def Xz.code:Xz→Code
 | .ret=>.ret
 | .exit i=>.exit i
 | .goto l=>.goto l
inductive KO where
 | ready
 | busy
 | done (j:Xz)
 | over
def KO.Is:KO→LoopState→Option Code→Prop
 | .ready,s,p=>s = .ready∧p=none
 | .busy,s,_=>s = .busy
 | .done j,s,p=>s = .done∧p=some j.code
 | .over,_,_=>True
inductive gz where
 | own
 | lJ (k:Nat)
 | iI (m:Nat)
 | late (m:Nat)
def gz.head:gz→Nat→Prop
 | .own,_=>True
 | .lJ j,k=>k≠j
 | .iI m,k=>k<m
 | .late m,k=>k<m
def gz.mine:gz→Nat→Prop
 | .own,_=>True
 | .lJ _,_=>True
 | .iI m,k=>k<m
 | .late m,k=>k≤m
inductive aS where
 | box (t:TypeId) (cells:List AV)
 | row (t:TypeId) (e:Ty) (g:Nat) (xs:List e.T)
 | eP (s:ByteArray) (pos:Nat)
 | loop (k r:Nat) (st:KO) (tmps:List AV)
 | map (es:List (Int×Int))
 | cL (es:List ((Int×(Int×Int))×Int))
 | aO (t ti:TypeId) (q:Nat) (xs:List FT) (st:gz)
def aS.mv:aS→Bool
 | .row _ _ _ _=>true
 | .aO _ _ _ _ _=>true
 | _=>false
abbrev Heap:=Nat→Option aS
abbrev Mu:=Nat→Option Lc
def aP {α:Type}(f:Nat→α)(i:Nat)(v:α):Nat→α:=fun n=>cond (be n i) v (f n)
theorem au {α:Type}(f:Nat→α)(i:Nat)(v:α):aP f i v i=v:=by simp[aP]
theorem ax {α:Type}(f:Nat→α){i j:Nat}(v:α)(h:j≠i):aP f i v j=f j:=by
 simp only[aP];have:be j i=false:=by
  cases hb:be j i with
  | false=>rfl
  | true=>exact absurd (ae hb) h
 rw[this];rfl
theorem Fq {α:Type}(f:Nat→α){i j:Nat}(v u:α)(h:i≠j):aP (aP f i v) j u=aP (aP f j u) i v:=by
 funext n
 by_cases h1:n=i
 ·subst h1;rw[ax _ _ h,au,au]
 ·by_cases h2:n=j
  ·subst h2;rw[au,ax _ _ h1,au]
  ·rw[ax _ _ h2,ax _ _ h1,ax _ _ h1,ax _ _ h2]
mutual
def VR (μ:Mu)(S:ar)(H:Heap):AV→Value→Prop
 | .lit x,v=>v=x
 | .ptr i off,v=>∃ b c,μ i=some ⟨some b,c,aT⟩∧(∀ o,H i=some o→o.mv=false)∧v = .pointer (some ⟨b,off,none⟩)
 | .FI e x off,v=>∃ (ad:Addr) (c:List Value),Rd S e x c∧(∀ m u,c[m]? = some u→cellS S (ad.add m)=some u)∧v = .pointer (some (ad.add off))
 | .CY i g k off,v=>(∃ p,v = .pointer p)∧∃ l,μ i=some l∧∀ t e gc xs,H i=some (.row t e gc xs)→g≤gc∧(g=gc→∃ b,l.blk=some b∧v = .pointer (some ⟨b,k * e.size+off,none⟩))
 | .cont e xs,v=>Rd S (.row e) xs [v]
 | .Ks _ xs,v=>Rd S (.row (.int .u8)) xs [v]
 | .sl i g,v=>(∃ a n c,v = .slice a n c)∧∃ l,μ i=some l∧∀ t e gc xs,H i=some (.row t e gc xs)→g≤gc∧(g=gc→v = .slice l.addr xs.length l.cap)
 | .sub i g lo hi,v=>(∃ a n c,v = .slice a n c)∧∃ l,μ i=some l∧∀ t e gc xs,H i=some (.row t e gc xs)→g≤gc∧(g=gc→lo≤hi∧hi≤xs.length ∧
   ∃ a,v = .slice a (hi-lo) (l.cap-lo)∧((lo=0∨lo<hi)→a=l.addr.map (·.add (lo * e.size)))∧(a=none→l.addr=none))
 | .Rb i n,v=>∃ b c,μ i=some ⟨some b,c,aT⟩∧(∀ o,H i=some o→o.mv=false)∧∃ cap,n≤cap∧v = .slice (some ⟨b,0,none⟩) n cap
 | .iK i,v=>∃ b c,μ i=some ⟨some b,c,aT⟩∧(∀ o,H i=some o→o.mv=false)∧v = .func (.yield b) #[] #[]
 | .mp i,v=>∃ b c,μ i=some ⟨some b,c,aT⟩∧(∀ o,H i=some o→o.mv=false)∧v = .map (some b)
 | .fn f fi ca,v=>∃ x y,v = .func f x y∧aH μ S H fi x.toList∧aH μ S H ca y.toList
 | .agg cs,v=>∃ x,v = .agg x∧aH μ S H cs x.toList
 | .uo cs,v=>∃ x,v = .tuple x∧aH μ S H cs x.toList
 | .AJ t a,v=>∃ u,v = .iface t u∧VR μ S H a u
 | .fE _,_=>False
 | .CS,v=>v.oneCell'=true
 | .zR i,v=>(∃ a n c,v = .slice a n c)∧∃ l,μ i=some l∧∀ t ti q xs st,H i=some (.aO t ti q xs st)→v = .slice l.addr xs.length l.cap
 | .ur i k off,v=>(∃ p,v = .pointer p)∧∃ l,μ i=some l∧∀ t ti q xs st,H i=some (.aO t ti q xs st)→∃ b,l.blk=some b∧v = .pointer (some ⟨b,k * 3+off,none⟩)
 | .cH i q k lo hi,v=>(∃ a n c,v = .slice a n c)∧∃ l,μ i=some l∧∀ t ti qc xs st,H i=some (.aO t ti qc xs st)→q≤qc∧(q=qc→st.mine k∧lo≤hi∧hi≤(l.at k).cap ∧
   ∃ a,v = .slice a (hi-lo) ((l.at k).cap-lo)∧((lo=0∨lo<hi)→a=(l.at k).addr.map (·.add lo))∧(a=none→(l.at k).addr=none))
 | .Mp i q k p,v=>(∃ p,v = .pointer p)∧∃ l,μ i=some l∧∀ t ti qc xs st,H i=some (.aO t ti qc xs st)→q≤qc∧(q=qc→st.mine k∧∃ b,(l.at k).blk=some b∧v = .pointer (some ⟨b,p,none⟩))
 | .ah,_=>True
def aH (μ:Mu)(S:ar)(H:Heap):List AV→List Value→Prop
 | [],vs=>vs=[]
 | a::as,vs=>∃ v r,vs=v::r∧VR μ S H a v∧aH μ S H as r
end
class aq where
 pre:ar→Prop
 fX:Nat→Nat→Option (Array Tmp×Code×Code)
 mono:∀ S S':ar,(∀ b o,S b=some o→S' b=some o)→pre S→pre S'
def bw:Nat→List (Int×Int)→List MapEntry
 | _,[]=>[]
 | n,p::l=>⟨.int .i64 p.1,.int .i64 p.2,n⟩::bw (n+1) l
def xS (k:Int×(Int×Int)):Value:=.agg #[.int .i64 k.1,.int .i64 k.2.1,.int .i64 k.2.2]
def RH (p:(Int×(Int×Int))×Int):Value×Value:=(xS p.1,.int .i64 p.2)
def iD (S:ar)(w:World)(B:Nat)(l:Lc)(t:TypeId)(e:Ty)(xs:List e.T):Prop:=
 (xs.length≤l.cap∧l.cap≤maxLen)∧((l.blk=none∧l.cap=0)∨∃ b cs,l.blk=some b∧B≤b∧S b=none∧w.heap[b]? = some (.cells cs t (0,0))∧cs.size=l.cap * e.size ∧
   ∀ (j:Nat) (x:e.T),xs[j]? = some x→∃ c,Rd S e x c∧∀ m v,c[m]? = some v→cs[j * e.size+m]? = some v)
def tX (S:ar)(l:Lc)(st:gz)(cs:Array Value)(k:Nat)(x:FT):Prop:=
 cs[k * 3]? = some (.int .i64 x.1)∧cs[k * 3+2]? = some (.int .i64 x.2.2)∧∃ v,cs[k * 3+1]? = some v∧v.oneCell'=true∧(st.head k→v = .slice (l.at k).addr x.2.1.length (l.at k).cap)∧(¬ st.mine k→Rd S (.row (.int .u8)) x.2.1 [v])
structure cT (S:ar)(w:World)(B:Nat)(l:Lc)(t ti:TypeId)(xs:List FT)(st:gz):Prop where
 len:xs.length≤l.cap∧l.cap≤maxLen
 out:∀ k,xs.length≤k∨¬ st.mine k→l.cH k=(none,0)
 row:∀ (k:Nat) (x:FT),xs[k]? = some x→st.mine k→iD S w B (l.at k) ti (.int .u8) x.2.1
 one:∀ k k' b,(l.cH k).1=some b→(l.cH k').1=some b→k=k'
 off:∀ k b,(l.cH k).1=some b→l.blk≠some b
 CS:(l.blk=none∧l.cap=0)∨∃ b cs,l.blk=some b∧B≤b∧S b=none∧w.heap[b]? = some (.cells cs t (0,0))∧cs.size=l.cap * 3∧∀ (k:Nat) (x:FT),xs[k]? = some x→tX S l st cs k x
def og [aq](μ:Mu)(S:ar)(H:Heap)(w:World)(B:Nat)(l:Lc):aS→Prop
 | .box t cells=>∃ b cs,l.blk=some b∧B≤b∧S b=none∧w.heap[b]? = some (.cells cs t (0,0))∧aH μ S H cells cs.toList
 | .eP s pos=>∃ b,l.blk=some b∧B≤b∧S b=none∧w.heap[b]? = some (.stringIter s pos)
 | .loop k r st ts=>∃ b fn ss pe vs ps asn body df,l.blk=some b∧B≤b∧S b=none∧aq.fX k r=some (ps,asn,body)∧st.Is ss pe ∧
   w.heap[b]? = some (.loop ⟨ss,pe,fn,vs,ps,asn,body,df⟩)∧aH μ S H ts vs.toList
 | .map es=>∃ b,l.blk=some b∧B≤b∧S b=none∧w.heap[b]? = some (.map (bw 0 es).toArray es.length)
 | .cL es=>∃ b ents ck,l.blk=some b∧B≤b∧S b=none∧w.heap[b]? = some (.map ents ck)∧ents.toList.map (fun e=>(e.key,e.val))=es.map RH
 | .row t e _ xs=>iD S w B l t e xs
 | .aO t ti _ xs st=>cT S w B l t ti xs st
structure Rel [aq](μ:Mu)(S:ar)(H:Heap)(B:Nat)(w0 w:World):Prop where
 below:Below B w0 w
 size:B≤w.heap.size
 st:∀ b o,S b=some o→w.heap[b]? = some o
 dom:∀ i,(H i).isSome=(μ i).isSome
 obj:∀ i o,H i=some o→∃ l,μ i=some l∧og μ S H w B l o
 sep:∀ i j li lj b,i≠j→μ i=some li→μ j=some lj→li.has b→¬ lj.has b
 cH:∀ i l,μ i=some l→l.cH=aT∨∃ t ti q xs st,H i=some (.aO t ti q xs st)
 pre:aq.pre S
inductive O6 (l l':Lc):aS→aS→Prop where
 | row {t e g xs t' g' xs'} (h:g<g'):O6 l l' (.row t e g xs) (.row t' e g' xs')
 | aO {t ti q xs st t' ti' q' xs' st'} (h:q<q'∨q=q'∧∀ k,st.mine k→st'.mine k∧l'.cH k=l.cH k) (h1:l'.blk=l.blk) (h2:l'.cap=l.cap):O6 l l' (.aO t ti q xs st) (.aO t' ti' q' xs' st')
structure Ext (μ:Mu)(S:ar)(H:Heap)(μ':Mu)(S':ar)(H':Heap):Prop where
 mu:∀ i l,μ i=some l→μ' i=some l∨∃ l' o o',μ' i=some l'∧H i=some o∧H' i=some o'∧O6 l l' o o'
 st:∀ b o,S b=some o→S' b=some o
 row:∀ i t e g xs,(μ i).isSome→H' i=some (.row t e g xs)→∃ t' g0 xs',H i=some (.row t' e g0 xs')∧g0≤g∧(g0=g→xs'.length=xs.length)
 aO:∀ i t ti q xs st,(μ i).isSome→H' i=some (.aO t ti q xs st)→∃ t' ti' q0 xs' st',H i=some (.aO t' ti' q0 xs' st')∧q0≤q∧xs'.length=xs.length∧(q0=q→∀ k,st'.mine k→st.mine k)
theorem vD {S S':ar}(h:∀ b o,S b=some o→S' b=some o){a:Addr}{v:Value}(hc:cellS S a=some v):cellS S' a=some v:=by
 unfold cellS at *
 cases hS:S a.block with
 | none=>simp[hS] at hc
 | some o=>rw[h _ _ hS];rw[hS] at hc;exact hc
theorem dD {S S':ar}(h:∀ b o,S b=some o→S' b=some o):∀ (t:Ty) (x:t.T) (cs:List Value),Rd S t x cs→Rd S' t x cs
 | .int _,_,_,hr=>hr
 | .bool,_,_,hr=>hr
 | .str,_,_,hr=>hr
 | .row e,xs,cs,hr=>by
  obtain⟨a,cap,h1,h2,h3⟩:=hr
  refine⟨a,cap,h1,h2,fun j x hj=>?_⟩
  obtain⟨ad,c,e1,e2,e3⟩:=h3 j x hj
  exact⟨ad,c,e1,dD h e x c e2,fun m v hv=>vD h (e3 m v hv)⟩
 | .pair a b,x,cs,hr=>by
  obtain⟨c,d,h1,h2,h3⟩:=hr
  exact⟨c,d,h1,dD h a _ _ h2,dD h b _ _ h3⟩
 | .one a,x,cs,hr=>dD h a x cs hr
 | .CQ _,_,_,hr=>hr
 | .nil,_,_,hr=>hr
theorem b7 {S:ar}:∀ (t:Ty) (x:t.T) (cs:List Value),Rd S t x cs→cs.length=t.size
 | .int _,_,_,hr=>by cases hr;rfl
 | .bool,_,_,hr=>by cases hr;rfl
 | .str,_,_,hr=>by cases hr;rfl
 | .row e,xs,cs,hr=>by obtain⟨a,cap,rfl,_,_⟩:=hr;rfl
 | .pair a b,x,cs,hr=>by
  obtain⟨c,d,rfl,h2,h3⟩:=hr
  rw[fj,b7 a _ _ h2,b7 b _ _ h3];rfl
 | .one a,x,cs,hr=>b7 a x cs hr
 | .CQ _,_,_,hr=>by cases hr;rfl
 | .nil,_,_,hr=>by cases hr;rfl
section
variable {μ:Mu}{S:ar}{H:Heap}{μ':Mu}{S':ar}{H':Heap}
theorem Ext.Je (h:Ext μ S H μ' S' H'){i:Nat}{l:Lc}(h1:μ i=some l)(h2:∀ o,H i=some o→o.mv=false):μ' i=some l:=by
 rcases h.mu _ _ h1 with h|⟨l',o,o',_,e2,_,k⟩
 ·exact h
 ·have:=h2 _ e2
  cases k<;>cases this
theorem Ext.still (h:Ext μ S H μ' S' H'){i:Nat}{l:Lc}(h1:μ i=some l)(h2:∀ o,H i=some o→o.mv=false):∀ o,H' i=some o→o.mv=false:=by
 intro o hH
 cases o with
 | row t e g xs=>
  obtain⟨t',g0,xs',e1,_⟩:=h.row i t e g xs (by rw[h1];rfl) hH
  exact absurd (h2 _ e1) (by simp[aS.mv])
 | aO t ti q xs st=>
  obtain⟨t',ti',g0,xs',st',e1,_⟩:=h.aO i t ti q xs st (by rw[h1];rfl) hH
  exact absurd (h2 _ e1) (by simp[aS.mv])
 | _=>rfl
mutual
theorem dA (h:Ext μ S H μ' S' H'):∀ (a:AV) (v:Value),VR μ S H a v→VR μ' S' H' a v
 | .lit _,v,hr=>by simp only[VR] at hr ⊢;exact hr
 | .ptr i off,v,hr=>by
  simp only[VR] at hr ⊢
  obtain⟨b,c,h1,h2,h3⟩:=hr
  refine⟨b,c,h.Je h1 h2,h.still h1 h2,h3⟩
 | .FI e x off,v,hr=>by
  simp only[VR] at hr ⊢
  obtain⟨ad,c,h1,h2,h3⟩:=hr
  exact⟨ad,c,dD h.st _ _ _ h1,fun m u hm=>vD h.st (h2 m u hm),h3⟩
 | .CY i g k off,v,hr=>by
  simp only[VR] at hr ⊢
  obtain⟨h0,l,h1,h2⟩:=hr
  refine⟨h0,?_⟩
  rcases h.mu _ _ h1 with k1|⟨l',o,o',k1,k2,k3,k4⟩
  ·refine⟨l,k1,fun t e gc xs hH=>?_⟩
   obtain⟨t',g0,xs',e1,e2,e3⟩:=h.row i t e gc xs (by rw[h1];rfl) hH
   obtain⟨f1,f2⟩:=h2 t' e g0 xs' e1
   exact⟨by omega,fun hg=>f2 (by omega)⟩
  ·refine⟨l',k1,fun t e gc xs hH=>?_⟩
   rw[k3] at hH;cases hH
   cases k4 with
   | row hl=>
    obtain⟨f1,_⟩:=h2 _ _ _ _ k2
    exact⟨by omega,fun hg=>by omega⟩
 | .cont e xs,v,hr=>by simp only[VR] at hr ⊢;exact dD h.st (.row e) xs [v] hr
 | .Ks _ xs,v,hr=>by simp only[VR] at hr ⊢;exact dD h.st (.row (.int .u8)) xs [v] hr
 | .sl i g,v,hr=>by
  simp only[VR] at hr ⊢
  obtain⟨h0,l,h1,h2⟩:=hr
  refine⟨h0,?_⟩
  rcases h.mu _ _ h1 with k1|⟨l',o,o',k1,k2,k3,k4⟩
  ·refine⟨l,k1,fun t e gc xs hH=>?_⟩
   obtain⟨t',g0,xs',e1,e2,e3⟩:=h.row i t e gc xs (by rw[h1];rfl) hH
   obtain⟨f1,f2⟩:=h2 t' e g0 xs' e1
   exact⟨by omega,fun hg=>by rw[f2 (by omega),e3 (by omega)]⟩
  ·refine⟨l',k1,fun t e gc xs hH=>?_⟩
   rw[k3] at hH;cases hH
   cases k4 with
   | row hl=>
    obtain⟨f1,_⟩:=h2 _ _ _ _ k2
    exact⟨by omega,fun hg=>by omega⟩
 | .sub i g lo hi,v,hr=>by
  simp only[VR] at hr ⊢
  obtain⟨h0,l,h1,h2⟩:=hr
  refine⟨h0,?_⟩
  rcases h.mu _ _ h1 with k1|⟨l',o,o',k1,k2,k3,k4⟩
  ·refine⟨l,k1,fun t e gc xs hH=>?_⟩
   obtain⟨t',g0,xs',e1,e2,e3⟩:=h.row i t e gc xs (by rw[h1];rfl) hH
   obtain⟨f1,f2⟩:=h2 t' e g0 xs' e1
   exact⟨by omega,fun hg=>by rw[← e3 (by omega)];exact f2 (by omega)⟩
  ·refine⟨l',k1,fun t e gc xs hH=>?_⟩
   rw[k3] at hH;cases hH
   cases k4 with
   | row hl=>
    obtain⟨f1,_⟩:=h2 _ _ _ _ k2
    exact⟨by omega,fun hg=>by omega⟩
 | .Rb i n,v,hr=>by
  simp only[VR] at hr ⊢
  obtain⟨b,c,h1,h2,h3⟩:=hr
  refine⟨b,c,h.Je h1 h2,h.still h1 h2,h3⟩
 | .iK i,v,hr=>by
  simp only[VR] at hr ⊢
  obtain⟨b,c,h1,h2,h3⟩:=hr
  refine⟨b,c,h.Je h1 h2,h.still h1 h2,h3⟩
 | .mp i,v,hr=>by
  simp only[VR] at hr ⊢
  obtain⟨b,c,h1,h2,h3⟩:=hr
  refine⟨b,c,h.Je h1 h2,h.still h1 h2,h3⟩
 | .fn f fi ca,v,hr=>by
  simp only[VR] at hr ⊢
  obtain⟨x,y,h1,h2,h3⟩:=hr
  exact⟨x,y,h1,dU h fi _ h2,dU h ca _ h3⟩
 | .agg cs,v,hr=>by
  simp only[VR] at hr ⊢
  obtain⟨x,h1,h2⟩:=hr
  exact⟨x,h1,dU h cs _ h2⟩
 | .uo cs,v,hr=>by
  simp only[VR] at hr ⊢
  obtain⟨x,h1,h2⟩:=hr
  exact⟨x,h1,dU h cs _ h2⟩
 | .AJ t a,v,hr=>by
  simp only[VR] at hr ⊢
  obtain⟨u,h1,h2⟩:=hr
  exact⟨u,h1,dA h a _ h2⟩
 | .fE _,_,hr=>by simp only[VR] at hr
 | .CS,_,hr=>by simpa only [VR] using hr
 | .zR i,v,hr=>by
  simp only[VR] at hr ⊢
  obtain⟨h0,l,h1,h2⟩:=hr
  refine⟨h0,?_⟩
  rcases h.mu _ _ h1 with k1|⟨l',o,o',k1,k2,k3,k4⟩
  ·refine⟨l,k1,fun t ti qc xs st hH=>?_⟩
   obtain⟨t',ti',q0,xs',st',e1,_,e3,_⟩:=h.aO i t ti qc xs st (by rw[h1];rfl) hH
   rw[← e3];exact h2 _ _ _ _ _ e1
  ·refine⟨l',k1,fun t ti qc xs st hH=>?_⟩
   obtain⟨t',ti',q0,xs',st',e1,_,e3,_⟩:=h.aO i t ti qc xs st (by rw[h1];rfl) hH
   rw[k3] at hH;cases hH
   cases k4 with
   | aO hl q1 q2=>
    rw[← e3,h2 _ _ _ _ _ e1]
    simp only[Lc.addr,q1,q2]
 | .ur i k off,v,hr=>by
  simp only[VR] at hr ⊢
  obtain⟨h0,l,h1,h2⟩:=hr
  refine⟨h0,?_⟩
  rcases h.mu _ _ h1 with k1|⟨l',o,o',k1,k2,k3,k4⟩
  ·refine⟨l,k1,fun t ti qc xs st hH=>?_⟩
   obtain⟨t',ti',q0,xs',st',e1,_,e3,_⟩:=h.aO i t ti qc xs st (by rw[h1];rfl) hH
   exact h2 _ _ _ _ _ e1
  ·refine⟨l',k1,fun t ti qc xs st hH=>?_⟩
   obtain⟨t',ti',q0,xs',st',e1,_,e3,_⟩:=h.aO i t ti qc xs st (by rw[h1];rfl) hH
   rw[k3] at hH;cases hH
   cases k4 with
   | aO hl q1 q2=>rw[q1];exact h2 _ _ _ _ _ e1
 | .cH i q k lo hi,v,hr=>by
  simp only[VR] at hr ⊢
  obtain⟨h0,l,h1,h2⟩:=hr
  refine⟨h0,?_⟩
  rcases h.mu _ _ h1 with k1|⟨l',o,o',k1,k2,k3,k4⟩
  ·refine⟨l,k1,fun t ti qc xs st hH=>?_⟩
   obtain⟨t',ti',q0,xs',st',e1,e2,_,e4⟩:=h.aO i t ti qc xs st (by rw[h1];rfl) hH
   obtain⟨f1,f2⟩:=h2 _ _ _ _ _ e1
   exact⟨by omega,fun hg=>⟨e4 (by omega) _ (f2 (by omega)).1,(f2 (by omega)).2⟩⟩
  ·refine⟨l',k1,fun t ti qc xs st hH=>?_⟩
   rw[k3] at hH;cases hH
   cases k4 with
   | aO hl=>
    obtain⟨f1,f2⟩:=h2 _ _ _ _ _ k2
    rcases hl with hl|⟨hq,hm⟩
    ·exact⟨by omega,fun hg=>by omega⟩
    ·subst hq
     refine⟨f1,fun hg=>?_⟩
     obtain⟨g1,g2⟩:=f2 hg
     obtain⟨m1,m2⟩:=hm k g1
     have:l'.at k=l.at k:=by simp only[Lc.at,m2]
     exact⟨m1,by rw[this];exact g2⟩
 | .Mp i q k p,v,hr=>by
  simp only[VR] at hr ⊢
  obtain⟨h0,l,h1,h2⟩:=hr
  refine⟨h0,?_⟩
  rcases h.mu _ _ h1 with k1|⟨l',o,o',k1,k2,k3,k4⟩
  ·refine⟨l,k1,fun t ti qc xs st hH=>?_⟩
   obtain⟨t',ti',q0,xs',st',e1,e2,_,e4⟩:=h.aO i t ti qc xs st (by rw[h1];rfl) hH
   obtain⟨f1,f2⟩:=h2 _ _ _ _ _ e1
   exact⟨by omega,fun hg=>⟨e4 (by omega) _ (f2 (by omega)).1,(f2 (by omega)).2⟩⟩
  ·refine⟨l',k1,fun t ti qc xs st hH=>?_⟩
   rw[k3] at hH;cases hH
   cases k4 with
   | aO hl=>
    obtain⟨f1,f2⟩:=h2 _ _ _ _ _ k2
    rcases hl with hl|⟨hq,hm⟩
    ·exact⟨by omega,fun hg=>by omega⟩
    ·subst hq
     refine⟨f1,fun hg=>?_⟩
     obtain⟨g1,g2⟩:=f2 hg
     obtain⟨m1,m2⟩:=hm k g1
     have:l'.at k=l.at k:=by simp only[Lc.at,m2]
     exact⟨m1,by rw[this];exact g2⟩
 | .ah,_,_=>by simp only[VR]
theorem dU (h:Ext μ S H μ' S' H'):∀ (as:List AV) (vs:List Value),aH μ S H as vs→aH μ' S' H' as vs
 | [],vs,hr=>by simp only[aH] at hr ⊢;exact hr
 | a::as,vs,hr=>by
  simp only[aH] at hr ⊢
  obtain⟨v,r,h1,h2,h3⟩:=hr
  exact⟨v,r,h1,dA h a v h2,dU h as r h3⟩
end
theorem Ext.refl:Ext μ S H μ S H:=⟨fun _ _ h=>.inl h,fun _ _ h=>h,fun _ t _ g xs _ h=>⟨t,g,xs,h,bi _,fun _=>rfl⟩,fun _ t ti q xs st _ h=>⟨t,ti,q,xs,st,h,bi _,rfl,fun _ _ h=>h⟩⟩
theorem aU:∀ {as:List AV} {vs:List Value},aH μ S H as vs→as.length=vs.length
 | [],vs,h=>by simp only[aH] at h;subst h;rfl
 | a::as,vs,h=>by
  simp only[aH] at h
  obtain⟨v,r,rfl,_,h3⟩:=h
  simp[aU h3]
theorem uC:∀ {as:List AV} {vs:List Value},aH μ S H as vs→∀ (j:Nat) (a:AV),as[j]? = some a→∃ v,vs[j]? = some v∧VR μ S H a v
 | [],vs,h,j,a,hj=>by simp at hj
 | b::as,vs,h,j,a,hj=>by
  simp only[aH] at h
  obtain⟨v,r,rfl,h2,h3⟩:=h
  cases j with
  | zero=>simp at hj;subst hj;exact⟨v,by simp,h2⟩
  | succ j=>simp at hj;obtain⟨u,hu,hr⟩:=uC h3 j a hj;exact⟨u,by simpa using hu,hr⟩
theorem cl:∀ {as bs:List AV} {vs us:List Value},aH μ S H as vs→aH μ S H bs us→aH μ S H (as++bs) (vs++us)
 | [],bs,vs,us,h,h'=>by simp only[aH] at h;subst h;simpa using h'
 | a::as,bs,vs,us,h,h'=>by
  simp only[aH] at h
  obtain⟨v,r,rfl,h2,h3⟩:=h
  simp only[List.cons_append,aH]
  exact⟨v,r++us,rfl,h2,cl h3 h'⟩
theorem Ci:∀ {as:List AV} {vs:List Value},aH μ S H as vs→∀ (j:Nat) (a:AV) (v:Value),VR μ S H a v→aH μ S H (as.set j a) (vs.set j v)
 | [],vs,h,j,a,v,ha=>by simp only[aH] at h;subst h;simp[aH]
 | b::as,vs,h,j,a,v,ha=>by
  simp only[aH] at h
  obtain⟨u,r,rfl,h2,h3⟩:=h
  cases j with
  | zero=>simp only[List.set,aH];exact⟨v,r,rfl,ha,h3⟩
  | succ j=>simp only[List.set,aH];exact⟨u,_,rfl,h2,Ci h3 j a v ha⟩
theorem qH:∀ (n:Nat) {as:List AV} {vs:List Value},aH μ S H as vs→aH μ S H (as.drop n) (vs.drop n)
 | 0,_,_,h=>by simpa using h
 | n+1,[],vs,h=>by simp only[aH] at h;subst h;simp[aH]
 | n+1,a::as,vs,h=>by
  simp only[aH] at h
  obtain⟨v,r,rfl,_,h3⟩:=h
  simpa using qH n h3
theorem qa:∀ (n:Nat) {as:List AV} {vs:List Value},aH μ S H as vs→aH μ S H (as.take n) (vs.take n)
 | 0,_,_,h=>by simp[aH]
 | n+1,[],vs,h=>by simp only[aH] at h;subst h;simp[aH]
 | n+1,a::as,vs,h=>by
  simp only[aH] at h
  obtain⟨v,r,rfl,h2,h3⟩:=h
  simp only[List.take_succ_cons,aH]
  exact⟨v,_,rfl,h2,qa n h3⟩
theorem Fx:∀ (l:List Value),aH μ S H (l.map .lit) l
 | []=>by simp[aH]
 | v::l=>by simp only[pf,aH];exact⟨v,l,rfl,by simp only[VR],Fx l⟩
theorem gJ:∀ (t:Ty) (x:t.T) (cs:List Value),Rd S t x cs→aH μ S H (enc t x) cs
 | .int k,x,cs,h=>by cases h;simp[enc,aH,VR]
 | .bool,x,cs,h=>by cases h;simp[enc,aH,VR]
 | .str,x,cs,h=>by cases h;simp[enc,aH,VR]
 | .row e,xs,cs,h=>by
  have h':=h
  obtain⟨a,cap,rfl,_,_⟩:=h
  simp only[enc,aH,VR]
  exact⟨_,[],rfl,h',rfl⟩
 | .pair a b,x,cs,h=>by
  obtain⟨c,d,rfl,h2,h3⟩:=h
  exact cl (gJ a _ _ h2) (gJ b _ _ h3)
 | .one a,x,cs,h=>gJ a x cs h
 | .CQ k,x,cs,h=>by cases h;simp only[enc,aH,VR];exact⟨_,[],rfl,⟨#[],#[],rfl,rfl,rfl⟩,rfl⟩
 | .nil,x,cs,h=>by cases h;simp only[enc,aH,VR];exact⟨_,[],rfl,rfl,rfl⟩
end
set_option linter.unusedSimpArgs false
theorem ai {α:Type}{c:Bool}{a b:α}(h:cond c (some a) none=some b):c=true∧a=b:=by
 cases c<;>simp_all
theorem Hu {α:Type}{c:Bool}{a:Option α}{b:α}(h:cond c a none=some b):c=true∧a=some b:=by
 cases c<;>simp_all
theorem cu {α:Type}{c:Bool}{a:Option α}{b:α}(h:cond c none a=some b):c=false∧a=some b:=by
 cases c<;>simp_all
structure St where
 nt:Nat
 tmps:Nat→AV
 heap:Heap
 ids:List Nat
def ol (a b:Nat):Bool:=pv (Nat.succ a) b
theorem EA {a b:Nat}(h:a<b):ol a b=true:=Nat.ble_eq_true_of_le h
theorem LX {a b:Nat}(h:¬ a<b):ol a b=false:=by
 cases hb:ol a b with
 | false=>rfl
 | true=>exact absurd (eI hb) h
theorem cP {a b:Nat}(h:ol a b=true):a<b:=eI h
def Lx:Value→AV
 | .agg cs=>.agg (cs.toList.map .lit)
 | v=>.lit v
def St.val (σ:St):Operand→AV
 | .tmp t=>cond (ol t σ.nt) (σ.tmps t) .ah
 | .const v=>Lx v
 | .global g=>.lit (.pointer (some ⟨g,0,none⟩))
 | .func f=>.fn (.func f) [] []
def Mark (S N:ar)(ms:List Nat):Prop:=ms.Nodup∧∀ D∈ms,N D=none∧S D=some (.deferred (some []))
structure AR (N:ar)(Dt:Bool×List Deferred)(μ:Mu)(S:ar)(σ:St)(a:Act):Prop where
 defers:∃ ms:List Nat,a.defers=ms.map (fun D=>⟨.collected D,#[]⟩)++Dt.2∧Mark S N ms∧(Dt.1=true→ms=[])
 size:a.tmps.size=σ.nt
 tmp:∀ t,t<σ.nt→VR μ S σ.heap (σ.tmps t) (a.tmps.getD t undef)
theorem jk {μ:Mu}{S:ar}{H:Heap}(v:Value):VR μ S H (Lx v) v:=by
 cases v with
 | agg cs=>simp only[Lx,VR];exact⟨cs,rfl,Fx _⟩
 | _=>simp only[Lx,VR]
theorem AR.val {N:ar}{Dt:Bool×List Deferred}{μ:Mu}{S:ar}{σ:St}{a:Act}(h:AR N Dt μ S σ a)(x:Operand):VR μ S σ.heap (σ.val x) (a.eval x):=by
 cases x with
 | tmp t=>
  simp only[St.val,Act.eval]
  by_cases ht:t<σ.nt
  ·rw[EA ht];exact h.tmp t ht
  ·rw[LX ht];simp only[cond_false,VR]
 | const v=>exact jk v
 | global g=>simp only[St.val,Act.eval,VR]
 | func f=>simp only[St.val,Act.eval,VR];exact⟨#[],#[],rfl,by simp[aH],by simp[aH]⟩
def OH:TypeDesc→Bool
 | .struct _=>true
 | .array _ _=>true
 | _=>false
section
variable {P:Program}{w:World}
theorem aI {t:TypeId}{d:TypeDesc}(h:P.underlying t=some d):(underlying t).run P w = .ok d w:=by
 simp[underlying,h]
theorem Ku {t:TypeId}{i:TypeInfo}(h:P.info? t=some i):(typeInfo t).run P w = .ok i w:=by
 simp[typeInfo,h]
theorem cS {t:TypeId}{i:TypeInfo}(h:P.info? t=some i):(sizeOf t).run P w = .ok i.size w:=by
 simp[sizeOf,Ku h]
theorem RY {t:TypeId}{d:TypeDesc}(h:P.underlying t=some d):(isAgg t).run P w = .ok (OH d) w:=by
 simp only[isAgg,ap,aI h,al]
 cases d<;>simp[OH]
theorem oC {t:TypeId}{i:TypeInfo}{z:Value}(h:P.info? t=some i)(hz:i.zero=some z):(zeroValue t).run P w = .ok z w:=by
 simp[zeroValue,Ku h,hz]
end
theorem add_add (ad:Addr)(m n:Nat):(ad.add m).add n=ad.add (m+n):=by
 unfold Addr.add
 by_cases hm:m=0
 ·subst hm;simp
 ·by_cases hn:n=0
  ·subst hn;simp[hm]
  ·simp[hm,hn,ik]
theorem add_zero (ad:Addr):ad.add 0=ad:=by simp[Addr.add]
theorem aN (b m n:Nat):(⟨b,m,none⟩:Addr).add n=⟨b,m+n,none⟩:=by
 unfold Addr.add;split<;>simp_all
def cut (P:Program)(t:TypeId)(cs:List AV)(off:Nat):Option AV:=
 match P.underlying t,P.info? t with
 | some d,some i=>
  cond (OH d) (cond (be ((cs.drop off).take i.size).length i.size) (some (.agg ((cs.drop off).take i.size))) none) (cs[off]?)
 | _,_=>none
section
variable {P:Program}{w:World}{μ:Mu}{S:ar}{H:Heap}
theorem dy {t:TypeId}{cs:List AV}{vs:List Value}{off:Nat}{v:AV}{ad:Addr}(hc:aH μ S H cs vs)
  (hm:∀ j u,vs[j]? = some u→w.cell? (ad.add j)=some u) (h:cut P t cs off=some v) :
  ∃ u,(loadVar t (ad.add off)).run P w = .ok u w∧VR μ S H v u:=by
 unfold cut at h
 split at h
 case h_2=>simp at h
 rename_i d i hd hi
 cases ha:OH d with
 | true=>
  rw[ha] at h
  simp only[cond_true] at h
  cases hb:be ((cs.drop off).take i.size).length i.size with
  | false=>rw[hb] at h;simp at h
  | true=>
   rw[hb] at h;simp only[cond_true,bj] at h;subst h
   have hl:=ae hb
   have hr:aH μ S H ((cs.drop off).take i.size) ((vs.drop off).take i.size):=qa _ (qH _ hc)
   have hl2:((vs.drop off).take i.size).length=i.size:=by rw[← aU hr];exact hl
   refine⟨.agg ((vs.drop off).take i.size).toArray,?_,by simp only[VR];exact⟨_,rfl,by simpa using hr⟩⟩
   have:=run_loadCells_list (P:=P) w (ad.add off) ((vs.drop off).take i.size) (fun j u hj=>by
    rw[add_add];apply hm
    rw[dv] at hj
    split at hj
    ·rw[ft] at hj;exact hj
    ·simp at hj)
   rw[hl2] at this
   simp only[loadVar,ap,RY hd,ha,al,if_true,cS hi,this,aw]
 | false=>
  rw[ha] at h
  simp only[cond_false] at h
  obtain⟨u,hu,hv⟩:=uC hc off v h
  refine⟨u,?_,hv⟩
  simp only[loadVar,ap,RY hd,ha,al,ky,if_false,run_load,hm off u hu]
theorem l6 {t:TypeId}{cs:List AV}{vs:Array Value}{off:Nat}{v:AV}(hc:aH μ S H cs vs.toList)
  (h:cut P t cs off=some v) :
  ∃ u,(part t vs off).run P w = .ok u w∧VR μ S H v u:=by
 unfold cut at h
 split at h
 case h_2=>simp at h
 rename_i d i hd hi
 cases ha:OH d with
 | true=>
  rw[ha] at h
  simp only[cond_true] at h
  cases hb:be ((cs.drop off).take i.size).length i.size with
  | false=>rw[hb] at h;simp at h
  | true=>
   rw[hb] at h;simp only[cond_true,bj] at h;subst h
   have hr:aH μ S H ((cs.drop off).take i.size) ((vs.toList.drop off).take i.size):=qa _ (qH _ hc)
   refine⟨.agg (vs.extract off (off+i.size)),?_,by simp only[VR];exact⟨_,rfl,by simpa using hr⟩⟩
   simp only[part,ap,RY hd,ha,al,if_true,cS hi,aw]
 | false=>
  rw[ha] at h
  simp only[cond_false] at h
  obtain⟨u,hu,hv⟩:=uC hc off v h
  refine⟨u,?_,hv⟩
  have hu':vs[off]? = some u:=by simpa using hu
  simp only[part,ap,RY hd,ha,al,ky,if_false,hu',aw]
end
inductive Callee where
 | fn (k:FuncId)
 | iK (i:Nat)
inductive Out where
 | val (c:Bool) (v:AV)
 | new (c:Bool) (id:Nat) (o:aS) (v:AV)
 | wr (c:Bool) (i:Nat) (o:aS) (v:AV)
 | RB (c:Bool) (i:Nat) (o:aS) (v u:AV)
 | call (f:Callee) (args:List AV)
def AV.cells:AV→Option (List AV)
 | .agg cs=>some cs
 | .uo _=>none
 | .ah=>none
 | v=>some [v]
def Ty.dflt:(t:Ty)→t.T
 | .int _=>(0:Int)
 | .bool=>false
 | .str=>(⟨#[]⟩:ByteArray)
 | .row e=>([]:List e.T)
 | .pair a b=>(a.dflt,b.dflt)
 | .one a=>a.dflt
 | .CQ _=>()
 | .nil=>()
def rd (e:Ty)(xs:List e.T)(i:Nat):e.T:=xs.getD i e.dflt
def td (a b:Int):Int:=cond (decide (b<a)) b a
def mxI (a b:Int):Int:=cond (decide (a<b)) b a
def bt (s:ByteArray)(i:Int):Int:=if h:i.toNat<s.size then ((s[i.toNat]'h).toNat:Int) else 0
def aG (op:BinOp)(k:IntKind)(x y:Int):Int:=
 let a:=BitVec.ofInt k.bits x
 let b:=BitVec.ofInt k.bits y
 match op with
 | .and=>k.wrap (a &&& b).toNat
 | .or=>k.wrap (a ||| b).toNat
 | .xor=>k.wrap (a ^^^ b).toNat
 | _=>k.wrap (a &&& ~~~b).toNat
def Xf (op:BinOp)(k:IntKind)(a b:Int):Option (Bool×Value):=
 match op with
 | .add=>some (true,.int k (k.wrap (a+b)))
 | .sub=>some (true,.int k (k.wrap (a-b)))
 | .mul=>some (true,.int k (k.wrap (a * b)))
 | .quo=>some (!decide (b=0),.int k (k.wrap (a.tdiv b)))
 | .rem=>some (!decide (b=0),.int k (a.tmod b))
 | .and=>some (true,.int k (aG .and k a b))
 | .or=>some (true,.int k (aG .or k a b))
 | .xor=>some (true,.int k (aG .xor k a b))
 | .andNot=>some (true,.int k (aG .andNot k a b))
 | .eql=>some (true,.bool (decide (a=b)))
 | .neq=>some (true,.bool (!decide (a=b)))
 | .lss=>some (true,.bool (decide (a<b)))
 | .leq=>some (true,.bool (decide (a≤b)))
 | .gtr=>some (true,.bool (decide (b<a)))
 | .geq=>some (true,.bool (decide (b≤a)))
 | _=>none
def shI (op:BinOp)(k:IntKind)(a b:Int):Option (Bool×Value):=
 match op with
 | .shl=>some (!decide (b<0),.int k (k.wrap (a * 2 ^ (min b.toNat k.bits))))
 | .shr=>some (!decide (b<0),.int k (a.fdiv (2 ^ (min b.toNat k.bits))))
 | _=>none
def ZZ (op:BinOp)(x y:ByteArray):Option (Bool×Value):=
 match op with
 | .add=>some (!decide (((x.size+y.size:Nat):Int)>IntKind.i64.max),.string (x++y))
 | .eql=>some (true,.bool (x.toList == y.toList))
 | .neq=>some (true,.bool (!(x.toList == y.toList)))
 | _=>none
def rK:BinOp→Bool
 | .shl=>true
 | .shr=>true
 | _=>false
def QH (P:Program)(op:BinOp)(t:TypeId):Value→Value→Option (Bool×Value)
 | .int k a,.int k' b=>cond (rK op) (shI op k a b) (cond (decide (k=k')) (Xf op k a b) none)
 | .string a,.string b=>ZZ op a b
 | .bool a,.bool b=>
  match P.underlying t,op with
  | some .bool,.eql=>some (true,.bool (a == b))
  | some .bool,.neq=>some (true,.bool (!(a == b)))
  | _,_=>none
 | .nilIface,.nilIface=>
  match P.underlying t,op with
  | some (.interface ms),.eql=>cond ms.isEmpty (some (true,.bool true)) none
  | some (.interface ms),.neq=>cond ms.isEmpty (some (true,.bool false)) none
  | _,_=>none
 | _,_=>none
section
variable {P:Program}{w:World}
theorem Ft {op:BinOp}{t:TypeId}{x y:Operand}{k k':IntKind}{a b:Int}:(eqGuard op t x y (.int k a) (.int k' b)).run P w = .ok () w:=by
 unfold eqGuard;cases op<;>rfl
theorem DN {op:BinOp}{t:TypeId}{x y:Operand}{a b:ByteArray}:(eqGuard op t x y (.string a) (.string b)).run P w = .ok () w:=by
 unfold eqGuard;cases op<;>rfl
theorem tV {op:BinOp}{t:TypeId}{x y:Operand}{ms:Array (String×TypeId)}(ho:op = .eql∨op = .neq)(ht:P.underlying t=some (.interface ms))(he:ms.isEmpty=true) :
  (eqGuard op t x y .nilIface .nilIface).run P w = .ok () w:=by
 have hd:∀ d,(Op.eqGuardIn (d+1) t .nilIface .nilIface).run P w = .ok false w:=fun d=>by
  simp[Op.eqGuardIn,run_underlying ht,he]
 have hg:(Op.eqGuardIn Op.maxDepth t .nilIface .nilIface).run P w = .ok false w:=hd 9999
 rcases ho with rfl|rfl<;>(unfold eqGuard;simp only[Bool.not_true,ky,if_false];split<;>simp[hg])
theorem AS {op:BinOp}{t:TypeId}{x y:Operand}{a b:Bool}:(eqGuard op t x y (.bool a) (.bool b)).run P w = .ok () w:=by
 unfold eqGuard;cases op<;>rfl
theorem NH {op:BinOp}{t:TypeId}{k:IntKind}{a b:Int}{v:Value}(hs:rK op=false)(h:Xf op k a b=some (true,v)) :
  (binOp op t (.int k a) (.int k b)).run P w = .ok v w:=by
 have key:(binOp op t (.int k a) (.int k b))=(match op with
  | .add | .sub | .mul=>Op.intArith op k a b
  | .quo | .rem=>Op.intDiv op k a b
  | .and | .or | .xor | .andNot=>Op.intBits op k a b
  | _=>Op.intCmp op a b):=by
  cases op<;>simp only[rK,reduceCtorEq] at hs<;>simp only[binOp,ne_eq,not_true_eq_false,if_false]
 rw[key]
 cases op<;>simp only[rK,reduceCtorEq] at hs<;>simp only[Xf,bj,Prod.mk.injEq,true_and,reduceCtorEq] at h
 case quo=>obtain⟨h1,rfl⟩:=h;simp at h1;simp[Op.intDiv,h1]
 case rem=>obtain⟨h1,rfl⟩:=h;simp at h1;simp[Op.intDiv,h1]
 all_goals subst h
 all_goals first|rfl|(simp only[Op.intCmp,aw];congr 2)
theorem Sv {op:BinOp}{t:TypeId}{k k':IntKind}{a b:Int}{v:Value}(h:shI op k a b=some (true,v)) :
  (binOp op t (.int k a) (.int k' b)).run P w = .ok v w:=by
 cases op<;>simp[shI] at h
 all_goals
  obtain⟨h1,rfl⟩:=h
  have:¬ b<0:=by omega
  simp[binOp,Op.shift,this]
theorem wm {t:TypeId}{a b:Bool}(ht:P.underlying t=some .bool):(Op.equal t (.bool a) (.bool b)).run P w = .ok (a == b) w:=by
 show (o0 (9999+1) t (.bool a) (.bool b)).run P w=_
 rw[o0]
 simp only[ap,aI ht,al,aw]
theorem Lv {op:BinOp}{t:TypeId}{x y:Operand}{a b v:Value}(h:QH P op t a b=some (true,v)) :
  (do eqGuard op t x y a b;binOp op t a b:Sem Value).run P w = .ok v w:=by
 unfold QH at h
 split at h
 ·rename_i k a k' b
  rw[ap,Ft,al]
  cases hs:rK op with
  | true=>rw[hs] at h;exact Sv h
  | false=>
   rw[hs] at h
   simp only[cond_false] at h
   by_cases hk:k=k'
   ·subst hk;simp at h;exact NH hs h
   ·simp[hk] at h
 ·rename_i a b
  rw[ap,DN,al]
  have key:binOp op t (.string a) (.string b)=Op.stringOp op a b:=by cases op<;>rfl
  rw[key]
  cases op<;>simp only[ZZ,bj,Prod.mk.injEq,true_and,reduceCtorEq] at h
  case add=>obtain⟨h1,rfl⟩:=h;simp at h1;simp[Op.stringOp];exact h1
  all_goals subst h;rfl
 ·rename_i a b
  rw[ap,AS,al]
  split at h
  ·rename_i ht;simp at h;subst h
   show (do pure (.bool (← Op.equal t (.bool a) (.bool b))):Sem Value).run P w=_
   simp only[ap,wm ht,al,aw]
  ·rename_i ht;simp at h;subst h
   show (do pure (.bool (!(← Op.equal t (.bool a) (.bool b)))):Sem Value).run P w=_
   simp only[ap,wm ht,al,aw]
  ·simp at h
 ·split at h
  ·rename_i ms ht
   obtain⟨he,h⟩:=ai h
   cases h
   have hm:P.underlying t=some (.interface (P.methodsAt t)):=by simp[np,ht]
   have hg:(eqGuard .eql t x y .nilIface .nilIface).run P w = .ok () w:=tV (.inl rfl) ht he
   simp only[ap,hg,al,run_eql_nil_nil w t hm]
  ·rename_i ms ht
   obtain⟨he,h⟩:=ai h
   cases h
   have hm:P.underlying t=some (.interface (P.methodsAt t)):=by simp[np,ht]
   have hg:(eqGuard .neq t x y .nilIface .nilIface).run P w = .ok () w:=tV (.inr rfl) ht he
   simp only[ap,hg,al,run_neq_nil_nil w t hm]
  ·simp at h
 ·simp at h
end
section
variable [aq]{P:Program}{w w' w0:World}{μ μ':Mu}{S S':ar}{H H':Heap}{B:Nat}
omit [aq] in
theorem gP {w w':World}{l:Lc}{t:TypeId}{e:Ty}{xs:List e.T}(hst:∀ b o,S b=some o→S' b=some o)(hw:∀ b,l.blk=some b→w'.heap[b]? = w.heap[b]?)
  (hs:∀ b,l.blk=some b→S' b=none) (hr:iD S w B l t e xs):iD S' w' B l t e xs:=by
 obtain⟨h0,h1⟩:=hr
 refine⟨h0,?_⟩
 rcases h1 with h1|⟨b,cs,h1,h2,h3,h4,h5,h6⟩
 ·exact .inl h1
 ·exact .inr ⟨b,cs,h1,h2,hs b h1,by rw[hw b h1];exact h4,h5,fun j x hj=>by
   obtain⟨c,k1,k2⟩:=h6 j x hj
   exact⟨c,dD hst _ _ _ k1,k2⟩⟩
omit [aq] in
theorem Lc.ji {l:Lc}{k b:Nat}(h:(l.at k).blk=some b):l.has b:=.inr ⟨k,h⟩
omit [aq] in
theorem Lc.fe {l:Lc}(h:l.cH=aT){b:Nat}:l.has b↔l.blk=some b:=by
 unfold Lc.has
 rw[h]
 exact⟨fun k=>k.elim id (fun⟨_,k⟩=>by cases k),Or.inl⟩
omit [aq] in
theorem IU {l:Lc}{st:gz}{cs:Array Value}{k:Nat}{x:FT}(hst:∀ b o,S b=some o→S' b=some o)(h:tX S l st cs k x):tX S' l st cs k x:=by
 obtain⟨h0,h2,v,h1,h3,h4,h5⟩:=h
 exact⟨h0,h2,v,h1,h3,h4,fun hm=>dD hst _ _ _ (h5 hm)⟩
omit [aq] in
theorem Hq {w w':World}{l:Lc}{t ti:TypeId}{xs:List FT}{st:gz}(hst:∀ b o,S b=some o→S' b=some o)(hw:∀ b,l.has b→w'.heap[b]? = w.heap[b]?)
  (hs:∀ b,l.has b→S' b=none) (hr:cT S w B l t ti xs st):cT S' w' B l t ti xs st:=
 ⟨hr.len,hr.out,fun k x hx hm=>gP hst (fun b hb=>hw b (Lc.ji hb)) (fun b hb=>hs b (Lc.ji hb)) (hr.row k x hx hm),hr.one,hr.off,by
  rcases hr.CS with h|⟨b,cs,h1,h2,h3,h4,h5,h6⟩
  ·exact .inl h
  ·exact .inr ⟨b,cs,h1,h2,hs b (.inl h1),by rw[hw b (.inl h1)];exact h4,h5,fun k x hx=>IU hst (h6 k x hx)⟩⟩
theorem bD (h:Ext μ S H μ' S' H'){l:Lc}{o:aS}(hw:∀ b,l.has b→w'.heap[b]? = w.heap[b]?)
  (hs:∀ b,l.has b→S' b=none) (hr:og μ S H w B l o):og μ' S' H' w' B l o:=by
 cases o with
 | box t cells=>
  obtain⟨b,cs,h1,h2,h3,h4,h5⟩:=hr
  exact⟨b,cs,h1,h2,hs b (.inl h1),by rw[hw b (.inl h1)];exact h4,dU h _ _ h5⟩
 | eP s pos=>
  obtain⟨b,h1,h2,h3,h4⟩:=hr
  exact⟨b,h1,h2,hs b (.inl h1),by rw[hw b (.inl h1)];exact h4⟩
 | map es=>
  obtain⟨b,h1,h2,h3,h4⟩:=hr
  exact⟨b,h1,h2,hs b (.inl h1),by rw[hw b (.inl h1)];exact h4⟩
 | cL es=>
  obtain⟨b,ents,ck,h1,h2,h3,h4,h5⟩:=hr
  exact⟨b,ents,ck,h1,h2,hs b (.inl h1),by rw[hw b (.inl h1)];exact h4,h5⟩
 | loop k r st ts=>
  obtain⟨b,fn,ss,pe,vs,ps,asn,body,df,h1,h2,h3,h4,h5,h6,h7⟩:=hr
  exact⟨b,fn,ss,pe,vs,ps,asn,body,df,h1,h2,hs b (.inl h1),h4,h5,by rw[hw b (.inl h1)];exact h6,dU h _ _ h7⟩
 | row t e g xs=>exact gP h.st (fun b hb=>hw b (.inl hb)) (fun b hb=>hs b (.inl hb)) hr
 | aO t ti q xs st=>exact Hq h.st hw hs hr
omit [aq] in
theorem fU {w:World}{l:Lc}{t:TypeId}{e:Ty}{xs:List e.T}(hr:iD S w B l t e xs){b:Nat}(hb:l.blk=some b):b<w.heap.size∧B≤b∧S b=none:=by
 rcases hr.2 with h1|⟨b',cs,e,k1,k2,h4,_⟩
 ·rw[h1.1] at hb;simp at hb
 ·have e2:b'=b:=bm (e.symm.trans hb)
  subst e2
  exact⟨(da.1 h4).1,k1,k2⟩
omit [aq] in
theorem EX {w:World}{l:Lc}{t ti:TypeId}{xs:List FT}{st:gz}(hr:cT S w B l t ti xs st){b:Nat}(hb:l.has b):b<w.heap.size∧B≤b∧S b=none:=by
 rcases hb with hb|⟨k,hb⟩
 ·rcases hr.CS with h1|⟨b',cs,e,k1,k2,h4,_⟩
  ·rw[h1.1] at hb;simp at hb
  ·have e2:b'=b:=bm (e.symm.trans hb)
   subst e2
   exact⟨(da.1 h4).1,k1,k2⟩
 ·rcases Nat.lt_or_ge k xs.length with hk|hk
  ·refine pA (fun hm:st.mine k=>fU (hr.row k _ (dk hk) hm) hb) (fun hm=>?_)
   rw[hr.out k (.inr hm)] at hb;simp at hb
  ·rw[hr.out k (.inl hk)] at hb;simp at hb
theorem Rel.B4 (R:Rel μ S H B w0 w){i:Nat}{l:Lc}{b:Nat}(hl:μ i=some l)(hb:l.has b):b<w.heap.size∧B≤b∧S b=none:=by
 have hd:=R.dom i
 rw[hl] at hd
 cases ho:H i with
 | none=>rw[ho] at hd;simp at hd
 | some o=>
  obtain⟨l',h1,h2⟩:=R.obj i o ho
  have e1:l'=l:=bm (h1.symm.trans hl)
  subst e1
  by_cases hdr:∃ t ti q xs st,o = .aO t ti q xs st
  ·obtain⟨t,ti,q,xs,st,rfl⟩:=hdr
   exact EX h2 hb
  have hb:l'.blk=some b:=by
   rcases R.cH i l' hl with h|⟨t,ti,q,xs,st,h⟩
   ·exact (Lc.fe h).1 hb
   ·rw[ho] at h;cases h;exact absurd ⟨t,ti,q,xs,st,rfl⟩ hdr
  cases o with
  | box t cells=>
   obtain⟨b',cs,e,k1,k2,h4,_⟩:=h2
   have e2:b'=b:=bm (e.symm.trans hb)
   subst e2
   exact⟨(da.1 h4).1,k1,k2⟩
  | eP s pos=>
   obtain⟨b',e,k1,k2,h4⟩:=h2
   have e2:b'=b:=bm (e.symm.trans hb)
   subst e2
   exact⟨(da.1 h4).1,k1,k2⟩
  | map es=>
   obtain⟨b',e,k1,k2,h4⟩:=h2
   have e2:b'=b:=bm (e.symm.trans hb)
   subst e2
   exact⟨(da.1 h4).1,k1,k2⟩
  | cL es=>
   obtain⟨b',_,_,e,k1,k2,h4,_⟩:=h2
   have e2:b'=b:=bm (e.symm.trans hb)
   subst e2
   exact⟨(da.1 h4).1,k1,k2⟩
  | loop k r st ts=>
   obtain⟨b',_,_,_,_,_,_,_,_,e,k1,k2,_,_,h4,_⟩:=h2
   have e2:b'=b:=bm (e.symm.trans hb)
   subst e2
   exact⟨(da.1 h4).1,k1,k2⟩
  | row t e g xs=>exact fU h2 hb
  | aO t ti q xs st=>exact absurd ⟨t,ti,q,xs,st,rfl⟩ hdr
theorem Rel.lt (R:Rel μ S H B w0 w){i:Nat}{l:Lc}{b:Nat}(hl:μ i=some l)(hb:l.blk=some b):b<w.heap.size:=(R.B4 hl (.inl hb)).1
theorem Rel.ge (R:Rel μ S H B w0 w){i:Nat}{l:Lc}{b:Nat}(hl:μ i=some l)(hb:l.blk=some b):B≤b∧S b=none:=(R.B4 hl (.inl hb)).2
theorem Rel.p8 (R:Rel μ S H B w0 w){i:Nat}{l:Lc}{b:Nat}(hl:μ i=some l)(hb:l.has b):b<w.heap.size:=(R.B4 hl hb).1
theorem Rel.CR (R:Rel μ S H B w0 w){i:Nat}{l:Lc}{b:Nat}(hl:μ i=some l)(hb:l.has b):B≤b∧S b=none:=(R.B4 hl hb).2
theorem Rel.iX (R:Rel μ S H B w0 w){i:Nat}{l:Lc}(hl:μ i=some l){t:TypeId}{e:Ty}{g:Nat}{xs:List e.T}(hi:H i=some (.row t e g xs)):l.cH=aT:=by
 rcases R.cH i l hl with h|⟨_,_,_,_,_,h⟩
 ·exact h
 ·rw[hi] at h;cases h
theorem Rel.acY (R:Rel μ S H B w0 w)(i j:Nat)(li lj:Lc)(b:Nat)(hij:i≠j)(h1:μ i=some li)(h2:μ j=some lj)(hb:li.blk=some b):lj.blk≠some b:=fun h=>R.sep i j li lj b hij h1 h2 (.inl hb) (.inl h)
theorem Rel.js (R:Rel μ S H B w0 w){b:Nat}{o:Obj}(h:S b=some o):b<w.heap.size:=(da.1 (R.st b o h)).1
omit [aq] in
theorem fT (w:World)(o:Obj){k:Nat}(h:k<w.heap.size):(w.alloc o).heap[k]? = w.heap[k]?:=Below.heap_alloc w o k h
omit [aq] in
theorem alloc_heap_new (w:World)(o:Obj):(w.alloc o).heap[w.heap.size]? = some o:=by
 show (w.heap.push o)[w.heap.size]? = some o
 simp
omit [aq] in
theorem Ext.new {i:Nat}{ho:aS}{l:Lc}(hi:μ i=none):Ext μ S H (aP μ i (some l)) S (aP H i (some ho)):=by
 have ne:∀ j,(μ j).isSome→j≠i:=fun j hj e=>by subst e;rw[hi] at hj;simp at hj
 refine⟨fun j l' hj=>.inl ?_,fun _ _ h=>h,fun j t e g xs hj hH=>?_,fun j t ti q xs st hj hH=>?_⟩
 ·rw[ax _ _ (ne j (by rw[hj];rfl))];exact hj
 ·rw[ax _ _ (ne j hj)] at hH
  exact⟨t,g,xs,hH,bi _,fun _=>rfl⟩
 ·rw[ax _ _ (ne j hj)] at hH
  exact⟨t,ti,q,xs,st,hH,bi _,rfl,fun _ _ h=>h⟩
theorem Rel.new (R:Rel μ S H B w0 w){i:Nat}(hi:H i=none)(o:Obj)(ho:aS)(l:Lc)(hl:l.blk=some w.heap.size)
  (hO:og (aP μ i (some l)) S (aP H i (some ho)) (w.alloc o) B l ho) (hin:l.cH=aT:=by rfl) :
  Rel (aP μ i (some l)) S (aP H i (some ho)) B w0 (w.alloc o)∧Ext μ S H (aP μ i (some l)) S (aP H i (some ho)):=by
 have hm:μ i=none:=by
  have:=R.dom i;rw[hi] at this
  cases h:μ i with
  | none=>rfl
  | some _=>rw[h] at this;simp at this
 have E:Ext μ S H (aP μ i (some l)) S (aP H i (some ho)):=Ext.new hm
 refine⟨⟨R.below.alloc R.size o,by have:=R.size;simp;omega,fun b o' h=>?_,fun j=>?_,fun j o' hj=>?_,?_,fun j lj hj=>?_,R.pre⟩,E⟩
 ·rw[fT w o (R.js h)];exact R.st b o' h
 ·by_cases e:j=i
  ·subst e;rw[au,au];rfl
  ·rw[ax _ _ e,ax _ _ e];exact R.dom j
 ·by_cases e:j=i
  ·subst e;rw[au] at hj;cases hj;exact⟨l,au _ _ _,hO⟩
  ·rw[ax _ _ e] at hj
   obtain⟨l',h1,h2⟩:=R.obj j o' hj
   refine⟨l',by rw[ax _ _ e];exact h1,bD E (fun b hb=>fT w o (R.p8 h1 hb)) (fun b hb=>(R.CR h1 hb).2) h2⟩
 ·intro j k lj lk b hjk hj hk hb
  by_cases e:j=i
  ·subst e
   rw[au] at hj;cases hj
   rw[ax _ _ (pa hjk)] at hk
   rw[Lc.fe hin,hl] at hb;cases hb
   intro hb'
   have:=R.p8 hk hb';omega
  ·rw[ax _ _ e] at hj
   by_cases e2:k=i
   ·subst e2
    rw[au] at hk;cases hk
    rw[Lc.fe hin,hl]
    have:=R.p8 hj hb
    intro h;cases h;omega
   ·rw[ax _ _ e2] at hk
    exact R.sep j k lj lk b hjk hj hk hb
 ·by_cases e:j=i
  ·subst e;rw[au] at hj;cases hj;exact .inl hin
  ·rw[ax _ _ e] at hj;rw[ax _ _ e];exact R.cH j lj hj
theorem Rel.wr (R:Rel μ S H B w0 w){i:Nat}{l:Lc}{b:Nat}(hl:μ i=some l)(hb:l.has b)(ho:aS)
  (hw:Below b w w') (hsz:w'.heap.size=w.heap.size) (hk:∀ k,k≠b→w'.heap[k]? = w.heap[k]?)
  (E:Ext μ S H μ S (aP H i (some ho))) (hO:og μ S (aP H i (some ho)) w' B l ho) (hin:l.cH=aT∨∃ t ti q xs st,ho = .aO t ti q xs st):Rel μ S (aP H i (some ho)) B w0 w':=by
 have hB:=(R.CR hl hb)
 refine⟨R.below.trans (hw.mono hB.1),by rw[hsz];exact R.size,fun b' o h=>?_,fun j=>?_,fun j o hj=>?_,R.sep,fun j lj hj=>?_,R.pre⟩
 ·rw[hk b' (fun e=>by subst e;rw[hB.2] at h;simp at h)];exact R.st b' o h
 ·by_cases e:j=i
  ·subst e;rw[au,hl];rfl
  ·rw[ax _ _ e];exact R.dom j
 ·by_cases e:j=i
  ·subst e;rw[au] at hj;cases hj;exact⟨l,hl,hO⟩
  ·rw[ax _ _ e] at hj
   obtain⟨l',h1,h2⟩:=R.obj j o hj
   refine⟨l',h1,bD E (fun b' hb'=>hk b' (fun e2=>?_)) (fun b' hb'=>(R.CR h1 hb').2) h2⟩
   subst e2
   exact R.sep j i l' l _ e h1 hl hb' hb
 ·by_cases e:j=i
  ·subst e
   rw[hl] at hj;cases hj
   rw[au]
   exact hin.imp id fun⟨t,ti,q,xs,st,h⟩=>⟨t,ti,q,xs,st,by rw[h]⟩
  ·rw[ax _ _ e];exact R.cH j lj hj
omit [aq] in
theorem Ext.still' {i:Nat}{o:aS}(h:o.mv=false):Ext μ S H μ S (aP H i (some o)):=by
 refine⟨fun _ _ h=>.inl h,fun _ _ h=>h,fun j t0 e g xs _ hH=>?_,fun j t0 ti q xs st _ hH=>?_⟩
 ·by_cases ej:j=i
  ·subst ej;rw[au] at hH;cases hH;cases h
  ·rw[ax _ _ ej] at hH;exact⟨t0,g,xs,hH,bi _,fun _=>rfl⟩
 ·by_cases ej:j=i
  ·subst ej;rw[au] at hH;cases hH;cases h
  ·rw[ax _ _ ej] at hH;exact⟨t0,ti,q,xs,st,hH,bi _,rfl,fun _ _ h=>h⟩
omit [aq] in
theorem Ext.box {i:Nat}{t t':TypeId}{cs cs':List AV}(_h:H i=some (.box t cs)):Ext μ S H μ S (aP H i (some (.box t' cs'))):=Ext.still' rfl
omit [aq] in
theorem Ext.nF {i:Nat}{t:TypeId}{e:Ty}{g:Nat}{xs ys:List e.T}(h:H i=some (.row t e g xs))(hl:xs.length=ys.length) :
  Ext μ S H μ S (aP H i (some (.row t e g ys))):=by
 refine⟨fun _ _ h=>.inl h,fun _ _ h=>h,fun j t0 e0 g0 zs _ hH=>?_,fun j t0 ti q xs st _ hH=>?_⟩
 ·by_cases ej:j=i
  ·subst ej;rw[au] at hH
   injection hH with hH
   injection hH with e1 e2 e3 e4
   subst e2
   have e5:=eq_of_heq e4
   subst e1 e3 e5
   exact⟨t,g,xs,h,bi _,fun _=>hl⟩
  ·rw[ax _ _ ej] at hH;exact⟨t0,g0,zs,hH,bi _,fun _=>rfl⟩
 ·by_cases ej:j=i
  ·subst ej;rw[au] at hH;cases hH
  ·rw[ax _ _ ej] at hH;exact⟨t0,ti,q,xs,st,hH,bi _,rfl,fun _ _ h=>h⟩
omit [aq] in
theorem Ext.sg {i:Nat}{t ti q:Nat}{xs ys:List FT}{st st':gz}(h:H i=some (.aO t ti q xs st))(hl:xs.length=ys.length)(hmi:∀ k,st.mine k→st'.mine k:=by exact fun _ h=>h) :
  Ext μ S H μ S (aP H i (some (.aO t ti q ys st'))):=by
 refine⟨fun _ _ h=>.inl h,fun _ _ h=>h,fun j t0 e0 g0 zs _ hH=>?_,fun j t0 ti0 q0 xs0 st0 _ hH=>?_⟩
 ·by_cases ej:j=i
  ·subst ej;rw[au] at hH;cases hH
  ·rw[ax _ _ ej] at hH;exact⟨t0,g0,zs,hH,bi _,fun _=>rfl⟩
 ·by_cases ej:j=i
  ·subst ej;rw[au] at hH;cases hH
   exact⟨t,ti,q,xs,st,h,bi _,hl,fun _=>hmi⟩
  ·rw[ax _ _ ej] at hH;exact⟨t0,ti0,q0,xs0,st0,hH,bi _,rfl,fun _ _ h=>h⟩
end
def Ty.isAgg:Ty→Bool
 | .pair _ _=>true
 | .one _=>true
 | _=>false
def gx {e e':Ty}(xs:List e.T):Option (List e'.T):=if h:e=e' then some (h ▸ xs) else none
def Bn (k:IntKind):List AV→Option (Int×List AV)
 | .lit (.int k' x)::r=>cond (decide (k'=k)) (some (x,r)) none
 | _=>none
def uv:List AV→Option (Bool×List AV)
 | .lit (.bool x)::r=>some (x,r)
 | _=>none
def BA:List AV→Option (ByteArray×List AV)
 | .lit (.string x)::r=>some (x,r)
 | _=>none
def dP (μ:Mu)(S':ar)(Hh:Heap):Prop:=
 (∀ i t e g xs l,Hh i=some (.row t e g xs)→μ i=some l→Rd S' (.row e) xs [.slice l.addr xs.length l.cap]) ∧
 (∀ i t ti q (xs:List cM.T) l,Hh i=some (.aO t ti q xs .own)→μ i=some l→Rd S' (.row cM) xs [.slice l.addr xs.length l.cap])
theorem dP.no {μ:Mu}{S':ar}:dP μ S' (fun _=>none):=⟨fun _ _ _ _ _ _ h=>(nomatch h),fun _ _ _ _ _ _ h=>(nomatch h)⟩
def BH (H:Heap)(e:Ty):List AV→Option (List e.T×List AV)
 | .cont e' xs::r=>match gx (e:=e') (e':=e) xs with
  | some ys=>some (ys,r)
  | none=>none
 | .sl i g::r=>match H i with
  | some (.row _ e' g' xs)=>cond (be g g') (match gx (e:=e') (e':=e) xs with
   | some ys=>some (ys,r)
   | none=>none) none
  | _=>none
 | .lit (.slice none 0 0)::r=>some ([],r)
 | .sub i g lo hi::r=>match H i with
  | some (.row _ e' g' xs)=>cond (be g g') (match gx (e:=e') (e':=e) ((xs.take hi).drop lo) with
   | some ys=>some (ys,r)
   | none=>none) none
  | _=>none
 | .zR i::r=>match H i with
  | some (.aO _ _ _ xs .own)=>match gx (e:=cM) (e':=e) xs with
   | some ys=>some (ys,r)
   | none=>none
  | _=>none
 | _=>none
def Np (k:Nat):List AV→Option (Unit×List AV)
 | .fn (.func k') [] []::r=>cond (be k' k) (some ((),r)) none
 | _=>none
def Am:List AV→Option (Unit×List AV)
 | .lit (.slice none 0 0)::r=>some ((),r)
 | _=>none
def dec (H:Heap):(t:Ty)→List AV→Option (t.T×List AV)
 | .int k,l=>Bn k l
 | .bool,l=>uv l
 | .str,l=>BA l
 | .row e,l=>BH H e l
 | .pair a b,l=>match dec H a l with
  | some (x,l')=>match dec H b l' with
   | some (y,l'')=>some ((x,y),l'')
   | none=>none
  | none=>none
 | .one a,l=>dec H a l
 | .CQ k,l=>Np k l
 | .nil,l=>Am l
def pu (H:Heap)(t:Ty)(cs:List AV):Option t.T:=
 match dec H t cs with
 | some (x,[])=>some x
 | _=>none
def AV.inside:AV→List AV
 | .agg cs=>cs
 | a=>[a]
def AV.isAgg:AV→Bool
 | .agg _=>true
 | _=>false
section
variable [aq]{P:Program}{w w' w0:World}{μ:Mu}{S S':ar}{H Hh:Heap}{B:Nat}
omit [aq] in
theorem b9 {e e':Ty}{xs:List e.T}{ys:List e'.T}(h:gx xs=some ys):∃ he:e=e',ys=he ▸ xs:=by
 unfold gx at h
 split at h
 ·rename_i he;exact⟨he,(bm h).symm⟩
 ·simp at h
omit [aq] in
theorem Xl {e:Ty}{xs:List e.T}{ad a:Option Addr}{cap lo hi:Nat}(h:Rd S (.row e) xs [.slice ad xs.length cap])(h1:lo≤hi)(h2:hi≤xs.length)
  (ha:(lo=0∨lo<hi)→a=ad.map (·.add (lo * e.size))) (hn:a=none→ad=none):Rd S (.row e) ((xs.take hi).drop lo) [.slice a (hi-lo) (cap-lo)]:=by
 obtain⟨a0,c0,e0,⟨k1,k2⟩,k3⟩:=h
 cases e0
 have hl:((xs.take hi).drop lo).length=hi-lo:=by simp;omega
 refine⟨a,cap-lo,by rw[hl],⟨by omega,fun h0=>by have:=k2 (hn h0);omega⟩,fun j x hj=>?_⟩
 ·have hlt:j<hi-lo:=by
   rcases Nat.lt_or_ge j (hi-lo) with h|h
   ·exact h
   ·rw[il (by omega)] at hj;simp at hj
  rw[ft,dv] at hj
  rw[if_pos (by omega)] at hj
  obtain⟨q,c,e1,e2,e3⟩:=k3 (lo+j) x hj
  subst e1
  refine⟨q.add (lo * e.size),c,by rw[ha (.inr (by omega))];rfl,e2,fun m v hm=>?_⟩
  rw[add_add,← ik,← dp]
  exact e3 m v hm
omit [aq] in
theorem uw {e:Ty}{xs:List e.T}{v:Value}(h:VR μ S H (.cont e xs) v):Rd S (.row e) xs [v]:=by simpa only [VR] using h
omit [aq] in
theorem oM (hS:∀ b o,S b=some o→S' b=some o)
  (hrow:dP μ S' Hh)
  (sub:∀ i o,Hh i=some o→H i=some o) :
  ∀ (t:Ty) (as:List AV) (vs:List Value) (x:t.T) (r:List AV),aH μ S H as vs→dec Hh t as=some (x,r) →
   ∃ cs us,vs=cs++us∧Rd S' t x cs∧aH μ S H r us
 | .int k,as,vs,x,r,hv,h=>by
  simp only[dec] at h
  unfold Bn at h
  split at h
  ·obtain⟨hk,he⟩:=ai h
   cases he
   simp only[decide_eq_true_eq] at hk
   subst hk
   simp only[aH,VR] at hv
   obtain⟨v,u,rfl,rfl,h2⟩:=hv
   exact⟨[_],u,rfl,rfl,h2⟩
  ·simp at h
 | .bool,as,vs,x,r,hv,h=>by
  simp only[dec] at h
  unfold uv at h
  split at h
  ·cases h
   simp only[aH,VR] at hv
   obtain⟨v,u,rfl,rfl,h2⟩:=hv
   exact⟨[_],u,rfl,rfl,h2⟩
  ·simp at h
 | .str,as,vs,x,r,hv,h=>by
  simp only[dec] at h
  unfold BA at h
  split at h
  ·cases h
   simp only[aH,VR] at hv
   obtain⟨v,u,rfl,rfl,h2⟩:=hv
   exact⟨[_],u,rfl,rfl,h2⟩
  ·simp at h
 | .row e,as,vs,x,r,hv,h=>by
  simp only[dec] at h
  unfold BH at h
  split at h
  ·rename_i e' xs r'
   split at h
   ·rename_i ys hc
    cases h
    obtain⟨he,rfl⟩:=b9 hc
    subst he
    simp only[aH] at hv
    obtain⟨v,u,rfl,h1,h2⟩:=hv
    exact⟨[v],u,rfl,dD hS _ _ _ (uw h1),h2⟩
   ·simp at h
  ·rename_i i g r'
   split at h
   ·rename_i t' e' g' xs hH
    have hg:be g g'=true:=by
     cases hb:be g g' with
     | true=>rfl
     | false=>rw[hb] at h;simp at h
    rw[hg] at h
    simp only[cond_true] at h
    split at h
    ·rename_i ys hc
     cases h
     obtain⟨he,rfl⟩:=b9 hc
     subst he
     have hgg:=ae hg
     simp only[aH] at hv
     obtain⟨v,u,rfl,h1,h2⟩:=hv
     simp only[VR] at h1
     obtain⟨_,l,hm,h3⟩:=h1
     have:=(h3 _ _ _ _ (sub _ _ hH)).2 hgg
     subst this
     exact⟨[_],u,rfl,hrow.1 _ _ _ _ _ _ hH hm,h2⟩
    ·simp at h
   ·simp at h
  ·cases h
   simp only[aH,VR] at hv
   obtain⟨v,u,rfl,rfl,h2⟩:=hv
   exact⟨[_],u,rfl,⟨none,0,rfl,⟨bi _,fun _=>rfl⟩,fun j x hj=>by simp at hj⟩,h2⟩
  ·rename_i i g lo hi r'
   split at h
   ·rename_i t' e' g' xs hH
    have hg:be g g'=true:=by
     cases hb:be g g' with
     | true=>rfl
     | false=>rw[hb] at h;simp at h
    rw[hg] at h
    simp only[cond_true] at h
    split at h
    ·rename_i ys hc
     cases h
     obtain⟨he,rfl⟩:=b9 hc
     subst he
     have hgg:=ae hg
     simp only[aH] at hv
     obtain⟨v,u,rfl,h1,h2⟩:=hv
     simp only[VR] at h1
     obtain⟨_,l,hm,h3⟩:=h1
     obtain⟨h4,h5,a,rfl,h6,h7⟩:=(h3 _ _ _ _ (sub _ _ hH)).2 hgg
     exact⟨[_],u,rfl,Xl (hrow.1 _ _ _ _ _ _ hH hm) h4 h5 h6 h7,h2⟩
    ·simp at h
   ·simp at h
  ·rename_i i r'
   split at h
   ·rename_i t' ti' q' xs hH
    split at h
    ·rename_i ys hc
     cases h
     obtain⟨he,rfl⟩:=b9 hc
     subst he
     simp only[aH] at hv
     obtain⟨v,u,rfl,h1,h2⟩:=hv
     simp only[VR] at h1
     obtain⟨_,l,hm,h3⟩:=h1
     have:=h3 _ _ _ _ _ (sub _ _ hH)
     subst this
     exact⟨[_],u,rfl,hrow.2 _ _ _ _ _ _ hH hm,h2⟩
    ·simp at h
   ·simp at h
  ·simp at h
 | .CQ k,as,vs,x,r,hv,h=>by
  simp only[dec] at h
  unfold Np at h
  split at h
  ·obtain⟨hk,he⟩:=ai h
   cases he
   have hk:=ae hk
   subst hk
   simp only[aH,VR] at hv
   obtain⟨v,u,rfl,⟨a,b,rfl,h2,h3⟩,h4⟩:=hv
   have ha:a = #[]:=by simpa using h2
   have hb:b = #[]:=by simpa using h3
   subst ha hb
   exact⟨[_],u,rfl,rfl,h4⟩
  ·simp at h
 | .nil,as,vs,x,r,hv,h=>by
  simp only[dec] at h
  unfold Am at h
  split at h
  ·cases h
   simp only[aH,VR] at hv
   obtain⟨v,u,rfl,h2,h4⟩:=hv
   subst h2
   exact⟨[_],u,rfl,rfl,h4⟩
  ·simp at h
 | .pair a b,as,vs,x,r,hv,h=>by
  simp only[dec] at h
  split at h
  ·rename_i y l' h1
   split at h
   ·rename_i z l'' h2
    cases h
    obtain⟨c1,u1,e1,k1,r1⟩:=oM hS hrow sub a as vs y l' hv h1
    obtain⟨c2,u2,e2,k2,r2⟩:=oM hS hrow sub b l' u1 z r r1 h2
    exact⟨c1++c2,u2,by rw[e1,e2,ly],⟨c1,c2,rfl,k1,k2⟩,r2⟩
   ·simp at h
  ·simp at h
 | .one a,as,vs,x,r,hv,h=>by
  simp only[dec] at h
  exact oM hS hrow sub a as vs x r hv h
end
def AV.one:AV→Bool
 | .lit (.agg _)=>false
 | .lit (.tuple _)=>false
 | .agg _=>false
 | .uo _=>false
 | .ah=>false
 | _=>true
def AV.cells':AV→Option (List AV)
 | .agg cs=>some cs
 | a=>cond a.one (some [a]) none
def splice (cs:List AV)(off:Nat)(c:List AV):List AV:=cs.take off++c++cs.drop (off+c.length)
def wR:List AV→Bool
 | []=>true
 | a::l=>a.one&&wR l
section
variable [aq]{P:Program}{w w' w0:World}{μ μ':Mu}{S S':ar}{H H':Heap}{B:Nat}
omit [aq] in
theorem one_cell:∀ {a:AV} {v:Value},VR μ S H a v→a.one=true→v.oneCell'=true∧v.cells.toList=[v]:=by
 intro a v h h1
 cases a with
 | lit x=>simp only[VR] at h;subst h;cases v<;>simp_all [AV.one,Value.oneCell',Value.cells]
 | ptr i off=>simp only[VR] at h;obtain⟨_,_,_,_,rfl⟩:=h;exact⟨rfl,rfl⟩
 | FI e x off=>simp only[VR] at h;obtain⟨_,_,_,_,rfl⟩:=h;exact⟨rfl,rfl⟩
 | CY i g k off=>simp only[VR] at h;obtain⟨⟨_,rfl⟩,_⟩:=h;exact⟨rfl,rfl⟩
 | cont e xs=>simp only[VR,Rd] at h;obtain⟨_,_,h,_⟩:=h;cases h;exact⟨rfl,rfl⟩
 | Ks i xs=>simp only[VR,Rd] at h;obtain⟨_,_,h,_⟩:=h;cases h;exact⟨rfl,rfl⟩
 | sl i g=>simp only[VR] at h;obtain⟨⟨_,_,_,rfl⟩,_⟩:=h;exact⟨rfl,rfl⟩
 | sub i g lo hi=>simp only[VR] at h;obtain⟨⟨_,_,_,rfl⟩,_⟩:=h;exact⟨rfl,rfl⟩
 | Rb i n=>simp only[VR] at h;obtain⟨_,_,_,_,_,_,rfl⟩:=h;exact⟨rfl,rfl⟩
 | iK i=>simp only[VR] at h;obtain⟨_,_,_,_,rfl⟩:=h;exact⟨rfl,rfl⟩
 | mp i=>simp only[VR] at h;obtain⟨_,_,_,_,rfl⟩:=h;exact⟨rfl,rfl⟩
 | zR i=>simp only[VR] at h;obtain⟨⟨_,_,_,rfl⟩,_⟩:=h;exact⟨rfl,rfl⟩
 | ur i k o=>simp only[VR] at h;obtain⟨⟨_,rfl⟩,_⟩:=h;exact⟨rfl,rfl⟩
 | cH i q k lo hi=>simp only[VR] at h;obtain⟨⟨_,_,_,rfl⟩,_⟩:=h;exact⟨rfl,rfl⟩
 | Mp i q k p=>simp only[VR] at h;obtain⟨⟨_,rfl⟩,_⟩:=h;exact⟨rfl,rfl⟩
 | fn f fi ca=>simp only[VR] at h;obtain⟨_,_,rfl,_⟩:=h;exact⟨rfl,rfl⟩
 | CS=>simp only[VR] at h;cases v<;>simp_all [Value.oneCell',Value.cells]
 | AJ t x=>simp only[VR] at h;obtain⟨_,rfl,_⟩:=h;exact⟨rfl,rfl⟩
 | fE x=>simp only[VR] at h
 | agg cs=>simp[AV.one] at h1
 | uo cs=>simp[AV.one] at h1
 | ah=>simp[AV.one] at h1
omit [aq] in
theorem bU {a:AV}{v:Value}{cs:List AV}(h:VR μ S H a v)(hc:a.cells'=some cs):aH μ S H cs v.cells.toList:=by
 have base:∀ {a:AV},VR μ S H a v→cond a.one (some [a]) none=some cs→aH μ S H cs v.cells.toList:=by
  intro a h hc
  cases h1:a.one with
  | false=>rw[h1] at hc;simp at hc
  | true=>
   rw[h1] at hc;simp only[cond_true,bj] at hc;subst hc
   rw[(one_cell h h1).2];simp only[aH];exact⟨v,[],rfl,h,rfl⟩
 cases a with
 | agg l=>simp only[AV.cells',bj] at hc;subst hc;simp only[VR] at h;obtain⟨x,rfl,h⟩:=h;exact h
 | _=>exact base h hc
omit [aq] in
theorem j4:∀ {as:List AV} {vs:List Value},aH μ S H as vs→wR as=true→∀ v∈vs,v.oneCell'=true
 | [],vs,h,_=>by simp only[aH] at h;subst h;simp
 | a::as,vs,h,h1=>by
  simp only[aH] at h
  obtain⟨v,r,rfl,h2,h3⟩:=h
  simp only[wR,ba] at h1
  intro u hu
  rcases List.mem_cons.1 hu with rfl|hu
  ·exact (one_cell h2 h1.1).1
  ·exact j4 h3 h1.2 u hu
end
def vg (P:Program)(id:Nat)(t:TypeId):Option Out:=
 match P.info? t with
 | some i=>match i.zero with
  | some z=>match (Lx z).cells' with
   | some cs=>some (.new true id (.box t cs) (.ptr id 0))
   | none=>none
  | none=>none
 | none=>none
def PF (id:Nat)(t:TypeId)(x:AV):Option Out:=
 match x.cells' with
 | some cs=>some (.new true id (.box t cs) (.ptr id 0))
 | none=>none
def GB (i:Nat)(x:FT):List AV:=[.lit (.int .i64 x.1),.Ks i x.2.1,.lit (.int .i64 x.2.2)]
def I1 (i q k:Nat)(x:FT):List AV:=[.lit (.int .i64 x.1),.cH i q k 0 x.2.1.length,.lit (.int .i64 x.2.2)]
def kJ (P:Program)(H:Heap)(t:TypeId):AV→Option Out
 | .ur i k off=>match H i with
  | some (.aO _ _ q xs .own)=>match cut P t (I1 i q k (rd cM xs k)) off with
   | some v=>some (.val (decide (k<xs.length)) v)
   | none=>none
  | some (.aO _ _ _ xs (.iI m))=>match cut P t (GB i (rd cM xs k)) off with
   | some v=>some (.val (decide (k<xs.length)&&decide (m≤k)) v)
   | none=>none
  | _=>none
 | .Mp i q k p=>match H i with
  | some (.aO _ _ q' xs _)=>cond (be q q') (match cut P t [.lit (.int .u8 (rd (.int .u8) (rd cM xs k).2.1 p))] 0 with
   | some v=>some (.val (decide (k<xs.length)&&decide (p<(rd cM xs k).2.1.length)) v)
   | none=>none) none
  | _=>none
 | _=>none
def zj (P:Program)(H:Heap)(t:TypeId):AV→Option Out
 | .ptr i off=>match H i with
  | some (.box _ cs)=>match cut P t cs off with
   | some v=>some (.val true v)
   | none=>none
  | _=>none
 | .FI e x off=>match cut P t (enc e x) off with
  | some v=>some (.val true v)
  | none=>none
 | .CY i g k off=>match H i with
  | some (.row _ e g' xs)=>cond (be g g')
    (match cut P t (enc e (rd e xs k)) off with
    | some v=>some (.val (decide (k<xs.length)) v)
    | none=>none) none
  | _=>none
 | a=>kJ P H t a
def TV (x:FT)(off:Nat)(v:Int):FT:=cond (be off 0) (v,x.2) (x.1,(x.2.1,v))
def Fm (st:gz)(k:Nat):Bool:=match st with
 | .own=>true
 | .lJ j=>decide (j=k)
 | .iI m=>decide (k<m)
 | .late m=>decide (m=k)
def gz.told:gz→gz
 | .own=>.own
 | .lJ _=>.own
 | .iI m=>.iI m
 | .late m=>.iI (m+1)
def lG (P:Program)(H:Heap)(t:TypeId):AV→AV→Option Out
 | .ur i k off,.lit (.int .i64 v)=>match H i,P.info? t with
  | some (.aO te ti q xs st),some inf=>cond (be inf.size 1&&(be off 0||be off 2))
    (some (.wr (decide (k<xs.length)) i (.aO te ti q (xs.set k (TV (rd cM xs k) off v)) st) (.lit undef))) none
  | _,_=>none
 | .ur i k off,.cH j q' k' lo hi=>match H i,P.info? t with
  | some (.aO te ti q xs st),some inf=>cond (be inf.size 1&&be off 1&&be i j&&be q' q&&be lo 0)
    (some (.wr (decide (k<xs.length)&&decide (k'=k)&&Fm st k&&decide (hi≤(rd cM xs k).2.1.length)) i (.aO te ti q (xs.set k ((rd cM xs k).1,((rd cM xs k).2.1.take hi,(rd cM xs k).2.2))) st.told) (.lit undef))) none
  | _,_=>none
 | .Mp i q k p,.lit (.int .u8 v)=>match H i,P.info? t with
  | some (.aO te ti q' xs st),some inf=>cond (be q q'&&be inf.size 1)
    (some (.wr (decide (k<xs.length)&&decide (p<(rd cM xs k).2.1.length)) i (.aO te ti q (xs.set k ((rd cM xs k).1,((rd cM xs k).2.1.set p v,(rd cM xs k).2.2))) st) (.lit undef))) none
  | _,_=>none
 | _,_=>none
def py (P:Program)(H:Heap)(t:TypeId)(a x:AV):Option Out:=
 match a with
 | .ptr i off=>match H i with
  | some (.box t' cs)=>match x.cells',P.info? t with
   | some c,some inf=>cond (be c.length inf.size&&pv (off+c.length) cs.length&&wR c)
     (some (.wr true i (.box t' (splice cs off c)) (.lit undef))) none
   | _,_=>none
  | _=>none
 | .CY i g k off=>match H i with
  | some (.row te e g' xs)=>match x.cells',P.info? t with
   | some c,some inf=>match pu (fun _=>none) e (splice (enc e (rd e xs k)) off c) with
    | some y=>cond (be g g'&&be c.length inf.size&&pv (off+c.length) e.size&&wR c)
      (some (.wr (decide (k<xs.length)) i (.row te e g' (xs.set k y)) (.lit undef))) none
    | none=>none
   | _,_=>none
  | _=>none
 | a=>lG P H t a x
def pJ (P:Program)(H:Heap)(s:TypeId)(x:AV)(f:Nat):Option Out:=
 match P.underlying s with
 | some (.struct fields)=>match fields[f]? with
  | some fl=>match P.info? fl.type with
   | some ti=>cond (be ti.size 0) none (match x with
    | .ptr i off=>some (.val true (.ptr i (off+fl.offset)))
    | .FI e y off=>some (.val true (.FI e y (off+fl.offset)))
    | .CY i g k off=>match H i with
     | some (.row _ _ g' _)=>cond (be g g') (some (.val true (.CY i g k (off+fl.offset)))) none
     | _=>none
    | .ur i k off=>match H i with
     | some (.aO _ _ _ _ _)=>some (.val true (.ur i k (off+fl.offset)))
     | _=>none
    | _=>none)
   | none=>none
  | none=>none
 | _=>none
def yu (P:Program)(s:TypeId)(x:AV)(f:Nat):Option Out:=
 match P.underlying s with
 | some (.struct fields)=>match fields[f]? with
  | some fl=>match x with
   | .agg cs=>match cut P fl.type cs fl.offset with
    | some v=>some (.val true v)
    | none=>none
   | _=>none
  | none=>none
 | _=>none
def K9 (H:Heap):AV→Option Out
 | .ptr i off=>some (.val true (.ptr i off))
 | .FI e x off=>some (.val true (.FI e x off))
 | .CY i g k off=>match H i with
  | some (.row _ _ g' _)=>cond (be g g') (some (.val true (.CY i g k off))) none
  | _=>none
 | .ur i k off=>match H i with
  | some (.aO _ _ _ _ _)=>some (.val true (.ur i k off))
  | _=>none
 | .fn (.func f) a b=>some (.val true (.fn (.func f) a b))
 | .lit (.pointer (some a))=>some (.val true (.lit (.pointer (some a))))
 | _=>none
def Zt (P:Program)(g:TypeId→AV→AV→Option Bool)(xs ys:List AV):List Field→Option Bool
 | []=>some true
 | f::fs=>match f.name == "_" with
  | true=>Zt P g xs ys fs
  | false=>match cut P f.type xs f.offset,cut P f.type ys f.offset with
   | some a,some b=>match g f.type a b,Zt P g xs ys fs with
    | some r,some s=>some (r&&s)
    | _,_=>none
   | _,_=>none
def eqV (P:Program)(g:TypeId→AV→AV→Option Bool)(t:TypeId):AV→AV→Option Bool
 | .lit (.bool a),.lit (.bool b)=>match P.underlying t with
  | some .bool=>some (a == b)
  | _=>none
 | .lit (.int k a),.lit (.int k' b)=>match P.underlying t with
  | some (.int _)=>cond (decide (k=k')) (some (decide (a=b))) none
  | _=>none
 | .lit (.string a),.lit (.string b)=>match P.underlying t with
  | some .string=>some (a.toList == b.toList)
  | _=>none
 | .agg xs,.agg ys=>match P.underlying t with
  | some (.struct fs)=>cond (P.stoodInHeld t) none (Zt P g xs ys fs.toList)
  | _=>none
 | _,_=>none
def TL (P:Program):Nat→TypeId→AV→AV→Option Bool
 | 0,_,_,_=>none
 | n+1,t,x,y=>eqV P (TL P n) t x y
def KH (P:Program)(op:BinOp)(t:TypeId):AV→AV→Option Out
 | .lit a,.lit b=>match QH P op t a b with
  | some (c,v)=>some (.val c (.lit v))
  | none=>none
 | .agg xs,.agg ys=>cond (P.eqGuardType P.depth t) none (match TL P 9 t (.agg xs) (.agg ys) with
  | some r=>match op with
   | .eql=>some (.val true (.lit (.bool r)))
   | .neq=>some (.val true (.lit (.bool (!r))))
   | _=>none
  | none=>none)
 | .AJ _ _,.lit .nilIface=>match P.underlying t with
  | some (.interface _)=>match op with
   | .eql=>some (.val true (.lit (.bool false)))
   | .neq=>some (.val true (.lit (.bool true)))
   | _=>none
  | _=>none
 | _,_=>none
def Ni (P:Program)(t:TypeId)(x:AV):Option Out:=cond (P.concrete t) (some (.val true (.AJ t x))) none
def qM (P:Program)(t:TypeId)(ok:Bool)(x:AV):Option Out:=
 match ok,x with
 | false,.AJ t' v=>cond (be t' t&&P.concrete t) (some (.val true v)) none
 | _,_=>none
def ZE (op:UnOp):AV→Option Out
 | .lit (.bool b)=>match op with
  | .not=>some (.val true (.lit (.bool (!b))))
  | _=>none
 | .lit (.int k n)=>match op with
  | .neg=>some (.val true (.lit (.int k (k.wrap (0-n)))))
  | .xor=>some (.val true (.lit (.int k (aG .xor k (if k.signed then -1 else k.max) n))))
  | _=>none
 | _=>none
def Fc (P:Program)(src dst:TypeId):AV→Option Out
 | .lit (.int _ n)=>match P.underlying src,P.underlying dst with
  | some _,some (.int k)=>some (.val true (.lit (.int k (k.wrap n))))
  | _,_=>none
 | .lit (.string s)=>match P.underlying src,P.underlying dst with
  | some _,some .string=>some (.val true (.lit (.string s)))
  | _,_=>none
 | _=>none
def Mf (x:AV)(i:Nat):Option Out:=
 match x with
 | .uo vs=>match vs[i]? with
  | some v=>some (.val true v)
  | none=>none
 | _=>none
def rS (P:Program)(t:TypeId):AV→AV→Option Out
 | .lit (.string s),.lit (.int _ i)=>match P.underlying t with
  | some .string=>some (.val (decide (0≤i)&&decide (i<(s.size:Int))) (.lit (.int .u8 (bt s i))))
  | _=>none
 | .agg cs,.lit (.int _ i)=>match P.underlying t with
  | some (.array n el)=>match P.info? el with
   | some inf=>match cut P el cs (i.toNat * inf.size) with
    | some v=>some (.val (decide (0≤i)&&decide (i<(n:Int))) v)
    | none=>none
   | none=>none
  | _=>none
 | _,_=>none
def ZB (P:Program)(H:Heap)(t:TypeId)(x:AV):AV→Option Out
 | .lit (.int _ i)=>match P.underlying t with
  | some (.slice el)=>match P.info? el with
   | some inf=>match x with
    | .cont e xs=>cond (be inf.size e.size) (some (.val (decide (0≤i)&&decide (i<(xs.length:Int))) (.FI e (rd e xs i.toNat) 0))) none
    | .sl j g=>match H j with
     | some (.row _ e g' xs)=>cond (be g g'&&be inf.size e.size) (some (.val (decide (0≤i)&&decide (i<(xs.length:Int))) (.CY j g i.toNat 0))) none
     | _=>none
    | _=>none
   | none=>none
  | _=>none
 | _=>none
def LO (P:Program)(H:Heap)(t:TypeId):AV→Option Out
 | .lit (.string s)=>match P.underlying t with
  | some .string=>some (.val true (.lit (.int .i64 s.size)))
  | _=>none
 | .cont _ xs=>match P.underlying t with
  | some (.slice _)=>some (.val true (.lit (.int .i64 xs.length)))
  | _=>none
 | .sl j g=>match P.underlying t,H j with
  | some (.slice _),some (.row _ _ g' xs)=>cond (be g g') (some (.val true (.lit (.int .i64 xs.length)))) none
  | _,_=>none
 | .lit (.slice _ n _)=>match P.underlying t with
  | some (.slice _)=>some (.val true (.lit (.int .i64 n)))
  | _=>none
 | _=>none
def gB:List (Int×Int)→Int→Nat
 | [],_=>0
 | p::l,x=>cond (decide (x=p.1)) 0 (gB l x+1)
def dx:List (Int×Int)→Int→Int
 | [],_=>0
 | p::l,x=>cond (decide (x=p.1)) p.2 (dx l x)
def lS:List (Int×Int)→Int→Bool
 | [],_=>false
 | p::l,x=>cond (decide (x=p.1)) true (lS l x)
def GH (l:List (Int×Int))(x:Int):List (Int×Int):=cond (lS l x) l (l++[(x,0)])
def r5:List (Int×Int)→Nat→Int→List (Int×Int)
 | [],_,_=>[]
 | p::l,0,v=>(p.1,v)::l
 | p::l,n+1,v=>p::r5 l n v
def lR (l:List (Int×Int))(x v:Int):List (Int×Int):=cond (lS l x) (r5 l (gB l x) v) (l++[(x,v)])
def gG (P:Program)(t:TypeId):Bool:=match P.underlying t with
 | some (.int .i64)=>true
 | _=>false
def gy (P:Program)(t:TypeId):Bool:=match P.underlying t with
 | some (.map k e)=>gG P k&&gG P e&&(match P.info? e with
  | some i=>match i.zero with
   | some (.int .i64 0)=>true
   | _=>false
  | none=>false)
 | _=>false
def je (P:Program)(k:TypeId):Bool:=match P.underlying k with
 | some (.struct fs)=>!(P.stoodInHeld k)&&(match fs.toList with
  | [f,g,h]=>!(f.name == "_") && !(g.name == "_") && !(h.name == "_")&&gG P f.type&&gG P g.type&&gG P h.type
    && (P.info? f.type).isSome&&(P.info? g.type).isSome&&(P.info? h.type).isSome&&be f.offset 0&&be g.offset 1&&be h.offset 2
  | _=>false)
 | _=>false
def jT (P:Program)(t:TypeId):Bool:=match P.underlying t with
 | some (.map k e)=>je P k&&gG P e&&(match P.info? e with
  | some i=>match i.zero with
   | some (.int .i64 0)=>true
   | _=>false
  | none=>false)
 | _=>false
abbrev K3:=Int×(Int×Int)
def k3 (x y:K3):Bool:=decide (x.1=y.1)&&(decide (x.2.1=y.2.1)&&(decide (x.2.2=y.2.2)&&true))
def aM:List (K3×Int)→K3→Int
 | [],_=>0
 | p::l,x=>cond (k3 x p.1) p.2 (aM l x)
def bg:List (K3×Int)→K3→Bool
 | [],_=>false
 | p::l,x=>cond (k3 x p.1) true (bg l x)
def cU:List (K3×Int)→K3→Int→List (K3×Int)
 | [],x,v=>[(x,v)]
 | p::l,x,v=>cond (k3 x p.1) ((x,v)::l) (p::cU l x v)
def dN:List (K3×Int)→K3→List (K3×Int)
 | [],_=>[]
 | p::l,x=>cond (k3 x p.1) l (p::dN l x)
def nr (P:Program)(id:Nat)(t:TypeId):Option Out:=cond (gy P t) (some (.new true id (.map []) (.mp id))) (cond (jT P t) (some (.new true id (.cL []) (.mp id))) none)
def jB (P:Program)(H:Heap)(t:TypeId):AV→AV→Option Out
 | .mp j,.lit (.int .i64 x)=>match H j with
  | some (.map es)=>cond (gy P t) (some (.wr true j (.map (GH es x)) (.uo [.lit (.int .i64 (dx es x)),.lit (.int .i64 ((gB es x:Nat):Int))]))) none
  | _=>none
 | _,_=>none
def gR (P:Program)(H:Heap)(t:TypeId):AV→AV→AV→Option Out
 | .mp j,.lit (.int .i64 x),.lit (.int .i64 v)=>match H j with
  | some (.map es)=>cond (gy P t) (some (.wr true j (.map (lR es x v)) (.lit undef))) none
  | _=>none
 | .mp j,.agg [.lit (.int .i64 x),.lit (.int .i64 y),.lit (.int .i64 z)],.lit (.int .i64 v)=>match H j with
  | some (.cL es)=>cond (jT P t) (some (.wr true j (.cL (cU es (x,(y,z)) v)) (.lit undef))) none
  | _=>none
 | _,_,_=>none
def ga (H:Heap):AV→AV→AV→Option Out
 | .mp j,.lit (.int .i64 s),.lit (.int .i64 v)=>match H j with
  | some (.map es)=>some (.wr (decide (0≤s)&&decide (s<((es.length:Nat):Int))) j (.map (r5 es (Int.toNat s) v)) (.lit undef))
  | _=>none
 | _,_,_=>none
def rM (P:Program)(H:Heap)(t:TypeId)(ok:Bool):AV→AV→Option Out
 | .mp j,.lit (.int .i64 x)=>match H j with
  | some (.map es)=>cond (gy P t) (some (.val true (cond ok (.uo [.lit (.int .i64 (dx es x)),.lit (.bool (lS es x))]) (.lit (.int .i64 (dx es x)))))) none
  | _=>none
 | .mp j,.agg [.lit (.int .i64 x),.lit (.int .i64 y),.lit (.int .i64 z)]=>match H j with
  | some (.cL es)=>cond (jT P t) (some (.val true (cond ok (.uo [.lit (.int .i64 (aM es (x,(y,z)))),.lit (.bool (bg es (x,(y,z))))]) (.lit (.int .i64 (aM es (x,(y,z)))))))) none
  | _=>none
 | _,_=>none
def qZ (P:Program)(H:Heap)(t:TypeId):AV→AV→Option Out
 | .mp j,.agg [.lit (.int .i64 x),.lit (.int .i64 y),.lit (.int .i64 z)]=>match H j with
  | some (.cL es)=>cond (jT P t) (some (.wr true j (.cL (dN es (x,(y,z)))) (.lit (.tuple #[])))) none
  | _=>none
 | _,_=>none
def Tt:AV→AV→Option Out
 | .lit (.int k a),.lit (.int k' b)=>cond (decide (k=k')) (some (.val true (.lit (.int k (td a b))))) none
 | _,_=>none
def SY:AV→AV→Option Out
 | .lit (.int k a),.lit (.int k' b)=>cond (decide (k=k')) (some (.val true (.lit (.int k (mxI a b))))) none
 | _,_=>none
def zv (P:Program)(f:AV)(args:List AV):Option Out:=
 match f with
 | .fn (.func k) first caps=>match P.funcs[k]? with
  | some fn=>match fn.body with
   | some _=>cond (fn.name == "runtime.NumGoroutine") none (some (.call (.fn k) (first++args++caps)))
   | none=>none
  | none=>none
 | .iK i=>some (.call (.iK i) args)
 | _=>none
def cC:List (Option Ty)→Option Ty
 | [some a]=>some a
 | some a::l=>match cC l with
  | some b=>some (.pair a b)
  | none=>none
 | _=>none
def uz:List (Option Ty)→Option Ty
 | [some a]=>some (.one a)
 | l=>cC l
def nv (P:Program):Nat→TypeId→Option Ty
 | 0,_=>none
 | n+1,t=>match P.underlying t with
  | some (.int k)=>some (.int k)
  | some .bool=>some .bool
  | some .string=>some .str
  | some (.slice e)=>match nv P n e with
   | some x=>some (.row x)
   | none=>none
  | some (.struct fs)=>uz (fs.toList.map fun f=>nv P n f.type)
  | _=>none
def gr:Heap:=fun _=>none
def nY (t:Ty):Nat→List AV→Option (List t.T)
 | 0,[]=>some []
 | 0,_=>none
 | n+1,l=>match dec gr t l with
  | some (x,r)=>match nY t n r with
   | some xs=>some (x::xs)
   | none=>none
  | none=>none
def ua (place:Nat→Option (Nat×Nat))(cs:List AV):List (Nat×AV)→Option (List AV)
 | []=>some cs
 | (i,a)::rest=>match place i with
  | some (off,size)=>match a.cells' with
   | some c=>cond (be c.length size&&pv (off+size) cs.length) (ua place (splice cs off c) rest) none
   | none=>none
  | none=>none
def HJ (n:Nat)(cs:List AV):List AV:=(dd n cs).flatten
def eA (P:Program)(id:Nat)(t:TypeId)(len:Nat)(parts:List (Nat×AV)):Option Out:=
 match P.underlying t with
 | some (.slice el)=>match P.info? el,nv P 9 el with
  | some inf,some ty=>match inf.zero with
   | some z=>match (Lx z).cells' with
    | some zc=>cond (be inf.size ty.size&&be zc.length inf.size&&ol 0 inf.size&&ol 0 len&&pv (len * inf.size) 16777216)
      (match ua (fun i=>some (i * inf.size,inf.size)) (HJ len zc) parts with
      | some cs=>match nY ty len cs with
       | some xs=>some (.new true id (.row el ty 0 xs) (.sl id 0))
       | none=>none
      | none=>none) none
    | none=>none
   | none=>none
  | some inf,none=>match inf.zero with
   | some z=>match (Lx z).cells' with
    | some zc=>cond (be inf.size 1&&be zc.length 1&&ol 0 len&&pv len 16777216)
      (match ua (fun i=>some (i * 1,1)) (HJ len zc) parts with
      | some cs=>some (.new true id (.box el cs) (.Rb id len))
      | none=>none) none
    | none=>none
   | none=>none
  | none,_=>none
 | _=>none
def lT (P:Program):List Field→Option (List (Nat×Nat))
 | []=>some []
 | f::fs=>match P.info? f.type,lT P fs with
  | some i,some l=>some ((f.offset,i.size)::l)
  | _,_=>none
def vK (P:Program)(t:TypeId)(parts:List (Nat×AV)):Option Out:=
 match P.underlying t,P.info? t with
 | some (.struct fields),some inf=>match inf.zero with
  | some z=>match (Lx z).cells',lT P fields.toList with
   | some zc,some pl=>match ua (fun i=>pl[i]?) zc parts with
    | some cs=>some (.val true (.agg cs))
    | none=>none
   | _,_=>none
  | none=>none
 | some (.array _ el),some inf=>match inf.zero,P.info? el with
  | some z,some ie=>match (Lx z).cells' with
   | some zc=>match ua (fun i=>some (i * ie.size,ie.size)) zc parts with
    | some cs=>some (.val true (.agg cs))
    | none=>none
   | none=>none
  | _,_=>none
 | _,_=>none
def Em (P:Program)(id:Nat)(t:TypeId):AV→AV→Option Out
 | .lit (.int _ l),.lit (.int _ c)=>match P.underlying t with
  | some (.slice el)=>match P.info? el,nv P 9 el with
   | some inf,some ty=>match inf.zero with
    | some z=>match (Lx z).cells' with
     | some zc=>match pu gr ty zc with
      | some x=>cond (be inf.size ty.size&&be zc.length inf.size&&ol 0 inf.size&&ol 0 inf.bytes)
        (some (.new (decide (0≤l)&&decide (l≤c)&&decide (c * inf.bytes≤140737488355328)) id (.row el ty 0 (dd l.toNat x)) (.sl id 0))) none
      | none=>none
     | none=>none
    | none=>none
   | _,_=>none
  | _=>none
 | _,_=>none
def content (H:Heap)(e:Ty)(x:AV):Option (List e.T):=
 match x with
 | .zR _=>none
 | x=>match BH H e [x] with
  | some (xs,[])=>some xs
  | _=>none
def iW (P:Program)(H:Heap)(id:Nat)(t:TypeId)(s x:AV):Option Out:=
 match P.underlying t with
 | some (.slice el)=>match P.info? el with
  | some inf=>match inf.zero with
   | some z=>match (Lx z).cells' with
    | some zc=>cond (be zc.length inf.size&&ol 0 inf.size) (match s with
     | .sl i g=>match H i with
      | some (.row te e g' xs)=>match content H e x with
       | some ys=>cond (be g g'&&be te el&&be inf.size e.size)
         (some (.wr (decide ((xs.length+ys.length) * inf.bytes≤140737488355328)&&decide (xs.length+ys.length≤9223372036854775807)) i (.row te e (g+1) (xs++ys)) (.sl i (g+1)))) none
       | none=>none
      | _=>none
     | .lit (.slice none 0 0)=>match nv P 9 el with
      | some e=>match content H e x with
       | some ys=>cond (be inf.size e.size)
         (some (.new (decide (ys.length * inf.bytes≤140737488355328)&&decide (ys.length≤9223372036854775807)) id (.row el e 0 ys) (.sl id 0))) none
       | none=>none
      | none=>none
     | _=>none) none
    | none=>none
   | none=>none
  | none=>none
 | _=>none
def wF (P:Program)(id:Nat)(t:TypeId):AV→Option Out
 | .lit (.string s)=>match P.underlying t with
  | some .string=>some (.new true id (.eP s 0) (.ptr id 0))
  | _=>none
 | _=>none
def De (H:Heap)(isString:Bool):AV→Option Out
 | .ptr i 0=>match isString,H i with
  | true,some (.eP s pos)=>some (.RB (decide (pos<s.size)) i (.eP s (pos+(ll s pos).2))
    (.uo [.lit (.bool true),.lit (.int .i64 pos),.lit (.int .i32 (ll s pos).1)]) (.uo [.lit (.bool false)]))
  | _,_=>none
 | _=>none
def bound (x:Option AV)(d:Int):Option Int:=
 match x with
 | none=>some d
 | some (.lit (.int _ n))=>some n
 | _=>none
def sw (P:Program)(t:TypeId)(x:AV)(lo hi mx:Option AV):Option Out:=
 match x with
 | .lit (.string s)=>match P.underlying t,bound lo 0,bound hi s.size,mx with
  | some .string,some l,some h,none=>some (.val (decide (0≤l)&&decide (l≤h)&&decide (h≤(s.size:Int))) (.lit (.string (s.extract l.toNat h.toNat))))
  | _,_,_,_=>none
 | .cont e xs=>match P.underlying t,bound lo 0,bound hi xs.length,mx with
  | some (.slice el),some l,some h,none=>match P.info? el with
   | some inf=>cond (be inf.size e.size) (some (.val (decide (0≤l)&&decide (l≤h)&&decide (h≤(xs.length:Int))) (.cont e ((xs.take h.toNat).drop l.toNat)))) none
   | none=>none
  | _,_,_,_=>none
 | _=>none
def LD (P:Program)(H:Heap)(t:TypeId)(i g a b:Nat)(whole:Bool)(lo hi mx:Option AV):Option Out:=
 match P.underlying t with
 | some (.slice el)=>match P.info? el,H i with
  | some inf,some (.row _ e g' xs)=>match bound lo 0,bound hi ((cond whole xs.length b-a:Nat):Int),mx with
   | some l,some h,none=>cond (be g g'&&be inf.size e.size&&(be a 0||ol a b))
     (some (.val (decide (0≤l)&&decide (l≤h)&&decide ((a:Int)+h≤(xs.length:Int))) (.sub i g (a+l.toNat) (a+h.toNat)))) none
   | some l,some h,some (.lit (.int _ m))=>cond (hi.isSome&&be g g')
     (some (.val (decide (0≤l)&&decide (l≤h)&&decide (h≤m)&&decide ((a:Int)+m≤(xs.length:Int))) .ah)) none
   | _,_,_=>none
  | _,_=>none
 | _=>none
def pQ (P:Program)(t:TypeId)(e:Ty)(xs:List e.T)(lo hi:Option AV)(mx:AV):Option Out:=
 match P.underlying t,bound lo 0,bound hi xs.length,mx with
 | some (.slice el),some l,some h,.lit (.int _ m)=>match P.info? el with
  | some inf=>cond (hi.isSome&&be inf.size e.size) (some (.val (decide (0≤l)&&decide (l≤h)&&decide (h≤m)&&decide (m≤(xs.length:Int))) (.cont e ((xs.take h.toNat).drop l.toNat)))) none
  | none=>none
 | _,_,_,_=>none
def vo (P:Program)(H:Heap)(t:TypeId)(i q k a b:Nat)(lo hi mx:Option AV):Option Out:=
 match P.underlying t with
 | some (.slice el)=>match P.info? el,H i with
  | some inf,some (.aO _ _ q' xs _)=>match bound lo 0,bound hi ((b-a:Nat):Int),mx with
   | some l,some h,none=>cond (be q q'&&be inf.size 1&&be a 0)
     (some (.val (decide (k<xs.length)&&decide (0≤l)&&decide (l≤h)&&decide (h≤((b-a:Nat):Int))) (.cH i q k l.toNat h.toNat))) none
   | _,_,_=>none
  | _,_=>none
 | _=>none
def wX (P:Program)(H:Heap)(t:TypeId)(i q k a b:Nat)(hi:AV):Option Out:=
 match P.underlying t,hi with
 | some (.slice el),.lit (.int _ h)=>match P.info? el,H i with
  | some inf,some (.aO _ _ q' xs _)=>cond (be q q'&&be inf.size 1)
     (some (.val (decide (k<xs.length)&&decide (0≤h)&&decide (h≤((b-a:Nat):Int))) (.cH i q k a (a+h.toNat)))) none
  | _,_=>none
 | _,_=>none
def qA (P:Program)(H:Heap)(t:TypeId)(x:AV)(lo hi mx:Option AV):Option Out:=
 match x with
 | .cH i q k a b=>match lo,hi,mx with
  | none,some h,none=>wX P H t i q k a b h
  | _,_,_=>vo P H t i q k a b lo hi mx
 | .sl i g=>LD P H t i g 0 0 true lo hi mx
 | .sub i g a b=>LD P H t i g a b false lo hi mx
 | .cont e xs=>match mx with
  | none=>sw P t (.cont e xs) lo hi none
  | some m=>pQ P t e xs lo hi m
 | x=>sw P t x lo hi mx
def DP (P:Program)(H:Heap)(t:TypeId)(x:AV):Option Out:=
 match x with
 | .sub i g a b=>match P.underlying t,H i with
  | some (.slice _),some (.row _ _ g' _)=>cond (be g g') (some (.val true (.lit (.int .i64 ((b-a:Nat):Int))))) none
  | _,_=>none
 | .Rb _ n=>match P.underlying t with
  | some (.slice _)=>some (.val true (.lit (.int .i64 n)))
  | _=>none
 | .zR i=>match P.underlying t,H i with
  | some (.slice _),some (.aO _ _ _ xs _)=>some (.val true (.lit (.int .i64 xs.length)))
  | _,_=>none
 | .cH i q _ a b=>match P.underlying t,H i with
  | some (.slice _),some (.aO _ _ q' _ _)=>cond (be q q') (some (.val true (.lit (.int .i64 ((b-a:Nat):Int))))) none
  | _,_=>none
 | x=>LO P H t x
def Eu (P:Program)(H:Heap)(t:TypeId)(x y:AV):Option Out:=
 match x with
 | .sub j g a b=>match y with
  | .lit (.int _ i)=>match P.underlying t with
   | some (.slice el)=>match P.info? el,H j with
    | some inf,some (.row _ e g' _)=>cond (be g g'&&be inf.size e.size)
      (some (.val (decide (0≤i)&&decide (i<((b-a:Nat):Int))) (.CY j g (a+i.toNat) 0))) none
    | _,_=>none
   | _=>none
  | _=>none
 | .Rb j n=>match y with
  | .lit (.int _ i)=>match P.underlying t with
   | some (.slice el)=>match P.info? el with
    | some inf=>cond (be inf.size 1) (some (.val (decide (0≤i)&&decide (i<(n:Int))) (.ptr j i.toNat))) none
    | none=>none
   | _=>none
  | _=>none
 | .zR j=>match y with
  | .lit (.int _ i)=>match P.underlying t with
   | some (.slice el)=>match P.info? el,H j with
    | some inf,some (.aO _ _ _ xs _)=>cond (be inf.size 3) (some (.val (decide (0≤i)&&decide (i<(xs.length:Int))) (.ur j i.toNat 0))) none
    | _,_=>none
   | _=>none
  | _=>none
 | .cH j q k a b=>match y with
  | .lit (.int _ i)=>match P.underlying t with
   | some (.slice el)=>match P.info? el,H j with
    | some inf,some (.aO _ _ q' xs _)=>cond (be q q'&&be inf.size 1) (some (.val (decide (k<xs.length)&&decide (0≤i)&&decide (i<((b-a:Nat):Int))) (.Mp j q k (a+i.toNat)))) none
    | _,_=>none
   | _=>none
  | _=>none
 | .ptr j off=>match y with
  | .lit (.int _ i)=>match P.underlying t with
   | some (.array n el)=>match P.info? el with
    | some inf=>some (.val (decide (0≤i)&&decide (i<(n:Int))) (.ptr j (off+i.toNat * inf.size)))
    | none=>none
   | _=>none
  | _=>none
 | x=>ZB P H t x y
def xJ (P:Program)(H:Heap)(t:TypeId)(x:AV):Option Out:=
 match x with
 | .sub i g a b=>match P.underlying t with
  | some (.slice el)=>match P.info? el,H i with
   | some inf,some (.row te e g' xs)=>match inf.zero with
    | some z=>match (Lx z).cells' with
     | some zc=>match pu gr e zc with
      | some y=>cond (be g g'&&be inf.size e.size&&be zc.length inf.size&&ol 0 inf.size)
        (some (.wr true i (.row te e g (xs.take a++dd (b-a) y++xs.drop (a+(b-a)))) (.lit (.tuple #[])))) none
      | none=>none
     | none=>none
    | none=>none
   | _,_=>none
  | _=>none
 | _=>none
def ia (P:Program)(H:Heap)(t:TypeId)(i q k a b:Nat)(x:AV):Option Out:=
 match P.underlying t with
 | some (.slice el)=>match P.info? el,H i with
  | some inf,some (.aO te ti q' xs .own)=>match inf.zero with
   | some z=>match (Lx z).cells',content H (.int .u8) x with
    | some zc,some ys=>cond (be zc.length inf.size&&be a 0&&be q q'&&be ti el&&be inf.size 1&&be inf.bytes 1)
      (some (.wr (decide (k<xs.length)&&decide (b=(rd cM xs k).2.1.length)&&decide (b+ys.length≤140737488355328)) i
       (.aO te ti (q+1) (xs.set k ((rd cM xs k).1,((rd cM xs k).2.1++ys,(rd cM xs k).2.2))) (.lJ k)) (.cH i (q+1) k 0 (b+ys.length)))) none
    | _,_=>none
   | none=>none
  | _,_=>none
 | _=>none
def gb (P:Program)(H:Heap)(id:Nat)(t:TypeId)(s x:AV):Option Out:=
 match s with
 | .sub i g a b=>match P.underlying t with
  | some (.slice el)=>match P.info? el,H i with
   | some inf,some (.row te e g' xs)=>match content H e x with
    | some ys=>cond (be a 0&&be g g'&&be te el&&be inf.size e.size&&ol 0 inf.size)
      (some (.wr (decide (b+ys.length≤xs.length)) i (.row te e g (xs.take b++ys++xs.drop (b+ys.length))) (.sub i g 0 (b+ys.length)))) none
    | none=>none
   | _,_=>none
  | _=>none
 | .cH i q k a b=>ia P H t i q k a b x
 | s=>iW P H id t s x
def vB (xs:List Int):ByteArray:=⟨(xs.map fun n=>UInt8.ofNat n.toNat).toArray⟩
def K8 (P:Program)(H:Heap)(src dst:TypeId)(x:AV):Option Out:=
 match P.underlying src,P.underlying dst with
 | some (.slice e),some .string=>match P.underlying e,content H (.int .u8) x with
  | some (.int .u8),some xs=>some (.val true (.lit (.string (vB xs))))
  | _,_=>none
 | _,_=>none
def sem (P:Program)(H:Heap)(id:Nat)(o:Oper)(ρ:Operand→AV):Option Out:=
 match o.op with
 | .move x=>some (.val true (ρ x))
 | .assign x=>some (.val true (ρ x))
 | .pick c a b=>match ρ c with
  | .lit (.bool t)=>some (.val true (cond t (ρ a) (ρ b)))
  | _=>none
 | .alloc t=>vg P id t
 | .box t x=>PF id t (ρ x)
 | .load t a=>zj P H t (ρ a)
 | .store t a x=>py P H t (ρ a) (ρ x)
 | .fieldAddr s x f=>pJ P H s (ρ x) f
 | .field s x f=>yu P s (ρ x) f
 | .nilCheck x=>K9 H (ρ x)
 | .binOp op t x y _=>KH P op t (ρ x) (ρ y)
 | .unOp op _ x=>ZE op (ρ x)
 | .makeInterface t x=>Ni P t (ρ x)
 | .typeAssert x _ t ok=>qM P t ok (ρ x)
 | .convert s d x=>match ρ x with
  | .lit v=>Fc P s d (.lit v)
  | a=>K8 P H s d a
 | .build t parts=>vK P t (parts.toList.map fun p=>(p.1,ρ p.2))
 | .buildSlice t n parts=>eA P id t n (parts.toList.map fun p=>(p.1,ρ p.2))
 | .makeSlice t l c=>Em P id t (ρ l) (ρ c)
 | .slice t x lo hi mx=>qA P H t (ρ x) (lo.map ρ) (hi.map ρ) (mx.map ρ)
 | .range t x=>wF P id t (ρ x)
 | .next x s=>De H s (ρ x)
 | .extract t i=>Mf (ρ t) i
 | .index t x i=>rS P t (ρ x) (ρ i)
 | .indexAddr t x i=>Eu P H t (ρ x) (ρ i)
 | .makeMap t r=>match r with
  | none=>nr P id t
  | some _=>none
 | .mapEntry t m k=>jB P H t (ρ m) (ρ k)
 | .mapUpdate t m k x=>gR P H t (ρ m) (ρ k) (ρ x)
 | .entryStore _ m s x=>ga H (ρ m) (ρ s) (ρ x)
 | .lookup t x k ok=>rM P H t ok (ρ x) (ρ k)
 | .makeFunc fn first caps=>some (.val true (.fn fn (first.toList.map ρ) (caps.toList.map ρ)))
 | .call c=>match c.callee with
  | .builtin .len=>match c.argTypes.toList,c.args.toList with
   | [t],[x]=>DP P H t (ρ x)
   | _,_=>none
  | .builtin .clear=>match c.argTypes.toList,c.args.toList with
   | [t],[x]=>xJ P H t (ρ x)
   | _,_=>none
  | .builtin .delete=>match c.argTypes.toList,c.args.toList with
   | [t,_],[x,y]=>qZ P H t (ρ x) (ρ y)
   | _,_=>none
  | .builtin .append=>match c.argTypes.toList,c.args.toList with
   | [t,u],[s,x]=>cond (be t u) (gb P H id t (ρ s) (ρ x)) none
   | _,_=>none
  | .builtin .min=>match c.args.toList with
   | [x,y]=>Tt (ρ x) (ρ y)
   | _=>none
  | .builtin .max=>match c.args.toList with
   | [x,y]=>SY (ρ x) (ρ y)
   | _=>none
  | .value f=>zv P (ρ f) (c.args.toList.map ρ)
  | _=>none
 | _=>none
def Out.ok:Out→Bool
 | .val c _=>c
 | .new c _ _ _=>c
 | .wr c _ _ _=>c
 | .RB _ _ _ _ _=>true
 | .call _ _=>false
def Out.res:Out→AV
 | .val _ v=>v
 | .new _ _ _ v=>v
 | .wr _ _ _ v=>v
 | .RB c _ _ v u=>cond c v u
 | .call _ _=>.ah
def Out.heap (H:Heap):Out→Heap
 | .val _ _=>H
 | .new _ i o _=>aP H i (some o)
 | .wr _ i o _=>aP H i (some o)
 | .RB c i o _ _=>cond c (aP H i (some o)) H
 | .call _ _=>H
def Out.fresh (H:Heap):Out→Bool
 | .new _ i _ _=>(H i).isNone
 | _=>true
def V2 (n:Next)(u:Value):Prop:=n = .value u∨(n = .skip∧u=undef)
section
variable [aq]{P:Program}{w w' w0:World}{μ μ':Mu}{S S':ar}{H Hh H':Heap}{B:Nat}
def bQ (P:Program)(w w0:World)(μ:Mu)(S:ar)(H:Heap)(B:Nat)(s:Sem Next)(out:Out):Prop:=
 ∃ n u w' μ',s.run P w = .ok n w'∧V2 n u∧Rel μ' S (out.heap H) B w0 w'∧Ext μ S H μ' S (out.heap H)∧VR μ' S (out.heap H) out.res u
theorem aD (R:Rel μ S H B w0 w){s:Sem Value}{u:Value}{c:Bool}{v:AV}(hs:s.run P w = .ok u w)(hv:VR μ S H v u) :
  bQ P w w0 μ S H B (do pure (.value (← s))) (.val c v):=
 ⟨.value u,u,w,μ,by simp only[ap,hs,al,aw],.inl rfl,R,Ext.refl,hv⟩
omit [aq] in
theorem cell_of {b:Nat}{vs:Array Value}{t:TypeId}{f:Nat×Nat}(h:w.heap[b]? = some (.cells vs t f))(j:Nat):w.cell? ⟨b,j,none⟩=vs[j]?:=by
 simp[World.cell?,h]
theorem gX (R:Rel μ S H B w0 w){i t ti q:Nat}{xs:List FT}{st:gz}(hi:H i=some (.aO t ti q xs st)){l:Lc}(hm:μ i=some l):cT S w B l t ti xs st:=by
 obtain⟨l',h1,h2⟩:=R.obj i _ hi
 cases h1.symm.trans hm
 exact h2
omit [aq] in
theorem Mc {xs:List FT}{k:Nat}(h:k<xs.length):xs[k]? = some (rd cM xs k):=by
 unfold rd
 rw[eQ,dk h];rfl
omit [aq] in
theorem rdU {xs:List Int}{k:Nat}(h:k<xs.length):xs[k]? = some (rd (.int .u8) xs k):=by
 unfold rd
 rw[eQ,dk h];rfl
omit [aq] in
theorem ec {l:Lc}{t ti:TypeId}{xs:List FT}{st:gz}(D:cT S w B l t ti xs st){k:Nat}(hk:k<xs.length) :
  ∃ b cs,l.blk=some b∧B≤b∧S b=none∧w.heap[b]? = some (.cells cs t (0,0))∧cs.size=l.cap * 3∧(∀ (k:Nat) (x:FT),xs[k]? = some x→tX S l st cs k x):=by
 rcases D.CS with h|⟨b,cs,h⟩
 ·have:=D.len;omega
 ·exact⟨b,cs,h⟩
omit [aq] in
theorem cT.U6 {l:Lc}{t ti:TypeId}{xs:List FT}{st:gz}(D:cT S w B l t ti xs st){k b:Nat}(hb:(l.at k).blk=some b):st.mine k:=
 Classical.byContradiction fun h=>by
  have:=D.out k (.inr h)
  have hb:(l.cH k).1=some b:=hb
  rw[this] at hb;cases hb
omit [aq] in
theorem nM {st:gz}{k:Nat}(h:Fm st k=true)(j:Nat):st.told.mine j↔st.mine j:=by
 cases st with
 | own=>exact pd
 | lJ _=>exact pd
 | iI _=>exact pd
 | late m=>simp only[gz.told,gz.mine];omega
omit [aq] in
theorem LB {st:gz}{k:Nat}(h:Fm st k=true){j:Nat}(hj:j≠k)(hh:st.told.head j):st.head j:=by
 cases st with
 | own=>trivial
 | lJ m=>simp only[Fm,decide_eq_true_eq] at h;simp only[gz.head];omega
 | iI _=>exact hh
 | late m=>simp only[Fm,decide_eq_true_eq] at h;simp only[gz.told,gz.head] at hh ⊢;omega
omit [aq] in
theorem yY {st:gz}{k:Nat}(h:Fm st k=true):st.mine k:=by
 cases st with
 | own=>trivial
 | lJ m=>trivial
 | iI m=>simp only[Fm,decide_eq_true_eq] at h;exact h
 | late m=>simp only[Fm,decide_eq_true_eq] at h;simp only[gz.mine];omega
omit [aq] in
theorem PS {i q k:Nat}{t ti:TypeId}{xs:List FT}{st:gz}{l:Lc}(hi:H i=some (.aO t ti q xs st))(hm:μ i=some l){n:Nat}(hmi:st.mine k)(hn:n≤(l.at k).cap) :
  VR μ S H (.cH i q k 0 n) (.slice (l.at k).addr n (l.at k).cap):=by
 simp only[VR]
 refine⟨⟨_,_,_,rfl⟩,l,hm,fun t' ti' qc xs' st' hH=>?_⟩
 rw[hi] at hH;cases hH
 refine⟨bi _,fun _=>⟨hmi,pb _,hn,(l.at k).addr,rfl,fun _=>?_,id⟩⟩
 cases (l.at k).addr with
 | none=>rfl
 | some a=>simp[add_zero]
theorem GG (R:Rel μ S H B w0 w){i t ti q:Nat}{xs:List FT}(hi:H i=some (.aO t ti q xs .own)){l:Lc}(hm:μ i=some l){k:Nat}(hk:k<xs.length) :
  ∃ b v,l.blk=some b∧aH μ S H (I1 i q k (rd cM xs k)) [.int .i64 (rd cM xs k).1,v,.int .i64 (rd cM xs k).2.2] ∧
   ∀ j u,([.int .i64 (rd cM xs k).1,v,.int .i64 (rd cM xs k).2.2]:List Value)[j]? = some u→w.cell? ((⟨b,k * 3,none⟩:Addr).add j)=some u:=by
 have D:=gX R hi hm
 obtain⟨b,cs,h1,_,_,h4,h5,h6⟩:=ec D hk
 obtain⟨c0,c2,v,c1,_,hv,_⟩:=h6 k _ (Mc hk)
 have hv:=hv trivial
 have hr:=D.row k _ (Mc hk) trivial
 refine⟨b,v,h1,?_,fun j u hj=>?_⟩
 ·simp only[I1,aH,VR]
  refine⟨_,_,rfl,rfl,_,_,rfl,?_,_,_,rfl,rfl,rfl⟩
  have:=PS (μ:=μ) (S:=S) (H:=H) (k:=k) hi hm trivial hr.1.1
  simp only[VR] at this
  rw[hv];exact this
 ·rw[aN,cell_of h4]
  match j,hj with
  | 0,hj=>cases hj;exact c0
  | 1,hj=>cases hj;exact c1
  | 2,hj=>cases hj;exact c2
theorem Hl (R:Rel μ S H B w0 w){i t ti q m:Nat}{xs:List FT}(hi:H i=some (.aO t ti q xs (.iI m))){l:Lc}(hm:μ i=some l){k:Nat}(hk:k<xs.length)(hmk:m≤k) :
  ∃ b v,l.blk=some b∧aH μ S H (GB i (rd cM xs k)) [.int .i64 (rd cM xs k).1,v,.int .i64 (rd cM xs k).2.2] ∧
   ∀ j u,([.int .i64 (rd cM xs k).1,v,.int .i64 (rd cM xs k).2.2]:List Value)[j]? = some u→w.cell? ((⟨b,k * 3,none⟩:Addr).add j)=some u:=by
 have D:=gX R hi hm
 obtain⟨b,cs,h1,_,_,h4,h5,h6⟩:=ec D hk
 obtain⟨c0,c2,v,c1,_,_,hv⟩:=h6 k _ (Mc hk)
 have hv:=hv (by simp only[gz.mine];omega)
 refine⟨b,v,h1,?_,fun j u hj=>?_⟩
 ·simp only[GB,aH,VR]
  exact⟨_,_,rfl,rfl,_,_,rfl,hv,_,_,rfl,rfl,rfl⟩
 ·rw[aN,cell_of h4]
  match j,hj with
  | 0,hj=>cases hj;exact c0
  | 1,hj=>cases hj;exact c1
  | 2,hj=>cases hj;exact c2
theorem Mh (sub:∀ i o,Hh i=some o→H i=some o)(R:Rel μ S H B w0 w){t:TypeId}{x:AV}{v:Value}{out:Out}(hx:VR μ S H x v)(h:kJ P Hh t x=some out)(hk:out.ok=true) :
  bQ P w w0 μ S H B (do pure (.value (← gn t v))) out:=by
 unfold kJ at h
 split at h
 ·rename_i i k off
  split at h
  case h_3=>simp at h
  case h_2=>
   rename_i te ti q xs m hH
   split at h
   case h_2=>simp at h
   rename_i r hr
   cases h
   obtain⟨hlt,hmk⟩:k<xs.length∧m≤k:=by simpa [Out.ok] using hk
   have hHi:=sub _ _ hH
   simp only[VR] at hx
   obtain⟨_,l,hm,h2⟩:=hx
   obtain⟨b,hb,rfl⟩:=h2 _ _ _ _ _ hHi
   obtain⟨b',u,e1,hvs,hcs⟩:=Hl R hHi hm hlt hmk
   cases hb.symm.trans e1
   obtain⟨u,hu,hv⟩:=dy (P:=P) (w:=w) (ad:=⟨b,k * 3,none⟩) hvs hcs hr
   rw[aN] at hu
   exact aD R (by simp only[gn,eJ,ap,aw,al,hu]) hv
  rename_i te ti q xs hH
  split at h
  case h_2=>simp at h
  rename_i r hr
  cases h
  have hlt:k<xs.length:=by simpa [Out.ok] using hk
  have hHi:=sub _ _ hH
  simp only[VR] at hx
  obtain⟨_,l,hm,h2⟩:=hx
  obtain⟨b,hb,rfl⟩:=h2 _ _ _ _ _ hHi
  obtain⟨b',u,e1,hvs,hcs⟩:=GG R hHi hm hlt
  cases hb.symm.trans e1
  obtain⟨u,hu,hv⟩:=dy (P:=P) (w:=w) (ad:=⟨b,k * 3,none⟩) hvs hcs hr
  rw[aN] at hu
  exact aD R (by simp only[gn,eJ,ap,aw,al,hu]) hv
 ·rename_i i q k p
  split at h
  case h_2=>simp at h
  rename_i te ti q' xs st hH
  obtain⟨hq,h5⟩:=Hu h
  clear h
  have hq:=ae hq
  subst hq
  split at h5
  case h_2=>simp at h5
  rename_i r hr
  cases h5
  simp only[Out.ok,ba,decide_eq_true_eq] at hk
  obtain⟨hlt,hp⟩:=hk
  have hHi:=sub _ _ hH
  simp only[VR] at hx
  obtain⟨_,l,hm,h2⟩:=hx
  obtain⟨_,b,hb,rfl⟩:=(h2 _ _ _ _ _ hHi).2 rfl
  have D:=gX R hHi hm
  rcases (D.row k _ (Mc hlt) (D.U6 hb)).2 with h0|⟨b',cs,e1,_,_,h4,_,h6⟩
  ·rw[h0.1] at hb;cases hb
  cases hb.symm.trans e1
  obtain⟨c,k1,k2⟩:=h6 p (rd (.int .u8) (rd cM xs k).2.1 p) (rdU hp)
  have k1:c=[.int .u8 (rd (.int .u8) (rd cM xs k).2.1 p)]:=k1
  subst k1
  obtain⟨u,hu,hv⟩:=dy (P:=P) (w:=w) (μ:=μ) (S:=S) (H:=H) (ad:=⟨b,p,none⟩) (cs:=[.lit (.int .u8 (rd (.int .u8) (rd cM xs k).2.1 p))]) (vs:=[.int .u8 (rd (.int .u8) (rd cM xs k).2.1 p)])
   (by simp[aH,VR]) (fun j u hj=>by
    match j,hj with
    | 0,hj=>rw[aN,cell_of h4];have:=k2 0 u hj;simpa [Ty.size] using this) hr
  rw[add_zero] at hu
  exact aD R (by simp only[gn,eJ,ap,aw,al,hu]) hv
 ·simp at h
omit [aq] in
theorem wu {l:Lc}{st st':gz}{cs:Array Value}{k j:Nat}{x:FT}{off:Nat}{u:Value}(hst:j≠k→st'.head j→st.head j)(hmi:j≠k→st.mine j→st'.mine j)(hj:j≠k)(ho:off<3)(h:tX S l st cs j x) :
  tX S l st' (cs.setIfInBounds (k * 3+off) u) j x:=by
 obtain⟨h0,h2,v,h1,h3,h4,h5⟩:=h
 have ne:∀ m,m<3→j * 3+m≠k * 3+off:=fun m hm e=>hj (by omega)
 refine⟨?_,?_,v,?_,h3,fun hs=>h4 (hst hj hs),fun hm=>h5 (fun hm'=>hm (hmi hj hm'))⟩
 ·rw[cd (fun e=>ne 0 (by omega) (by omega))];exact h0
 ·rw[cd (fun e=>ne 2 (by omega) (by omega))];exact h2
 ·rw[cd (fun e=>ne 1 (by omega) (by omega))];exact h1
omit [aq] in
theorem Oo {α:Type}(cs:Array α)(o:Nat)(v:α)(ho:o<cs.size):(cs.toList.take o++[v]++cs.toList.drop (o+[v].length)).toArray=cs.setIfInBounds o v:=by
 apply Array.ext'
 rw[nf,List.set_eq_take_append_cons_drop,if_pos (by rw[cf];exact ho)]
 simp
omit [aq] in
theorem Ik {b o:Nat}{t t':TypeId}{inf:TypeInfo}{cs:Array Value}{v:Value}(hinf:P.info? t=some inf)(h1:inf.size=1)(hb:w.heap[b]? = some (.cells cs t' (0,0)))(ho:o<cs.size)
  (hv:v.oneCell'=true) (hc:v.cells.toList=[v]):(kb t (.pointer (some ⟨b,o,none⟩)) v).run P w = .ok () (w.setRow b (cs.setIfInBounds o v)):=by
 have hst:=run_storeCells_at (P:=P) b o t' [v] 0 cs w hb (by simp;omega) (fun x hx=>by simp at hx;subst hx;exact hv)
 simp only[jn] at hst
 rw[Oo cs o v ho] at hst
 have hl:v.cells.size=1:=by rw[← cf,hc];rfl
 have hsz:¬ (v.cells.size≠inf.size):=by omega
 simp only[kb,eJ,storeVar,ap,aw,al,cS hinf,ee,if_neg hsz,hc,hst]
omit [aq] in
theorem cT.set {l:Lc}{t ti:TypeId}{xs:List FT}{st st':gz}(D:cT S w B l t ti xs st){k:Nat}(hk:k<xs.length){y:FT}(hrow:st'.mine k→iD S w' B (l.at k) ti (.int .u8) y.2.1)(hmi:∀ j,st'.mine j↔st.mine j)
  (hoth:∀ j,j≠k→∀ b,(l.at j).blk=some b→w'.heap[b]? = w.heap[b]?)
  (hcel:∃ b cs,l.blk=some b∧B≤b∧S b=none∧w'.heap[b]? = some (.cells cs t (0,0))∧cs.size=l.cap * 3∧tX S l st' cs k y∧∀ (j:Nat) (x:FT),j≠k→xs[j]? = some x→tX S l st' cs j x) :
  cT S w' B l t ti (xs.set k y) st':=by
 have hlen:(xs.set k y).length=xs.length:=km
 refine⟨by rw[hlen];exact D.len,fun j hj=>D.out j (by rw[← hlen];exact hj.imp id fun h h'=>h ((hmi j).2 h')),fun j x hx hm=>?_,D.one,D.off,?_⟩
 ·by_cases e:j=k
  ·subst e
   rw[dE hk] at hx
   cases hx;exact hrow hm
  ·rw[fg (pa e)] at hx
   have h:=D.row j x hx ((hmi j).1 hm)
   exact gP (fun _ _ h=>h) (hoth j e) (fun b hb=>(fU h hb).2.2) h
 ·obtain⟨b,cs,h1,h2,h3,h4,h5,h6,h7⟩:=hcel
  refine .inr ⟨b,cs,h1,h2,h3,h4,h5,fun j x hx=>?_⟩
  by_cases e:j=k
  ·subst e
   rw[dE hk] at hx
   cases hx;exact h6
  ·rw[fg (pa e)] at hx
   exact h7 j x e hx
omit [aq] in
theorem LM {l:Lc}{t:TypeId}{e:Ty}{xs:List e.T}(n:Nat)(h:iD S w B l t e xs):iD S w B l t e (xs.take n):=by
 obtain⟨⟨h1,h2⟩,h3⟩:=h
 refine⟨⟨by rw[gl];omega,h2⟩,?_⟩
 rcases h3 with h3|⟨b',cs,e1,q1,q2,q3,q4,q5⟩
 ·exact .inl h3
 ·refine .inr ⟨b',cs,e1,q1,q2,q3,q4,fun j x hj=>q5 j x ?_⟩
  rw[dv] at hj
  split at hj
  ·exact hj
  ·simp at hj
omit [aq] in
theorem Pw {l:Lc}{t:TypeId}{xs:List Int}{p:Nat}{v:Int}{b:Nat}{cs:Array Value}(hb:l.blk=some b)(hcs:w.heap[b]? = some (.cells cs t (0,0)))(hp:p<xs.length)(h:iD S w B l t (.int .u8) xs) :
  p<cs.size∧iD S (w.setRow b (cs.setIfInBounds p (.int .u8 v))) B l t (.int .u8) (xs.set p v):=by
 obtain⟨⟨h1,h2⟩,h3⟩:=h
 have h1:xs.length≤l.cap:=h1
 rcases h3 with h3|⟨b',cs',e1,q1,q2,q3,q4,q5⟩
 ·rw[h3.1] at hb;cases hb
 cases hb.symm.trans e1
 cases hcs.symm.trans q3
 have q4:cs.size=l.cap * 1:=q4
 refine⟨by omega,⟨by rw[km];exact h1,h2⟩,.inr ⟨b,_,hb,q1,q2,setRow_heap _ _ _ _ _ _ hcs,by rw[kh];exact q4,fun j x hj=>?_⟩⟩
 by_cases e:j=p
 ·subst e
  rw[dE hp] at hj
  cases hj
  refine⟨[.int .u8 v],rfl,fun m u hm=>?_⟩
  match m,hm with
  | 0,hm=>cases hm;rw[h9];simp[Ty.size];omega
 ·rw[fg (pa e)] at hj
  obtain⟨c,k1,k2⟩:=q5 j x hj
  refine⟨c,k1,fun m u hm=>?_⟩
  have k1:c=[.int .u8 x]:=k1
  subst k1
  match m,hm with
  | 0,hm=>
   rw[cd (by simp[Ty.size];omega)]
   exact k2 0 u hm
theorem I0 (sub:∀ i o,Hh i=some o→H i=some o)(R:Rel μ S H B w0 w){t:TypeId}{a x:AV}{va v:Value}{out:Out}(ha:VR μ S H a va)(hx:VR μ S H x v)(h:lG P Hh t a x=some out)(hk:out.ok=true) :
  bQ P w w0 μ S H B (do kb t va v;pure .skip) out:=by
 unfold lG at h
 split at h
 ·rename_i i k off y
  split at h
  case h_2=>simp at h
  rename_i te ti q xs st inf hH hinf
  obtain⟨hc,rfl⟩:=ai h
  simp only[ba,Bool.or_eq_true] at hc
  obtain⟨c1,c2⟩:=hc
  have c1:=ae c1
  have hlt:k<xs.length:=by simpa [Out.ok] using hk
  have hHi:=sub _ _ hH
  simp only[VR] at ha hx
  obtain⟨_,l,hm,h2⟩:=ha
  obtain⟨b,hb,rfl⟩:=h2 _ _ _ _ _ hHi
  subst hx
  have D:=gX R hHi hm
  obtain⟨b',cs,e1,q1,q2,h4,h5,h6⟩:=ec D hlt
  cases hb.symm.trans e1
  have ho3:off=0∨off=2:=c2.imp ae ae
  have hls:=D.len
  have ho:k * 3+off<cs.size:=by omega
  have hst:=Ik (P:=P) hinf c1 h4 ho (v:=.int .i64 y) rfl rfl
  have E:Ext μ S H μ S (aP H i (some (.aO te ti q (xs.set k (TV (rd cM xs k) off y)) st))):=Ext.sg hHi (by simp)
  refine⟨.skip,undef,w.setRow b (cs.setIfInBounds (k * 3+off) (.int .i64 y)),μ,by simp only[ap,hst,al,aw],.inr ⟨rfl,rfl⟩,?_,E,by simp only[Out.res,VR]⟩
  refine R.wr hm (.inl hb) _ (below_setRow (nl _ _) (bi _) _) (size_setRow _ _ _) (fun k hk=>setRow_other _ _ _ _ hk) E ?_ (.inr ⟨_,_,_,_,_,rfl⟩)
  have same:∀ j b',(l.at j).blk=some b'→(w.setRow b (cs.setIfInBounds (k * 3+off) (.int .i64 y))).heap[b']? = w.heap[b']?:=fun j b' hb'=>setRow_other _ _ _ _ (fun e=>D.off j b' hb' (by rw[e];exact hb))
  refine D.set hlt (fun hmk=>?_) (fun _=>pd) (fun j _ b' hb'=>same j b' hb') ⟨b,_,hb,q1,q2,setRow_heap _ _ _ _ _ _ h4,by rw[kh];exact h5,?_,fun j x hj hx=>wu (fun _ h=>h) (fun _ h=>h) hj (by omega) (h6 j x hx)⟩
  ·have e:(TV (rd cM xs k) off y).2.1=(rd cM xs k).2.1:=by unfold TV;rcases ho3 with rfl|rfl<;>rfl
   rw[e]
   have hrk:=D.row k _ (Mc hlt) hmk
   exact gP (fun _ _ h=>h) (same k) (fun b hb=>(fU hrk hb).2.2) hrk
  ·obtain⟨f0,f2,u,f1,f3,f4⟩:=h6 k _ (Mc hlt)
   rcases ho3 with rfl|rfl
   ·refine⟨?_,?_,u,?_,f3,f4⟩
    ·exact fb (by omega)
    ·rw[cd (by omega)];exact f2
    ·rw[cd (by omega)];exact f1
   ·refine⟨?_,?_,u,?_,f3,f4⟩
    ·rw[cd (by omega)];exact f0
    ·exact fb (by omega)
    ·rw[cd (by omega)];exact f1
 ·rename_i i k off j q' k' lo hi
  split at h
  case h_2=>simp at h
  rename_i te ti q xs st inf hH hinf
  obtain⟨hc,rfl⟩:=ai h
  simp only[ba] at hc
  obtain⟨⟨⟨⟨c1,c2⟩,c3⟩,c4⟩,c5⟩:=hc
  have c1:=ae c1
  have c2:=ae c2
  have c3:=ae c3
  have c4:=ae c4
  have c5:=ae c5
  subst c2 c3 c4 c5
  simp only[Out.ok,ba,decide_eq_true_eq] at hk
  obtain⟨⟨⟨hlt,hkk⟩,hso⟩,hhi⟩:=hk
  subst hkk
  have hHi:=sub _ _ hH
  simp only[VR] at ha hx
  obtain⟨_,l,hm,h2⟩:=ha
  obtain⟨b,hb,rfl⟩:=h2 _ _ _ _ _ hHi
  obtain⟨_,l',hm',h3⟩:=hx
  cases hm.symm.trans hm'
  obtain⟨_,_,hcap,ad,rfl,g1,g2⟩:=(h3 _ _ _ _ _ hHi).2 rfl
  have had:ad=(l.at k').addr:=by
   rw[g1 (by simp)]
   cases (l.at k').addr with
   | none=>rfl
   | some a=>simp[add_zero]
  subst had
  have D:=gX R hHi hm
  obtain⟨b',cs,e1,q1,q2,h4,h5,h6⟩:=ec D hlt
  cases hb.symm.trans e1
  have hls:=D.len
  have ho:k' * 3+1<cs.size:=by omega
  have hst:=Ik (P:=P) hinf c1 h4 ho (v:=.slice (l.at k').addr (hi-0) ((l.at k').cap-0)) rfl rfl
  have E:Ext μ S H μ S (aP H i (some (.aO te ti q' (xs.set k' ((rd cM xs k').1,((rd cM xs k').2.1.take hi,(rd cM xs k').2.2))) st.told))):=Ext.sg hHi (by simp) fun j=>(nM hso j).2
  refine⟨.skip,undef,w.setRow b (cs.setIfInBounds (k' * 3+1) (.slice (l.at k').addr (hi-0) ((l.at k').cap-0))),μ,by simp only[ap,hst,al,aw],.inr ⟨rfl,rfl⟩,?_,E,by simp only[Out.res,VR]⟩
  refine R.wr hm (.inl hb) _ (below_setRow (nl _ _) (bi _) _) (size_setRow _ _ _) (fun k hk=>setRow_other _ _ _ _ hk) E ?_ (.inr ⟨_,_,_,_,_,rfl⟩)
  have same:∀ j b',(l.at j).blk=some b'→(w.setRow b (cs.setIfInBounds (k' * 3+1) (.slice (l.at k').addr (hi-0) ((l.at k').cap-0)))).heap[b']? = w.heap[b']?:=fun j b' hb'=>setRow_other _ _ _ _ (fun e=>D.off j b' hb' (by rw[e];exact hb))
  have hrk:=D.row k' _ (Mc hlt) (yY hso)
  refine D.set hlt (fun _=>?_) (nM hso) (fun j _ b' hb'=>same j b' hb') ⟨b,_,hb,q1,q2,setRow_heap _ _ _ _ _ _ h4,by rw[kh];exact h5,?_,fun j x hj hx=>wu (LB hso) (fun _ h=>(nM hso j).2 h) hj (by omega) (h6 j x hx)⟩
  ·exact gP (fun _ _ h=>h) (same k') (fun b hb=>(fU hrk hb).2.2) (LM hi hrk)
  ·obtain⟨f0,f2,u,f1,f3,f4⟩:=h6 k' _ (Mc hlt)
   refine⟨?_,?_,_,fb (by omega),rfl,fun _=>?_,fun hn=>absurd ((nM hso k').2 (yY hso)) hn⟩
   ·rw[cd (by omega)];exact f0
   ·rw[cd (by omega)];exact f2
   ·simp only[gl,pB,Nat.min_eq_left hhi]
 ·rename_i i q k p y
  split at h
  case h_2=>simp at h
  rename_i te ti q' xs st inf hH hinf
  obtain⟨hc,rfl⟩:=ai h
  simp only[ba] at hc
  obtain⟨c1,c2⟩:=hc
  have c1:=ae c1
  have c2:=ae c2
  subst c1
  simp only[Out.ok,ba,decide_eq_true_eq] at hk
  obtain⟨hlt,hp⟩:=hk
  have hHi:=sub _ _ hH
  simp only[VR] at ha hx
  obtain⟨_,l,hm,h2⟩:=ha
  obtain⟨_,b,hb,rfl⟩:=(h2 _ _ _ _ _ hHi).2 rfl
  subst hx
  have D:=gX R hHi hm
  have hmk:=D.U6 hb
  have hrk:=D.row k _ (Mc hlt) hmk
  obtain⟨b0,cs0,e0,n1,n2,m4,m5,m6⟩:=ec D hlt
  rcases hrk.2 with h0|⟨b',cs,e1,_,_,h4,_,_⟩
  ·rw[h0.1] at hb;cases hb
  cases hb.symm.trans e1
  obtain⟨ho,hR⟩:=Pw (v:=y) hb h4 hp hrk
  have hst:=Ik (P:=P) hinf c2 h4 ho (v:=.int .u8 y) rfl rfl
  have E:Ext μ S H μ S (aP H i (some (.aO te ti q (xs.set k ((rd cM xs k).1,((rd cM xs k).2.1.set p y,(rd cM xs k).2.2))) st))):=Ext.sg hHi (by simp)
  refine⟨.skip,undef,w.setRow b (cs.setIfInBounds p (.int .u8 y)),μ,by simp only[ap,hst,al,aw],.inr ⟨rfl,rfl⟩,?_,E,by simp only[Out.res,VR]⟩
  refine R.wr hm (Lc.ji hb) _ (below_setRow (nl _ _) (bi _) _) (size_setRow _ _ _) (fun k hk=>setRow_other _ _ _ _ hk) E ?_ (.inr ⟨_,_,_,_,_,rfl⟩)
  have hne:b0≠b:=fun e=>D.off k b hb (by rw[← e];exact e0)
  refine D.set hlt (fun _=>hR) (fun _=>pd) (fun j hj b' hb'=>setRow_other _ _ _ _ (fun e=>hj (D.one j k b' hb' (by rw[e];exact hb)))) ⟨b0,cs0,e0,n1,n2,by rw[setRow_other _ _ _ _ hne];exact m4,m5,?_,fun j x _ hx=>m6 j x hx⟩
  obtain⟨f0,f2,u,f1,f3,f4⟩:=m6 k _ (Mc hlt)
  exact⟨f0,f2,u,f1,f3,fun hs=>by rw[f4.1 hs];simp only[km],fun hn=>absurd hmk hn⟩
 ·simp at h
end
set_option linter.unusedVariables false
section
variable [aq]{P:Program}{w w0:World}{μ:Mu}{S:ar}{H Hh:Heap}{B:Nat}
theorem Cz (R:Rel μ S H B w0 w){i:Nat}(hi:H i=none)(t:TypeId){cs:List AV}{v:Value}(hc:aH μ S H cs v.cells.toList) :
  Rel (aP μ i (some ⟨some w.heap.size,0,aT⟩)) S (aP H i (some (.box t cs))) B w0 (w.alloc (.cells v.cells t)) ∧
  Ext μ S H (aP μ i (some ⟨some w.heap.size,0,aT⟩)) S (aP H i (some (.box t cs))) ∧
  VR (aP μ i (some ⟨some w.heap.size,0,aT⟩)) S (aP H i (some (.box t cs))) (.ptr i 0) (.pointer (some ⟨w.heap.size,0,none⟩)):=by
 have hm:μ i=none:=by
  have:=R.dom i;rw[hi] at this
  cases h:μ i with
  | none=>rfl
  | some _=>rw[h] at this;simp at this
 have E:Ext μ S H (aP μ i (some ⟨some w.heap.size,0,aT⟩)) S (aP H i (some (.box t cs))):=Ext.new hm
 have hS:S w.heap.size=none:=by
  cases h:S w.heap.size with
  | none=>rfl
  | some o=>have:=R.js h;omega
 obtain⟨h1,h2⟩:=R.new hi (.cells v.cells t) (.box t cs) ⟨some w.heap.size,0,aT⟩ rfl
  ⟨w.heap.size,v.cells,rfl,R.size,hS,alloc_heap_new _ _,dU E _ _ hc⟩
 refine⟨h1,h2,?_⟩
 simp only[VR]
 exact⟨w.heap.size,0,au _ _ _,fun o h=>by rw[au] at h;cases h;rfl,rfl⟩
omit [aq] in
theorem kV (t:TypeId)(cs:Array Value):(newRow t cs).run P w = .ok ⟨w.heap.size,0,none⟩ (w.alloc (.cells cs t)):=by
 simp only[newRow,ap,run_newObj,al,aw];rfl
theorem L5 (R:Rel μ S H B w0 w){id:Nat}{t:TypeId}{out:Out}(h:vg P id t=some out)(hf:out.fresh H=true) :
  bQ P w w0 μ S H B (do pure (.value (← Instr.alloc t true (.tuple #[])))) out:=by
 unfold vg at h
 split at h
 ·rename_i i hi
  split at h
  ·rename_i z hz
   split at h
   ·rename_i cs hcs
    cases h
    have hid:H id=none:=by simpa [Out.fresh] using hf
    have hc:=bU (jk (μ:=μ) (S:=S) (H:=H) z) hcs
    obtain⟨h1,h2,h3⟩:=Cz R hid t hc
    refine⟨_,_,_,_,?_,.inl rfl,h1,h2,h3⟩
    simp only[Instr.alloc,newVar,ap,oC hi hz,al,kV,aw]
   ·simp at h
  ·simp at h
 ·simp at h
theorem SG (R:Rel μ S H B w0 w){id:Nat}{t:TypeId}{x:AV}{v:Value}{out:Out}(hx:VR μ S H x v)(h:PF id t x=some out)(hf:out.fresh H=true) :
  bQ P w w0 μ S H B (do pure (.value (← Instr.box t v))) out:=by
 unfold PF at h
 split at h
 ·rename_i cs hcs
  cases h
  have hid:H id=none:=by simpa [Out.fresh] using hf
  obtain⟨h1,h2,h3⟩:=Cz R hid t (bU hx hcs)
  refine⟨_,_,_,_,?_,.inl rfl,h1,h2,h3⟩
  simp only[Instr.box,newVar,ap,al,kV,aw]
 ·simp at h
theorem rU (R:Rel μ S H B w0 w){i:Nat}{t:TypeId}{cs:List AV}(hi:H i=some (.box t cs)){b c:Nat}(hm:μ i=some ⟨some b,c,aT⟩) :
  ∃ vs:Array Value,w.heap[b]? = some (.cells vs t (0,0))∧aH μ S H cs vs.toList:=by
 obtain⟨l,h1,h2⟩:=R.obj i _ hi
 obtain⟨b',vs,e,_,_,h4,h5⟩:=h2
 have:l=⟨some b,c,aT⟩:=bm (h1.symm.trans hm)
 subst this
 cases e
 exact⟨vs,h4,h5⟩
theorem tJ (R:Rel μ S H B w0 w){a:Addr}{v:Value}(h:cellS S a=some v):w.cell? a=some v:=by
 unfold cellS at h
 cases hS:S a.block with
 | none=>simp[hS] at h
 | some o=>
  have:=R.st _ _ hS
  unfold World.cell?
  rw[this];rw[hS] at h;exact h
theorem Xm (R:Rel μ S H B w0 w){i:Nat}{t:TypeId}{e:Ty}{g:Nat}{xs:List e.T}(hi:H i=some (.row t e g xs)){l:Lc}(hm:μ i=some l){b:Nat}(hb:l.blk=some b){k:Nat}(hk:k<xs.length) :
  ∃ c,Rd S e (rd e xs k) c∧∀ m v,c[m]? = some v→w.cell? ⟨b,k * e.size+m,none⟩=some v:=by
 obtain⟨l',h1,h2⟩:=R.obj i _ hi
 have:l'=l:=bm (h1.symm.trans hm)
 subst this
 rcases h2.2 with h3|⟨b',cs,e1,_,_,h4,_,h6⟩
 ·rw[h3.1] at hb;simp at hb
 ·have:b'=b:=bm (e1.symm.trans hb)
  subst this
  obtain⟨c,k1,k2⟩:=h6 k (rd e xs k) (by unfold rd;rw[eQ,dk hk];rfl)
  refine⟨c,k1,fun m v hv=>?_⟩
  rw[cell_of h4];exact k2 m v hv
theorem u7 (R:Rel μ S H B w0 w){i:Nat}{t:TypeId}{e:Ty}{g:Nat}{xs:List e.T}(hi:H i=some (.row t e g xs)){l:Lc}(hm:μ i=some l){k:Nat}(hk:k<xs.length) :
  ∃ b,l.blk=some b:=by
 obtain⟨l',h1,h2⟩:=R.obj i _ hi
 have:l'=l:=bm (h1.symm.trans hm)
 subst this
 rcases h2.2 with h3|⟨b',_,e1,_⟩
 ·have:=h2.1.1;omega
 ·exact⟨b',e1⟩
theorem O2 (sub:∀ i o,Hh i=some o→H i=some o)(R:Rel μ S H B w0 w){t:TypeId}{x:AV}{v:Value}{out:Out}(hx:VR μ S H x v)(h:zj P Hh t x=some out)(hk:out.ok=true) :
  bQ P w w0 μ S H B (do pure (.value (← gn t v))) out:=by
 unfold zj at h
 split at h
 ·rename_i i off
  split at h
  ·rename_i t' cs hH
   split at h
   ·rename_i r hr
    cases h
    simp only[VR] at hx
    obtain⟨b,c,hm,_,rfl⟩:=hx
    obtain⟨vs,hb,hvs⟩:=rU R (sub _ _ hH) hm
    obtain⟨u,hu,hv⟩:=dy (P:=P) (w:=w) (ad:=⟨b,0,none⟩) hvs (fun j u hj=>by rw[aN,dt,cell_of hb];simpa using hj) hr
    rw[aN,dt] at hu
    exact aD R (by simp only[gn,eJ,ap,aw,al,hu]) hv
   ·simp at h
  ·simp at h
 ·rename_i e y off
  split at h
  ·rename_i r hr
   cases h
   simp only[VR] at hx
   obtain⟨ad,c,h1,h2,rfl⟩:=hx
   obtain⟨u,hu,hv⟩:=dy (P:=P) (w:=w) (ad:=ad) (gJ (μ:=μ) (H:=H) e y c h1) (fun j u hj=>tJ R (h2 j u hj)) hr
   exact aD R (by simp only[gn,eJ,ap,aw,al,hu]) hv
  ·simp at h
 ·rename_i i g k off
  split at h
  ·rename_i t' e g' xs hH
   cases hg:be g g' with
   | false=>rw[hg] at h;simp at h
   | true=>
    rw[hg] at h
    simp only[cond_true] at h
    split at h
    ·rename_i r hr
     cases h
     have hlt:k<xs.length:=by simpa [Out.ok] using hk
     have hgg:=ae hg
     simp only[VR] at hx
     obtain⟨_,l,hm,h2⟩:=hx
     obtain⟨b,hb,rfl⟩:=(h2 _ _ _ _ (sub _ _ hH)).2 hgg
     obtain⟨c,k1,k2⟩:=Xm R (sub _ _ hH) hm hb hlt
     obtain⟨u,hu,hv⟩:=dy (P:=P) (w:=w) (ad:=⟨b,k * e.size,none⟩) (gJ (μ:=μ) (H:=H) e _ c k1) (fun j u hj=>by rw[aN];exact k2 j u hj) hr
     rw[aN] at hu
     exact aD R (by simp only[gn,eJ,ap,aw,al,hu]) hv
    ·simp at h
  ·simp at h
 ·exact Mh sub R hx h hk
omit [aq] in
theorem pI {cs c:List AV}{vs us:List Value}(h:aH μ S H cs vs)(h':aH μ S H c us)(off:Nat):aH μ S H (splice cs off c) (vs.take off++us++vs.drop (off+us.length)):=by
 unfold splice
 rw[aU h']
 exact cl (cl (qa _ h) h') (qH _ h)
omit [aq] in
theorem vX {t:Ty}{as:List AV}{vs:List Value}{x:t.T}{r:List AV}(hv:aH μ S H as vs)(h:dec gr t as=some (x,r)) :
  ∃ cs us,vs=cs++us∧Rd S t x cs∧aH μ S H r us:=
 oM (Hh:=gr) (fun b o h=>h) dP.no (fun i o h=>by simp[gr] at h) t as vs x r hv h
omit [aq] in
theorem sU {t:Ty}{as:List AV}{vs:List Value}{x:t.T}(hv:aH μ S H as vs)(h:pu gr t as=some x):Rd S t x vs:=by
 unfold pu at h
 split at h
 ·rename_i y hd
  cases h
  obtain⟨cs,us,rfl,h2,h3⟩:=vX hv hd
  simp only[aH] at h3
  subst h3
  simpa using h2
 ·simp at h
omit [aq] in
theorem ef {α:Type}(l u:List α)(p q:Nat)(hp:p+u.length≤l.length) :
  (l.take p++u++l.drop (p+u.length))[q]? = if q<p then l[q]? else if q<p+u.length then u[q-p]? else l[q]?:=by
 have h1:(l.take p).length=p:=by simp;omega
 by_cases a:q<p
 ·rw[if_pos a,ly,fa (by omega),dv,if_pos a]
 ·rw[if_neg a,ly,fx (by omega),h1]
  by_cases b:q<p+u.length
  ·rw[if_pos b,fa (by omega)]
  ·rw[if_neg b,fx (by omega),ft]
   congr 1;omega
theorem KN (sub:∀ i o,Hh i=some o→H i=some o)(R:Rel μ S H B w0 w){t:TypeId}{a x:AV}{va v:Value}{out:Out}(ha:VR μ S H a va)(hx:VR μ S H x v)(h:py P Hh t a x=some out)(hk:out.ok=true) :
  bQ P w w0 μ S H B (do kb t va v;pure .skip) out:=by
 unfold py at h
 split at h
 ·rename_i i off
  split at h
  ·rename_i t' cs hH
   split at h
   ·rename_i c inf hc hinf
    obtain⟨hcond,rfl⟩:=ai h
    simp only[ba] at hcond
    obtain⟨⟨c1,c2⟩,c3⟩:=hcond
    have c1:=ae c1
    have c2:=eI c2
    simp only[VR] at ha
    obtain⟨b,cc,hm,_,rfl⟩:=ha
    have hHi:=sub _ _ hH
    obtain⟨vs,hb,hvs⟩:=rU R hHi hm
    have hus:=bU hx hc
    have hl1:=aU hus
    have hl2:=aU hvs
    simp only[cf] at hl1 hl2
    have hst:=run_storeCells_at (P:=P) b off t' v.cells.toList 0 vs w hb (by simp;omega) (j4 hus c3)
    have E:Ext μ S H μ S (aP H i (some (.box t' (splice cs off c)))):=Ext.box hHi
    have hB:=R.ge hm rfl
    refine⟨.skip,undef,w.setRow b (vs.toList.take off++v.cells.toList++vs.toList.drop (off+v.cells.toList.length)).toArray,μ,?_,.inr ⟨rfl,rfl⟩,?_,E,by simp only[Out.res,VR]⟩
    ·simp only[jn] at hst
     have hsz:¬ (v.cells.size≠inf.size):=by omega
     simp only[kb,eJ,storeVar,ap,aw,al,cS hinf,ee,if_neg hsz,hst]
    ·refine R.wr hm (.inl rfl) _ (below_setRow (nl _ _) (bi _) _) (size_setRow _ _ _) (fun k hk=>setRow_other _ _ _ _ hk) E ?_ (.inl rfl)
     refine⟨b,_,rfl,hB.1,hB.2,setRow_heap _ _ _ _ _ _ hb,?_⟩
     rw[gk]
     exact dU E _ _ (pI hvs hus off)
   ·simp at h
  ·simp at h
 ·rename_i i g k off
  split at h
  ·rename_i te e g' xs hH
   split at h
   ·rename_i c inf hc hinf
    split at h
    ·rename_i y hy
     obtain⟨hcond,rfl⟩:=ai h
     simp only[ba] at hcond
     obtain⟨⟨⟨c0,c1⟩,c2⟩,c3⟩:=hcond
     have c0:=ae c0
     have c1:=ae c1
     have c2:=eI c2
     have hlt:k<xs.length:=by simpa [Out.ok] using hk
     have hHi:=sub _ _ hH
     simp only[VR] at ha
     obtain⟨_,l,hm,h2⟩:=ha
     obtain⟨b,hb,rfl⟩:=(h2 _ _ _ _ hHi).2 c0
     have hB:=R.ge hm hb
     obtain⟨l',h1,hO⟩:=R.obj i _ hHi
     have hll:l'=l:=bm (h1.symm.trans hm)
     subst hll
     rcases hO.2 with h3|⟨b',cs,e1,q1,q2,h4,h5,h6⟩
     ·rw[h3.1] at hb;simp at hb
     have hbb:b'=b:=bm (e1.symm.trans hb)
     subst hbb
     have hus:=bU hx hc
     have hl1:=aU hus
     simp only[cf] at hl1
     have hk1:(k+1) * e.size≤l'.cap * e.size:=dj _ (by have:=hO.1.1;omega)
     rw[dp,im] at hk1
     have hst:=run_storeCells_at (P:=P) b' (k * e.size+off) te v.cells.toList 0 cs w h4 (by simp;omega) (j4 hus c3)
     have E:Ext μ S H μ S (aP H i (some (.row te e g' (xs.set k y)))):=Ext.nF hHi (by simp)
     obtain⟨p0,k1,k2⟩:=h6 k (rd e xs k) (by unfold rd;rw[eQ,dk hlt];rfl)
     have hp0:=b7 _ _ _ k1
     have hRy:Rd S e y (p0.take off++v.cells.toList++p0.drop (off+v.cells.toList.length)):=sU (pI (gJ (μ:=μ) (H:=H) e _ p0 k1) hus off) hy
     have hvl:v.cells.toList.length=c.length:=by simp;omega
     refine⟨.skip,undef,w.setRow b' (cs.toList.take (k * e.size+off)++v.cells.toList++cs.toList.drop (k * e.size+off+v.cells.toList.length)).toArray,μ,?_,.inr ⟨rfl,rfl⟩,?_,E,by simp only[Out.res,VR]⟩
     ·simp only[jn] at hst
      have hsz:¬ (v.cells.size≠inf.size):=by omega
      simp only[kb,eJ,storeVar,ap,aw,al,cS hinf,ee,if_neg hsz,hst]
     ·have hcl:cs.toList.length=cs.size:=cf
      have hfits:k * e.size+off+v.cells.toList.length≤cs.toList.length:=by omega
      refine R.wr hm (.inl e1) _ (below_setRow (nl _ _) (bi _) _) (size_setRow _ _ _) (fun k hk=>setRow_other _ _ _ _ hk) E ?_ (.inl (R.iX hm hHi))
      refine⟨⟨by rw[km];exact hO.1.1,hO.1.2⟩,.inr ⟨b',_,e1,q1,q2,setRow_heap _ _ _ _ _ _ h4,?_,fun j x' hj=>?_⟩⟩
      ·simp only[List.size_toArray,fj,gl,ml]
       omega
      ·simp only[List.getElem?_toArray]
       by_cases ej:j=k
       ·subst ej
        rw[dE hlt] at hj
        cases hj
        refine⟨_,hRy,fun m u hm'=>?_⟩
        rw[ef _ _ _ _ (by omega)] at hm'
        rw[ef _ _ _ _ hfits]
        by_cases m1:m<off
        ·rw[if_pos m1] at hm'
         rw[if_pos (by omega),gg]
         exact k2 m u hm'
        ·rw[if_neg m1] at hm'
         rw[if_neg (by omega)]
         by_cases m2:m<off+v.cells.toList.length
         ·rw[if_pos m2] at hm'
          rw[if_pos (by omega),← hm'];congr 1;omega
         ·rw[if_neg m2] at hm'
          rw[if_neg (by omega),gg]
          exact k2 m u hm'
       ·rw[fg (pa ej)] at hj
        obtain⟨q,r1,r2⟩:=h6 j x' hj
        refine⟨q,r1,fun m u hm'=>?_⟩
        have hql:=b7 _ _ _ r1
        have hmq:m<e.size:=by
         rw[← hql]
         exact (db.1 hm').1
        have:=r2 m u hm'
        rw[ef _ _ _ _ hfits,gg]
        by_cases hjk:j<k
        ·have:(j+1) * e.size≤k * e.size:=dj _ hjk
         rw[dp,im] at this
         rw[if_pos (by omega)];assumption
        ·have:(k+1) * e.size≤j * e.size:=dj _ (by omega)
         rw[dp,im] at this
         rw[if_neg (by omega),if_neg (by omega)];assumption
    ·simp at h
   ·simp at h
  ·simp at h
 ·exact I0 sub R ha hx h hk
omit [aq] in
theorem nN {s:TypeId}{fields:Array Field}{f:Nat}{fl:Field}{ti:TypeInfo}(hs:P.underlying s=some (.struct fields))(hf:fields[f]? = some fl)(hi:P.info? fl.type=some ti)(h0:be ti.size 0=false)(ad:Addr) :
  (pj s (.pointer (some ad)) f).run P w = .ok (.pointer (some (ad.add fl.offset))) w:=by
 have hz:¬ ti.size=0:=fun e=>by rw[e] at h0;simp at h0
 simp only[pj,ap,aI hs,al,hf,eJ,aw,fieldPlace,cS hi,ee,if_neg hz]
theorem Mb (sub:∀ i o,Hh i=some o→H i=some o)(R:Rel μ S H B w0 w){s:TypeId}{x:AV}{f:Nat}{v:Value}{out:Out}(hx:VR μ S H x v)(h:pJ P Hh s x f=some out) :
  bQ P w w0 μ S H B (do pure (.value (← pj s v f))) out:=by
 unfold pJ at h
 split at h
 ·rename_i fields hs
  split at h
  ·rename_i fl hf
   split at h
   ·rename_i ti hi
    cases h0:be ti.size 0 with
    | true=>rw[h0] at h;simp at h
    | false=>
     rw[h0] at h
     simp only[cond_false] at h
     split at h
     ·rename_i i off
      cases h
      simp only[VR] at hx
      obtain⟨b,c,hm,hr,rfl⟩:=hx
      refine aD R (nN hs hf hi h0 _) ?_
      rw[aN];simp only[VR];exact⟨b,c,hm,hr,rfl⟩
     ·rename_i e y off
      cases h
      simp only[VR] at hx
      obtain⟨ad,c,h1,h2,rfl⟩:=hx
      refine aD R (nN hs hf hi h0 _) ?_
      rw[add_add];simp only[VR];exact⟨ad,c,h1,h2,rfl⟩
     ·rename_i i g k off
      split at h
      ·rename_i t e g' xs hH
       obtain⟨hg,rfl⟩:=ai h
       have hgg:=ae hg
       have hx0:=hx
       simp only[VR] at hx
       obtain⟨_,l,hm,h2⟩:=hx
       obtain⟨b,hb,rfl⟩:=(h2 _ _ _ _ (sub _ _ hH)).2 hgg
       refine aD R (nN hs hf hi h0 _) ?_
       rw[aN]
       simp only[VR]
       refine⟨⟨_,rfl⟩,l,hm,fun t1 e1 g1 xs1 hH1=>?_⟩
       have e0:H i=some (.row t e g' xs):=sub _ _ hH
       rw[e0] at hH1
       injection hH1 with hH1
       injection hH1 with k1 k2 k3 k4
       subst k2 k3
       exact⟨by omega,fun _=>⟨b,hb,by rw[ik]⟩⟩
      ·simp at h
     ·rename_i i k off
      split at h
      ·rename_i te ti q xs st hH
       cases h
       simp only[VR] at hx
       obtain⟨_,l,hm,h2⟩:=hx
       obtain⟨b,hb,rfl⟩:=h2 _ _ _ _ _ (sub _ _ hH)
       refine aD R (nN hs hf hi h0 _) ?_
       rw[aN]
       simp only[VR]
       exact⟨⟨_,rfl⟩,l,hm,fun _ _ _ _ _ _=>⟨b,hb,by rw[ik]⟩⟩
      ·simp at h
     ·simp at h
   ·simp at h
  ·simp at h
 ·simp at h
theorem Px (R:Rel μ S H B w0 w){s:TypeId}{x:AV}{f:Nat}{v:Value}{out:Out}(hx:VR μ S H x v)(h:yu P s x f=some out) :
  bQ P w w0 μ S H B (do pure (.value (← Instr.field s v f))) out:=by
 unfold yu at h
 split at h
 ·rename_i fields hs
  split at h
  ·rename_i fl hf
   split at h
   ·rename_i cs
    split at h
    ·rename_i r hr
     cases h
     simp only[VR] at hx
     obtain⟨vs,rfl,hvs⟩:=hx
     obtain⟨u,hu,hv⟩:=l6 (P:=P) (w:=w) hvs hr
     exact aD R (by simp only[Instr.field,ap,aI hs,al,hf,asAgg,aw,hu]) hv
    ·simp at h
   ·simp at h
  ·simp at h
 ·simp at h
theorem Tu (sub:∀ i o,Hh i=some o→H i=some o)(R:Rel μ S H B w0 w){ρ:Operand→Value}{X:Operand}{x:AV}{out:Out}{dst:Option Tmp}{ty:TypeId}{pos:String}{af:Array Edge}{gd:Option (Nat×Bool)}(hx:VR μ S H x (ρ X))(h:K9 Hh x=some out) :
  bQ P w w0 μ S H B (execOp ρ ⟨dst,.nilCheck X,ty,pos,af,gd⟩) out:=by
 have key:∀ {c:Bool} {v:AV},(execOp ρ ⟨dst,.nilCheck X,ty,pos,af,gd⟩)=pure (.value (ρ X))→VR μ S H v (ρ X)→bQ P w w0 μ S H B (execOp ρ ⟨dst,.nilCheck X,ty,pos,af,gd⟩) (.val c v):=by
  intro c v he hv
  exact⟨_,_,w,μ,by rw[he];rfl,.inl rfl,R,Ext.refl,hv⟩
 unfold K9 at h
 split at h
 ·cases h
  have hx0:=hx
  simp only[VR] at hx
  obtain⟨b,c,_,_,e⟩:=hx
  exact key (by simp only[execOp,e]) hx0
 ·cases h
  have hx0:=hx
  simp only[VR] at hx
  obtain⟨_,_,_,_,e⟩:=hx
  exact key (by simp only[execOp,e]) hx0
 ·rename_i i g k off
  split at h
  ·rename_i t e g' xs hH
   obtain⟨hg,rfl⟩:=ai h
   have hgg:=ae hg
   have hx0:=hx
   simp only[VR] at hx
   obtain⟨_,l,hm,h2⟩:=hx
   obtain⟨b,hb,e⟩:=(h2 _ _ _ _ (sub _ _ hH)).2 hgg
   exact key (by simp only[execOp,e]) hx0
  ·simp at h
 ·rename_i i k off
  split at h
  ·rename_i te ti q xs st hH
   cases h
   have hx0:=hx
   simp only[VR] at hx
   obtain⟨_,l,hm,h2⟩:=hx
   obtain⟨b,hb,e⟩:=h2 _ _ _ _ _ (sub _ _ hH)
   exact key (by simp only[execOp,e]) hx0
  ·simp at h
 ·cases h
  have hx0:=hx
  simp only[VR] at hx
  obtain⟨a,b,e,_⟩:=hx
  exact key (by simp only[execOp,e]) hx0
 ·cases h
  have hx0:=hx
  simp only[VR] at hx
  exact key (by simp only[execOp,hx]) hx0
 ·simp at h
omit [aq] in
theorem GS {g:TypeId→AV→AV→Option Bool}{d:Nat}(hg:∀ t x y r a b,g t x y=some r→VR μ S H x a→VR μ S H y b→(o0 d t a b).run P w = .ok r w)
  {xs ys:List AV} {us vs:Array Value} (hx:aH μ S H xs us.toList) (hy:aH μ S H ys vs.toList):∀ {fs:List Field} {r:Bool},Zt P g xs ys fs=some r→(pc d us vs fs).run P w = .ok r w
 | [],r,h=>by
  simp only[Zt,bj] at h
  subst h;simp[pc]
 | f::fs,r,h=>by
  simp only[Zt] at h
  split at h
  ·rename_i hn
   have hn':¬ (f.name ≠ "_"):=by simpa using hn
   rw[pc,if_neg hn']
   exact GS hg hx hy h
  ·rename_i hn
   have hn':f.name ≠ "_" := by simpa using hn
   split at h
   case h_2=>simp at h
   rename_i a b ha hb
   split at h
   case h_2=>simp at h
   rename_i r1 s1 h1 h2
   cases h
   obtain⟨u,ku,ru⟩:=l6 (P:=P) (w:=w) hx ha
   obtain⟨v,kv,rv⟩:=l6 (P:=P) (w:=w) hy hb
   have he:=hg _ _ _ _ _ _ h1 ru rv
   have hr:=GS hg hx hy h2
   rw[pc]
   simp only[if_pos hn',ap,ku,kv,he,al]
   cases r1
   ·simp
   ·simpa using hr
omit [aq] in
theorem G9:∀ (n d:Nat) (t:TypeId) (x y:AV) (r:Bool) (a b:Value),n≤d→TL P n t x y=some r→VR μ S H x a→VR μ S H y b→(o0 d t a b).run P w = .ok r w
 | 0,d,t,x,y,r,a,b,hd,h,hx,hy=>by simp[TL] at h
 | n+1,d,t,x,y,r,a,b,hd,h,hx,hy=>by
  obtain⟨d,rfl⟩:∃ e,d=e+1:=⟨d-1,by omega⟩
  simp only[TL] at h
  unfold eqV at h
  split at h
  ·simp only[VR] at hx hy;subst hx hy
   split at h
   case h_2=>simp at h
   rename_i ht
   cases h
   exact run_equalIn_bool' w d t _ _ ht
  ·simp only[VR] at hx hy;subst hx hy
   split at h
   case h_2=>simp at h
   rename_i ht
   obtain⟨hk,rfl⟩:=ai h
   simp only[decide_eq_true_eq] at hk
   subst hk
   rw[run_equalIn_int w d t _ _ _ _ ht]
   rfl
  ·simp only[VR] at hx hy;subst hx hy
   split at h
   case h_2=>simp at h
   rename_i ht
   cases h
   exact run_equalIn_string w d t _ _ ht
  ·split at h
   case h_2=>simp at h
   rename_i fs ht
   obtain⟨hp,h⟩:=cu h
   simp only[VR] at hx hy
   obtain⟨us,rfl,hu⟩:=hx
   obtain⟨vs,rfl,hv⟩:=hy
   have hf:P.fieldsOf t=fs:=by simp[Program.fieldsOf,ht]
   rw[run_equalIn_struct (P:=P) w d t us vs (by rw[hf];exact ht) hp,hf]
   exact GS (fun t x y r a b h1 h2 h3=>G9 n d t x y r a b (by omega) h1 h2 h3) hu hv h
  ·simp at h
theorem SW (R:Rel μ S H B w0 w){op:BinOp}{t:TypeId}{X Y:Operand}{x y:AV}{a b:Value}{out:Out}(hx:VR μ S H x a)(hy:VR μ S H y b)(h:KH P op t x y=some out)(hk:out.ok=true) :
  bQ P w w0 μ S H B (do pure (.value (← (do eqGuard op t X Y a b;binOp op t a b)))) out:=by
 unfold KH at h
 split at h
 ·rename_i a' b'
  split at h
  ·rename_i c v hb
   cases h
   simp only[VR] at hx hy
   subst hx hy
   have hc:c=true:=hk
   subst hc
   exact aD R (Lv hb) (by simp only[VR])
  ·simp at h
 ·rename_i xs ys
  obtain⟨hgd,h⟩:=cu h
  split at h
  case h_2=>simp at h
  rename_i r hr
  have he:=G9 (P:=P) (w:=w) 9 Op.maxDepth t _ _ r a b (by decide) hr hx hy
  have hx0:=hx
  have hy0:=hy
  simp only[VR] at hx0 hy0
  obtain⟨us,rfl,_⟩:=hx0
  obtain⟨vs,rfl,_⟩:=hy0
  have he':(o0 10000 t (.agg us) (.agg vs)).run P w = .ok r w:=he
  split at h
  ·cases h
   refine aD R (u:=.bool r) ?_ (by simp only[Out.res,VR])
   simp only[ap,run_eqGuard_agg w .eql t X Y us vs hgd,al,run_eql_struct,he']
  ·cases h
   refine aD R (u:=.bool (!r)) ?_ (by simp only[Out.res,VR])
   simp only[ap,run_eqGuard_agg w .neq t X Y us vs hgd,al,run_neq_struct,he']
  ·simp at h
 ·rename_i u x
  split at h
  case h_2=>simp at h
  rename_i ms ht
  simp only[VR] at hx hy
  obtain⟨v,rfl,_⟩:=hx
  subst hy
  have hm:P.underlying t=some (.interface (P.methodsAt t)):=by simp[np,ht]
  split at h
  ·cases h
   refine aD R (u:=.bool false) ?_ (by simp only[Out.res,VR])
   have he:(eqGuard .eql t X Y (.iface u v) .nilIface).run P w = .ok () w:=rfl
   simp only[he,ap,aw,al,run_eql_held_nil w t u v hm]
  ·cases h
   refine aD R (u:=.bool true) ?_ (by simp only[Out.res,VR])
   have he:(eqGuard .neq t X Y (.iface u v) .nilIface).run P w = .ok () w:=rfl
   simp only[he,ap,aw,al,run_neq_held_nil w t u v hm]
  ·simp at h
 ·simp at h
theorem SD (R:Rel μ S H B w0 w){t:TypeId}{x:AV}{a:Value}{out:Out}(hx:VR μ S H x a)(h:Ni P t x=some out) :
  bQ P w w0 μ S H B (do pure (.value (← Instr.makeInterface t a))) out:=by
 unfold Ni at h
 obtain⟨hc,rfl⟩:=ai h
 refine aD R (u:=.iface t a) ?_ (by simp only[Out.res,VR];exact⟨a,rfl,hx⟩)
 simp only[ap,run_makeInterface w t a hc,al,aw]
omit [aq] in
theorem FP {t s:TypeId}{v:Value}(hc:P.concrete t=true):(nz (.iface t v) s t false).run P w = .ok v w:=by
 unfold Program.concrete at hc
 unfold nz
 cases hu:P.underlying t with
 | none=>rw[hu] at hc;simp at hc
 | some d=>
  rw[hu] at hc
  cases d<;>simp_all [run_underlying hu]
theorem Gw (R:Rel μ S H B w0 w){s t:TypeId}{ok:Bool}{x:AV}{a:Value}{out:Out}(hx:VR μ S H x a)(h:qM P t ok x=some out) :
  bQ P w w0 μ S H B (do pure (.value (← nz a s t ok))) out:=by
 unfold qM at h
 split at h
 case h_2=>simp at h
 obtain⟨hc,rfl⟩:=ai h
 simp only[ba] at hc
 have ht:=ae hc.1
 subst ht
 simp only[VR] at hx
 obtain⟨u,rfl,hu⟩:=hx
 refine aD R (u:=u) ?_ hu
 simp only[ap,FP hc.2,al,aw]
theorem Zk (R:Rel μ S H B w0 w){op:UnOp}{x:AV}{a:Value}{out:Out}(hx:VR μ S H x a)(h:ZE op x=some out) :
  bQ P w w0 μ S H B (do pure (.value (← Op.unary op a))) out:=by
 unfold ZE at h
 split at h
 ·simp only[VR] at hx;subst hx
  split at h
  ·cases h;exact aD R rfl (by simp only[Out.res,VR])
  ·simp at h
 ·simp only[VR] at hx;subst hx
  split at h
  ·cases h;exact aD R rfl (by simp only[Out.res,VR])
  ·cases h;exact aD R rfl (by simp only[Out.res,VR,aG])
  ·simp at h
 ·simp at h
theorem Rn (R:Rel μ S H B w0 w){s d:TypeId}{x:AV}{a:Value}{out:Out}(hx:VR μ S H x a)(h:Fc P s d x=some out) :
  bQ P w w0 μ S H B (do pure (.value (← convert s d a))) out:=by
 unfold Fc at h
 split at h
 ·rename_i k0 n
  simp only[VR] at hx;subst hx
  split at h
  ·rename_i _ _ ds k h1 h2
   cases h
   refine aD R (u:=.int k (k.wrap n)) ?_ (by simp only[Out.res,VR])
   simp only[convert,ap,aI h1,aI h2,al]
   cases ds<;>rfl
  ·simp at h
 ·rename_i n
  simp only[VR] at hx;subst hx
  split at h
  ·rename_i _ _ ds h1 h2
   cases h
   refine aD R (u:=.string n) ?_ (by simp only[Out.res,VR])
   simp only[convert,ap,aI h1,aI h2,al]
   cases ds<;>rfl
  ·simp at h
 ·simp at h
theorem T9 (R:Rel μ S H B w0 w){i:Nat}{x:AV}{a:Value}{out:Out}(hx:VR μ S H x a)(h:Mf x i=some out) :
  bQ P w w0 μ S H B (do pure (.value (← Instr.extract a i))) out:=by
 unfold Mf at h
 split at h
 ·rename_i vs
  split at h
  ·rename_i v hv
   cases h
   simp only[VR] at hx
   obtain⟨us,rfl,hus⟩:=hx
   obtain⟨u,hu,hr⟩:=uC hus i v hv
   have hu':us[i]? = some u:=by simpa using hu
   exact aD R (by simp only[Instr.extract,hu',aw]) hr
  ·simp at h
 ·simp at h
omit [aq] in
theorem aab (s:ByteArray){i:Int}(h0:0≤i)(h1:i<(s.size:Int)):∃ b:UInt8,s[i.toNat]? = some b∧(b.toNat:Int)=bt s i:=by
 have h2:i.toNat<s.size:=by omega
 refine⟨s[i.toNat],by simp[h2],?_⟩
 simp[bt,h2]
theorem K2 (R:Rel μ S H B w0 w){t:TypeId}{x y:AV}{a b:Value}{out:Out}(hx:VR μ S H x a)(hy:VR μ S H y b)(h:rS P t x y=some out)(hk:out.ok=true) :
  bQ P w w0 μ S H B (do pure (.value (← pD t a b))) out:=by
 unfold rS at h
 split at h
 ·rename_i s k i
  split at h
  ·rename_i ht
   cases h
   simp only[VR] at hx hy;subst hx hy
   simp only[Out.ok,ba,decide_eq_true_eq] at hk
   obtain⟨c,hc,hb⟩:=aab s hk.1 hk.2
   refine aD R (u:=.int .u8 (bt s i)) ?_ (by simp only[VR])
   simp only[pD,ap,asIntOf,aw,al,aI ht,if_pos hk.1,hc,hb]
  ·simp at h
 ·rename_i cs k i
  simp only[VR] at hx hy
  subst hy
  obtain⟨vs,rfl,hvs⟩:=hx
  split at h
  ·rename_i n el ht
   split at h
   ·rename_i inf hinf
    split at h
    ·rename_i v hcut
     cases h
     simp only[Out.ok,ba,decide_eq_true_eq] at hk
     obtain⟨u,hu,hv⟩:=l6 (P:=P) (w:=w) hvs hcut
     refine aD R (u:=u) ?_ hv
     simp only[pD,ap,asIntOf,aw,al,aI ht,if_pos hk,ee,cS hinf,hu]
    ·simp at h
   ·simp at h
  ·simp at h
 ·simp at h
theorem WL (sub:∀ i o,Hh i=some o→H i=some o)(R:Rel μ S H B w0 w){t:TypeId}{x y:AV}{a b:Value}{out:Out}(hx:VR μ S H x a)(hy:VR μ S H y b)(h:ZB P Hh t x y=some out)(hk:out.ok=true) :
  bQ P w w0 μ S H B (do pure (.value (← eK t a b))) out:=by
 unfold ZB at h
 split at h
 ·rename_i k i
  simp only[VR] at hy;subst hy
  split at h
  ·rename_i el ht
   split at h
   ·rename_i inf hinf
    split at h
    ·rename_i e xs
     obtain⟨hsz,rfl⟩:=ai h
     have hsz:=ae hsz
     simp only[Out.ok,ba,decide_eq_true_eq] at hk
     simp only[VR,Rd] at hx
     obtain⟨ao,cap,e1,h2,h3⟩:=hx
     cases e1
     have hlt:i.toNat<xs.length:=by omega
     obtain⟨ad,c,rfl,k1,k2⟩:=h3 i.toNat (rd e xs i.toNat) (by unfold rd;rw[eQ,dk hlt];rfl)
     refine aD R (u:=.pointer (some (ad.add (i.toNat * inf.size)))) ?_ ?_
     ·simp only[eK,ap,asIntOf,aw,al,aI ht,if_pos hk,ee,cS hinf]
     ·simp only[VR]
      exact⟨ad.add (i.toNat * inf.size),c,k1,fun m u hm=>by rw[add_add,hsz];exact k2 m u hm,by rw[add_zero]⟩
    ·rename_i j g
     split at h
     ·rename_i t' e g' xs hH
      obtain⟨hc,rfl⟩:=ai h
      simp only[ba] at hc
      have hgg:=ae hc.1
      have hsz:=ae hc.2
      simp only[Out.ok,ba,decide_eq_true_eq] at hk
      have hlt:i.toNat<xs.length:=by omega
      simp only[VR] at hx
      obtain⟨_,l,hm,h2⟩:=hx
      have hHj:=sub _ _ hH
      have hv:=(h2 _ _ _ _ hHj).2 hgg
      subst hv
      obtain⟨b,hb⟩:=u7 R hHj hm hlt
      have hl:l.addr=some ⟨b,0,none⟩:=by simp[Lc.addr,hb]
      refine aD R (u:=.pointer (some ⟨b,i.toNat * e.size,none⟩)) ?_ ?_
      ·simp only[eK,ap,asIntOf,aw,al,aI ht,if_pos hk,ee,cS hinf,hl,aN,dt,hsz]
      ·simp only[VR]
       refine⟨⟨_,rfl⟩,l,hm,fun t1 e1 g1 xs1 hH1=>?_⟩
       rw[hHj] at hH1
       injection hH1 with hH1
       injection hH1 with k1 k2 k3 k4
       subst k2 k3
       exact⟨by omega,fun _=>⟨b,hb,rfl⟩⟩
     ·simp at h
    ·simp at h
   ·simp at h
  ·simp at h
 ·simp at h
end
theorem aA {α:Type}{c:Bool}{a:Option α}{b:α}(h:cond c a none=some b):c=true∧a=some b:=by
 cases c<;>simp_all
def gY (S:ar)(e:Ty):List e.T→List Value→Prop
 | [],cs=>cs=[]
 | x::xs,cs=>∃ c d,cs=c++d∧Rd S e x c∧gY S e xs d
theorem mS {S:ar}:∀ (t:Ty) (x:t.T) (cs:List Value),Rd S t x cs→∀ v∈cs,v.oneCell'=true
 | .int _,_,_,hr,v,hv=>by cases hr;simp at hv;subst hv;rfl
 | .bool,_,_,hr,v,hv=>by cases hr;simp at hv;subst hv;rfl
 | .str,_,_,hr,v,hv=>by cases hr;simp at hv;subst hv;rfl
 | .row e,xs,cs,hr,v,hv=>by obtain⟨a,cap,rfl,_,_⟩:=hr;simp at hv;subst hv;rfl
 | .pair a b,x,cs,hr,v,hv=>by
  obtain⟨c,d,rfl,h2,h3⟩:=hr
  rcases List.mem_append.1 hv with h|h
  ·exact mS a _ _ h2 v h
  ·exact mS b _ _ h3 v h
 | .one a,x,cs,hr,v,hv=>mS a x cs hr v hv
 | .CQ _,_,_,hr,v,hv=>by cases hr;simp at hv;subst hv;rfl
 | .nil,_,_,hr,v,hv=>by cases hr;simp at hv;subst hv;rfl
section
variable [aq]{S:ar}{e:Ty}
omit [aq] in
theorem bz:∀ {xs:List e.T} {cs:List Value},gY S e xs cs→cs.length=xs.length * e.size
 | [],cs,h=>by simp only[gY] at h;subst h;simp
 | x::xs,cs,h=>by
  obtain⟨c,d,rfl,h1,h2⟩:=h
  rw[fj,b7 _ _ _ h1,bz h2,List.length_cons,dp];omega
omit [aq] in
theorem kF:∀ {xs ys:List e.T} {cs ds:List Value},gY S e xs cs→gY S e ys ds→gY S e (xs++ys) (cs++ds)
 | [],ys,cs,ds,h,h'=>by simp only[gY] at h;subst h;simpa using h'
 | x::xs,ys,cs,ds,h,h'=>by
  obtain⟨c,d,rfl,h1,h2⟩:=h
  exact⟨c,d++ds,by rw[ly],h1,kF h2 h'⟩
omit [aq] in
theorem iU:∀ {xs:List e.T} {cs:List Value},gY S e xs cs→∀ v∈cs,v.oneCell'=true
 | [],cs,h,v,hv=>by simp only[gY] at h;subst h;simp at hv
 | x::xs,cs,h,v,hv=>by
  obtain⟨c,d,rfl,h1,h2⟩:=h
  rcases List.mem_append.1 hv with h|h
  ·exact mS _ _ _ h1 v h
  ·exact iU h2 v h
omit [aq] in
theorem uR:∀ {xs:List e.T} {cs:List Value},gY S e xs cs→∀ (j:Nat) (x:e.T),xs[j]? = some x→∃ c,Rd S e x c∧∀ m v,c[m]? = some v→cs[j * e.size+m]? = some v
 | [],cs,h,j,x,hj=>by simp at hj
 | y::xs,cs,h,j,x,hj=>by
  obtain⟨c,d,rfl,h1,h2⟩:=h
  have hl:=b7 _ _ _ h1
  cases j with
  | zero=>
   simp only[List.getElem?_cons_zero,bj] at hj
   subst hj
   refine⟨c,h1,fun m v hm=>?_⟩
   rw[pC,dt,fa (db.1 hm).1];exact hm
  | succ j=>
   obtain⟨c',k1,k2⟩:=uR h2 j x (by simpa using hj)
   refine⟨c',k1,fun m v hm=>?_⟩
   rw[dp,im,fx (by omega),← k2 m v hm]
   congr 1;omega
omit [aq] in
theorem fG:∀ {xs:List e.T} (f:Nat→Option Value),(∀ (j:Nat) (x:e.T),xs[j]? = some x→∃ c,Rd S e x c∧∀ m v,c[m]? = some v→f (j * e.size+m)=some v) →
  ∃ cs,gY S e xs cs∧∀ (j:Nat) (u:Value),cs[j]? = some u→f j=some u
 | [],f,h=>⟨[],rfl,fun j u hj=>by simp at hj⟩
 | x::xs,f,h=>by
  obtain⟨c,h1,h2⟩:=h 0 x rfl
  have hl:=b7 _ _ _ h1
  obtain⟨d,k1,k2⟩:=fG (xs:=xs) (fun n=>f (e.size+n)) (fun j y hj=>by
   obtain⟨c',q1,q2⟩:=h (j+1) y (by simpa using hj)
   refine⟨c',q1,fun m v hm=>?_⟩
   have:=q2 m v hm
   rw[dp,im] at this
   rw[← this];congr 1;omega)
  refine⟨c++d,⟨c,d,rfl,h1,k1⟩,fun j u hj=>?_⟩
  by_cases hjc:j<c.length
  ·rw[fa hjc] at hj
   have:=h2 j u hj
   rwa [pC,dt] at this
  ·rw[fx (by omega)] at hj
   have:=k2 _ u hj
   rw[← this];congr 1;omega
omit [aq] in
theorem tK {α:Type}{cs l:List α}(h:∀ (j:Nat) (u:α),l[j]? = some u→cs[j]? = some u):cs.take l.length=l:=by
 apply List.ext_getElem?
 intro j
 rw[dv]
 by_cases hj:j<l.length
 ·rw[if_pos hj,dk hj]
  exact h j _ (dk hj)
 ·rw[if_neg hj,il (by omega)]
omit [aq] in
theorem fY {x:e.T}{c:List Value}(h:Rd S e x c):∀ n,gY S e (dd n x) (dd n c).flatten
 | 0=>rfl
 | n+1=>by
  rw[ka,ka,lA]
  exact⟨c,_,rfl,h,fY h n⟩
end
theorem s5 {α:Type}(f:Nat→α)(sz:Nat)(hf:∀ n i,i<sz→f (n * sz+i)=f i):∀ n,(pk (n * sz)).map f=(dd n ((pk sz).map f)).flatten
 | 0=>by simp
 | n+1=>by
  rw[dp,im,List.range_add,List.map_append,s5 f sz hf n,List.replicate_succ',List.flatten_append,List.map_map]
  congr 1
  simp only[lA,List.flatten_nil,kn]
  exact List.map_congr_left fun i hi=>hf n i (List.mem_range.1 hi)
theorem qJ (z:Array Value)(n:Nat):(madeCells z (n * z.size)).toList=(dd n z.toList).flatten:=by
 have e1:(madeCells z (n * z.size)).toList=(pk (n * z.size)).map fun i=>z[i % z.size]!:=by
  simp[madeCells]
 rw[e1,s5 _ z.size (fun n i hi=>by rw[Nat.mul_comm,Nat.mul_add_mod])]
 congr 2
 apply List.ext_getElem?
 intro j
 rw[List.getElem?_map]
 by_cases hj:j<z.size
 ·rw[List.getElem?_range hj]
  simp[Nat.mod_eq_of_lt hj,hj]
 ·rw[il (by simp;omega),il (by simp;omega)];rfl
section
variable [aq]{P:Program}{w w' w0:World}{μ:Mu}{S:ar}{H Hh:Heap}{B:Nat}
theorem T4 (R:Rel μ S H B w0 w){i:Nat}(hi:H i=none):μ i=none:=by
 have:=R.dom i;rw[hi] at this
 cases h:μ i with
 | none=>rfl
 | some _=>rw[h] at this;simp at this
theorem r8 (R:Rel μ S H B w0 w):S w.heap.size=none:=by
 cases h:S w.heap.size with
 | none=>rfl
 | some o=>have:=R.js h;omega
theorem Rel.abu (R:Rel μ S H B w0 w){i:Nat}{l:Lc}{ho:aS}{row:Option Nat}
  (hbl:∀ b,l.has b→(∃ l0,μ i=some l0∧l0.has b)∨w.heap.size≤b)
  (hrow:∀ b,row=some b→∃ l0,μ i=some l0∧l0.has b) (hg:w.grownBy w' row)
  (E:Ext μ S H (aP μ i (some l)) S (aP H i (some ho))) (hO:og (aP μ i (some l)) S (aP H i (some ho)) w' B l ho) (hin:l.cH=aT∨∃ t ti q xs st,ho = .aO t ti q xs st) :
  Rel (aP μ i (some l)) S (aP H i (some ho)) B w0 w':=by
 have same:∀ j,j≠i→∀ lj b,μ j=some lj→lj.has b→w'.heap[b]? = w.heap[b]?:=by
  intro j hj lj b hm hb
  refine hg.block b (R.p8 hm hb) fun e=>?_
  obtain⟨l0,k1,k2⟩:=hrow b e.symm
  exact R.sep j i lj l0 b hj hm k1 hb k2
 refine⟨R.below.grown hg R.size fun b hb=>?_,Nat.le_trans R.size hg.size,fun b o h=>?_,fun j=>?_,fun j o hj=>?_,?_,fun j lj hj=>?_,R.pre⟩
 ·obtain⟨l0,k1,k2⟩:=hrow b hb
  exact (R.CR k1 k2).1
 ·rw[hg.block b (R.js h) (fun e=>?_)]
  ·exact R.st b o h
  ·obtain⟨l0,k1,k2⟩:=hrow b e.symm
   rw[(R.CR k1 k2).2] at h;simp at h
 ·by_cases e:j=i
  ·subst e;rw[au,au];rfl
  ·rw[ax _ _ e,ax _ _ e];exact R.dom j
 ·by_cases e:j=i
  ·subst e;rw[au] at hj;cases hj;exact⟨l,au _ _ _,hO⟩
  ·rw[ax _ _ e] at hj
   obtain⟨l',h1,h2⟩:=R.obj j o hj
   exact⟨l',by rw[ax _ _ e];exact h1,bD E (fun b hb=>same j e l' b h1 hb) (fun b hb=>(R.CR h1 hb).2) h2⟩
 ·intro j k lj lk b hjk hj hk hb
  by_cases e:j=i
  ·subst e
   rw[au] at hj;cases hj
   rw[ax _ _ (pa hjk)] at hk
   intro hb'
   rcases hbl b hb with⟨l0,k1,k2⟩|h
   ·exact R.sep j k l0 lk b hjk k1 hk k2 hb'
   ·have:=R.p8 hk hb';omega
  ·rw[ax _ _ e] at hj
   by_cases e2:k=i
   ·subst e2
    rw[au] at hk;cases hk
    intro hb'
    rcases hbl b hb' with⟨l0,k1,k2⟩|h
    ·exact R.sep j k lj l0 b hjk hj k1 hb k2
    ·have:=R.p8 hj hb;omega
   ·rw[ax _ _ e2] at hk
    exact R.sep j k lj lk b hjk hj hk hb
 ·by_cases e:j=i
  ·subst e;rw[au] at hj;cases hj
   rw[au]
   exact hin.imp id fun⟨t,ti,q,xs,st,h⟩=>⟨t,ti,q,xs,st,by rw[h]⟩
  ·rw[ax _ _ e] at hj;rw[ax _ _ e];exact R.cH j lj hj
theorem Rel.put (R:Rel μ S H B w0 w){i:Nat}{l:Lc}{ho:aS}{row:Option Nat}
  (hbl:∀ b,l.blk=some b→(∃ l0,μ i=some l0∧l0.blk=some b)∨w.heap.size≤b)
  (hrow:∀ b,row=some b→∃ l0,μ i=some l0∧l0.blk=some b) (hg:w.grownBy w' row)
  (E:Ext μ S H (aP μ i (some l)) S (aP H i (some ho))) (hO:og (aP μ i (some l)) S (aP H i (some ho)) w' B l ho) (hin:l.cH=aT:=by rfl) :
  Rel (aP μ i (some l)) S (aP H i (some ho)) B w0 w':=
 R.abu (fun b hb=>(hbl b ((Lc.fe hin).1 hb)).imp (fun⟨l0,h1,h2⟩=>⟨l0,h1,.inl h2⟩) id) (fun b hb=>(hrow b hb).imp fun l0 h=>⟨h.1,.inl h.2⟩) hg E hO (.inl hin)
omit [aq] in
theorem Ext.V4 {i:Nat}{l l':Lc}{t t':TypeId}{e:Ty}{g g':Nat}{xs ys:List e.T}(hm:μ i=some l)(hi:H i=some (.row t e g xs))(hg:g<g') :
  Ext μ S H (aP μ i (some l')) S (aP H i (some (.row t' e g' ys))):=by
 refine⟨fun j lj hj=>?_,fun _ _ h=>h,fun j t0 e0 g0 zs hj hH=>?_,fun j t0 ti0 q0 xs0 st0 hj hH=>?_⟩
 ·by_cases ej:j=i
  ·subst ej
   exact .inr ⟨l',_,_,au _ _ _,hi,au _ _ _,.row hg⟩
  ·exact .inl (by rw[ax _ _ ej];exact hj)
 ·by_cases ej:j=i
  ·subst ej
   rw[au] at hH
   injection hH with hH
   injection hH with e1 e2 e3 e4
   subst e2
   exact⟨t,g,xs,hi,by omega,fun h=>by omega⟩
  ·rw[ax _ _ ej] at hH
   exact⟨t0,g0,zs,hH,bi _,fun _=>rfl⟩
 ·by_cases ej:j=i
  ·subst ej;rw[au] at hH;cases hH
  ·rw[ax _ _ ej] at hH;exact⟨t0,ti0,q0,xs0,st0,hH,bi _,rfl,fun _ _ h=>h⟩
omit [aq] in
theorem Ext.GM {i:Nat}{l l':Lc}{t ti q q':Nat}{xs ys:List FT}{st st':gz}(hm:μ i=some l)(hi:H i=some (.aO t ti q xs st))(hq:q<q'∨q=q'∧∀ k,st.mine k→st'.mine k∧l'.cH k=l.cH k)(h1:l'.blk=l.blk)(h2:l'.cap=l.cap)
  (hl:xs.length=ys.length):Ext μ S H (aP μ i (some l')) S (aP H i (some (.aO t ti q' ys st'))):=by
 refine⟨fun j lj hj=>?_,fun _ _ h=>h,fun j t0 e0 g0 zs hj hH=>?_,fun j t0 ti0 q0 xs0 st0 hj hH=>?_⟩
 ·by_cases ej:j=i
  ·subst ej
   cases hm.symm.trans hj
   exact .inr ⟨l',_,_,au _ _ _,hi,au _ _ _,.aO hq h1 h2⟩
  ·exact .inl (by rw[ax _ _ ej];exact hj)
 ·by_cases ej:j=i
  ·subst ej;rw[au] at hH;cases hH
  ·rw[ax _ _ ej] at hH;exact⟨t0,g0,zs,hH,bi _,fun _=>rfl⟩
 ·by_cases ej:j=i
  ·subst ej;rw[au] at hH;cases hH
   exact⟨t,ti,q,xs,st,hi,by omega,hl,fun e k hk=>hq.elim (fun h=>by omega) (fun h=>(h.2 k hk).1)⟩
  ·rw[ax _ _ ej] at hH;exact⟨t0,ti0,q0,xs0,st0,hH,bi _,rfl,fun _ _ h=>h⟩
theorem lZ {l:Lc}{te:TypeId}{e:Ty}{g:Nat}{xs:List e.T}(hO:og μ S H w B l (.row te e g xs)) :
  ∃ cs,gY S e xs cs∧w.ownsRow B te e.size (.slice l.addr xs.length l.cap) xs.length cs:=by
 obtain⟨⟨h0,h1⟩,h2⟩:=hO
 rcases h2 with⟨h3,h4⟩|⟨b,cs,e1,q1,q2,q3,q4,q5⟩
 ·have:xs=[]:=eh (by omega)
  subst this
  refine⟨[],rfl,by simp,.inl ⟨?_,rfl⟩⟩
  simp[Lc.addr,h3,h4]
 ·obtain⟨d,k1,k2⟩:=fG (S:=S) (e:=e) (xs:=xs) (fun n=>cs[n]?) q5
  have hl:=bz k1
  refine⟨d,k1,hl,.inr ⟨b,l.cap,cs,?_,q1,q3,h0,h1,q4,?_⟩⟩
  ·simp[Lc.addr,e1]
  ·rw[← hl]
   exact tK fun j u hj=>by rw[gg];exact k2 j u hj
theorem jt {te:TypeId}{e:Ty}{g:Nat}{xs:List e.T}{cs:List Value}{v:Value}(hR:gY S e xs cs)(hS:∀ b,v.ownBlock=some b→S b=none)
  (h:w.ownsRow B te e.size v xs.length cs):∃ l:Lc,v = .slice l.addr xs.length l.cap∧v.ownBlock=l.blk∧l.cH=aT∧og μ S H w B l (.row te e g xs):=by
 obtain⟨h1,h2⟩:=h
 rcases h2 with⟨rfl,h3⟩|⟨b,cap,cur,rfl,q1,q2,q3,q4,q5,q6⟩
 ·exact⟨⟨none,0,aT⟩,by rw[h3];rfl,rfl,rfl,⟨by omega,pb _⟩,.inl ⟨rfl,rfl⟩⟩
 ·refine⟨⟨some b,cap,aT⟩,rfl,rfl,rfl,⟨q3,q4⟩,.inr ⟨b,cur,rfl,q1,hS b rfl,q2,q5,fun j x hj=>?_⟩⟩
  obtain⟨c,k1,k2⟩:=uR hR j x hj
  refine⟨c,k1,fun m u hm=>?_⟩
  have:=k2 m u hm
  rw[← q6,dv] at this
  split at this
  ·rwa [gg] at this
  ·simp at this
theorem iv (sub:∀ i o,Hh i=some o→H i=some o)(R:Rel μ S H B w0 w){e:Ty}{x:AV}{v:Value}{ys:List e.T}(hx:VR μ S H x v)(h:content Hh e x=some ys) :
  ∃ a cap cs,v = .slice a ys.length cap∧(a=none→ys=[]∧cap=0)∧gY S e ys cs∧∀ (j:Nat) (u:Value),cs[j]? = some u→∃ ad,a=some ad∧w.cell? (ad.add j)=some u:=by
 unfold content at h
 split at h
 ·simp at h
 rename_i hne
 split at h
 case h_2=>simp at h
 rename_i xs hd
 cases h
 unfold BH at hd
 split at hd
 ·rename_i e' xs' r heq
  cases heq
  split at hd
  ·rename_i zs hc
   obtain⟨he,rfl⟩:=b9 hc
   subst he
   cases hd
   obtain⟨a,cap,h1,h2,h3⟩:=uw hx
   cases h1
   obtain⟨cs,k1,k2⟩:=fG (S:=S) (e:=e') (xs:=xs') (fun n=>a.bind fun ad=>cellS S (ad.add n)) (fun j x hj=>by
    obtain⟨ad,c,rfl,q1,q2⟩:=h3 j x hj
    exact⟨c,q1,fun m v hm=>q2 m v hm⟩)
   refine⟨a,cap,cs,rfl,fun ha=>?_,k1,fun j u hj=>?_⟩
   ·exact⟨eh (show xs'.length=0 by have:=h2.2 ha;omega),h2.2 ha⟩
   ·have:=k2 j u hj
    cases a with
    | none=>simp at this
    | some ad=>exact⟨ad,rfl,tJ R this⟩
  ·simp at hd
 ·rename_i i g r heq
  cases heq
  split at hd
  ·rename_i t' e' g' xs' hH
   cases hg:be g g' with
   | false=>rw[hg] at hd;simp at hd
   | true=>
    rw[hg] at hd
    simp only[cond_true] at hd
    split at hd
    ·rename_i zs hc
     obtain⟨he,rfl⟩:=b9 hc
     subst he
     cases hd
     have hgg:=ae hg
     simp only[VR] at hx
     obtain⟨_,l,hm,h2⟩:=hx
     have hHi:=sub _ _ hH
     have hv:=(h2 _ _ _ _ hHi).2 hgg
     obtain⟨l',h1,hO⟩:=R.obj i _ hHi
     have:l'=l:=bm (h1.symm.trans hm)
     subst this
     obtain⟨⟨o1,o2⟩,o3⟩:=hO
     rcases o3 with⟨o4,o5⟩|⟨b,cs,e1,q1,q2,q3,q4,q5⟩
     ·have:xs'=[]:=eh (by omega)
      subst this
      refine⟨l'.addr,l'.cap,[],hv,fun _=>⟨rfl,o5⟩,rfl,fun j u hj=>by simp at hj⟩
     ·obtain⟨d,k1,k2⟩:=fG (S:=S) (e:=e') (xs:=xs') (fun n=>cs[n]?) q5
      refine⟨l'.addr,l'.cap,d,hv,fun ha=>?_,k1,fun j u hj=>⟨⟨b,0,none⟩,by simp[Lc.addr,e1],?_⟩⟩
      ·simp[Lc.addr,e1] at ha
      ·rw[aN,dt,cell_of q3];exact k2 j u hj
    ·simp at hd
  ·simp at hd
 ·rename_i r heq
  cases heq
  cases hd
  simp only[VR] at hx
  subst hx
  exact⟨none,0,[],rfl,fun _=>⟨rfl,rfl⟩,rfl,fun j u hj=>by simp at hj⟩
 ·rename_i i g lo hi r heq
  cases heq
  split at hd
  ·rename_i t' e' g' xs' hH
   cases hg:be g g' with
   | false=>rw[hg] at hd;simp at hd
   | true=>
    rw[hg] at hd
    simp only[cond_true] at hd
    split at hd
    ·rename_i zs hc
     obtain⟨he,rfl⟩:=b9 hc
     subst he
     cases hd
     have hgg:=ae hg
     simp only[VR] at hx
     obtain⟨_,l,hm,h2⟩:=hx
     have hHi:=sub _ _ hH
     obtain⟨p1,p2,a,hv,p3,p4⟩:=(h2 _ _ _ _ hHi).2 hgg
     obtain⟨l',h1,hO⟩:=R.obj i _ hHi
     have:l'=l:=bm (h1.symm.trans hm)
     subst this
     have hl:na ((xs'.take hi).drop lo)=hi-lo:=by rw[ml,gl];omega
     obtain⟨⟨o1,o2⟩,o3⟩:=hO
     rcases o3 with⟨o4,o5⟩|⟨b,cs,e1,q1,q2,q3,q4,q5⟩
     ·have:xs'=[]:=eh (by omega)
      subst this
      have hz:((([]:List e'.T).take hi).drop lo)=[]:=by simp
      refine⟨a,l'.cap-lo,[],by rw[hv,hl],fun _=>⟨hz,by omega⟩,by rw[hz];rfl,fun j u hj=>by simp at hj⟩
     ·obtain⟨d,k1,k2⟩:=fG (S:=S) (e:=e') (xs:=(xs'.take hi).drop lo) (fun n=>cs[lo * e'.size+n]?) (fun j x hj=>by
       have hjl:j<hi-lo:=by rw[← hl];exact (db.1 hj).1
       rw[ft,dv,if_pos (by omega)] at hj
       obtain⟨c,m1,m2⟩:=q5 (lo+j) x hj
       exact⟨c,m1,fun m v hm=>by rw[← m2 m v hm,dp,ik]⟩)
      refine⟨a,l'.cap-lo,d,by rw[hv,hl],fun ha=>?_,k1,fun j u hj=>⟨⟨b,lo * e'.size,none⟩,?_,?_⟩⟩
      ·have:=p4 ha
       simp[Lc.addr,e1] at this
      ·have hd0:0<hi-lo:=by
        have h3:=bz k1
        have h4:=(db.1 hj).1
        rw[h3,hl] at h4
        rcases Nat.eq_zero_or_pos (hi-lo) with h|h
        ·rw[h] at h4;simp at h4
        ·exact h
       rw[p3 (.inr (by omega))]
       simp[Lc.addr,e1,aN]
      ·rw[aN,cell_of q3];exact k2 j u hj
    ·simp at hd
  ·simp at hd
 ·rename_i i r heq
  cases heq
  exact absurd rfl (hne _)
 ·simp at hd
omit [aq] in
theorem QF {i:Nat}{g:Nat}{l:Lc}{t:TypeId}{e:Ty}{xs:List e.T}:VR (aP μ i (some l)) S (aP H i (some (.row t e g xs))) (.sl i g) (.slice l.addr xs.length l.cap):=by
 simp only[VR]
 refine⟨⟨_,_,_,rfl⟩,l,au _ _ _,fun t1 e1 g1 xs1 hH=>?_⟩
 rw[au] at hH
 injection hH with hH
 injection hH with k1 k2 k3 k4
 subst k2
 have:=eq_of_heq k4
 subst this
 exact⟨by omega,fun _=>rfl⟩
omit [aq] in
theorem max_eq:maxLen=9223372036854775807:=by rfl
theorem Cn (R:Rel μ S H B w0 w){i:Nat}(hi:H i=none){te:TypeId}{e:Ty}{g:Nat}{xs:List e.T}{cs:List Value}{v:Value}(hR:gY S e xs cs)
  (hown:w'.ownsRow B te e.size v xs.length cs) (hv:v.ownBlock=none∨v.ownBlock=some w.heap.size) (hg:w.grownBy w' none) :
  ∃ μ',Rel μ' S (aP H i (some (.row te e g xs))) B w0 w'∧Ext μ S H μ' S (aP H i (some (.row te e g xs)))∧VR μ' S (aP H i (some (.row te e g xs))) (.sl i g) v:=by
 have hS:∀ b,v.ownBlock=some b→S b=none:=by
  intro b hb
  rcases hv with h|h
  ·rw[h] at hb;simp at hb
  ·rw[h] at hb;cases hb;exact r8 R
 obtain⟨l,rfl,h1,hno,hO⟩:=jt (μ:=μ) (H:=H) (g:=g) hR hS hown
 have E:=Ext.new (S:=S) (H:=H) (l:=l) (ho:=.row te e g xs) (T4 R hi)
 refine⟨aP μ i (some l),R.put (fun b hb=>?_) (fun b hb=>by simp at hb) hg E (bD E (fun _ _=>rfl) (fun b hb=>hS b (by rw[h1];exact (Lc.fe hno).1 hb)) hO) hno,E,QF⟩
 right
 rcases hv with h|h
 ·rw[← h1,h] at hb;simp at hb
 ·rw[← h1,h] at hb;cases hb;exact bi _
theorem zw (R:Rel μ S H B w0 w){i:Nat}{l:Lc}{te:TypeId}{e:Ty}{g g':Nat}{xs ys:List e.T}{cs:List Value}{v:Value}(hm:μ i=some l)(hi:H i=some (.row te e g xs))(hlt:g<g')
  (hR:gY S e ys cs) (hown:w'.ownsRow B te e.size v ys.length cs) (hv:v.ownBlock=l.blk∨v.ownBlock=some w.heap.size) (hg:w.grownBy w' l.blk) :
  ∃ μ',Rel μ' S (aP H i (some (.row te e g' ys))) B w0 w'∧Ext μ S H μ' S (aP H i (some (.row te e g' ys)))∧VR μ' S (aP H i (some (.row te e g' ys))) (.sl i g') v:=by
 have hS:∀ b,v.ownBlock=some b→S b=none:=by
  intro b hb
  rcases hv with h|h
  ·rw[h] at hb;exact (R.ge hm hb).2
  ·rw[h] at hb;cases hb;exact r8 R
 obtain⟨l',rfl,h1,hno,hO⟩:=jt (μ:=μ) (H:=H) (g:=g') hR hS hown
 have E:Ext μ S H (aP μ i (some l')) S (aP H i (some (.row te e g' ys))):=Ext.V4 hm hi hlt
 refine⟨aP μ i (some l'),R.put (fun b hb=>?_) (fun b hb=>⟨l,hm,hb⟩) hg E (bD E (fun _ _=>rfl) (fun b hb=>hS b (by rw[h1];exact (Lc.fe hno).1 hb)) hO) hno,E,QF⟩
 rcases hv with h|h
 ·left;exact⟨l,hm,by rw[← h,h1];exact hb⟩
 ·right;rw[← h1,h] at hb;cases hb;exact bi _
omit [aq] in
theorem XV {a b c:Bool}(h:(a&&b&&c)=true):a=true∧b=true∧c=true:=by
 cases a<;>cases b<;>cases c<;>simp_all
theorem FN (sub:∀ i o,Hh i=some o→H i=some o)(R:Rel μ S H B w0 w){id:Nat}{t ty:TypeId}{s x:AV}{vs vx:Value}{out:Out}(hs:VR μ S H s vs)(hx:VR μ S H x vx)
  (h:iW P Hh id t s x=some out) (hk:out.ok=true) (hf:out.fresh H=true) :
  bQ P w w0 μ S H B (do pure (.value (← ib #[t,t] ty #[vs,vx]))) out:=by
 unfold iW at h
 split at h
 case h_2=>simp at h
 rename_i el ht
 split at h
 case h_2=>simp at h
 rename_i inf hinf
 split at h
 case h_2=>simp at h
 rename_i z hz
 split at h
 case h_2=>simp at h
 rename_i zc hzc
 obtain⟨hc,h⟩:=aA h
 simp only[ba] at hc
 obtain⟨hzl,hpos⟩:=hc
 have hpos:=cP hpos
 have hzs:z.cells.size=inf.size:=by
  have:=aU (bU (jk (μ:=μ) (S:=S) (H:=H) z) hzc)
  rw[ae hzl] at this
  simpa using this.symm
 split at h
 ·rename_i i g _
  split at h
  case h_2=>simp at h
  rename_i te e g' xs hH
  split at h
  case h_2=>simp at h
  rename_i ys hy
  obtain⟨hc,rfl⟩:=ai h
  obtain⟨c1,c2,c3⟩:=XV hc
  have c1:=ae c1
  have c2:=ae c2
  have c3:=ae c3
  subst c1 c2
  simp only[Out.ok,ba,decide_eq_true_eq] at hk
  have hHi:=sub _ _ hH
  simp only[VR] at hs
  obtain⟨_,l,hm,h2⟩:=hs
  have hv:=(h2 _ _ _ _ hHi).2 rfl
  subst hv
  obtain⟨l',h1,hO⟩:=R.obj i _ hHi
  have:l'=l:=bm (h1.symm.trans hm)
  subst this
  obtain⟨cs,r1,r2⟩:=lZ hO
  obtain⟨a,cap,ds,rfl,q1,q2,q3⟩:=iv sub R hx hy
  cases a with
  | none=>
   have:ys=[]:=(q1 rfl).1
   subst this
   have hcap:=(q1 rfl).2
   subst hcap
   have r2':w.ownsRow B te e.size (.slice l'.addr xs.length l'.cap) (xs++[]).length cs:=by rw[kn];exact r2
   obtain⟨μ',g1,g2,g3⟩:=zw (ys:=xs++[]) R hm hHi (my g) (by rw[kn];exact r1) r2' (.inl (by cases hb:l'.blk<;>simp[Lc.addr,hb,lL])) (nm w _)
   refine⟨_,_,w,μ',?_,.inl rfl,g1,g2,g3⟩
   have hr:=run_append_owned_none (P:=P) w B t ty te inf e.size ht hinf _ _ _ r2
   simp only[ap,nd,hr,al,aw]
  | some ad=>
   have hn:∀ j u,ds[j]? = some u→w.cell? (ad.add j)=some u:=fun j u hj=>by
    obtain⟨ad',e1,e2⟩:=q3 j u hj
    cases e1;exact e2
   obtain⟨v',w',a1,a2,a3,_,a5⟩:=run_append_own_at (P:=P) w B t ty te inf z e.size inf.bytes ht hinf hz c3 rfl (by omega) (by omega) _ _ cs r2 ad ys.length cap ds (bz q2) hn (iU q2) (by rw[max_eq];exact hk.2) hk.1 R.size
   have hb1:lL (.slice l'.addr xs.length l'.cap)=l'.blk:=by cases hb:l'.blk<;>simp[Lc.addr,hb,lL]
   rw[hb1] at a3 a5
   obtain⟨μ',g1,g2,g3⟩:=zw (ys:=xs++ys) R hm hHi (my g) (kF r1 q2) (by rw[fj];exact a2) a5 a3
   refine⟨_,_,w',μ',?_,.inl rfl,g1,g2,g3⟩
   simp only[ap,a1,al,aw]
 ·split at h
  case h_2=>simp at h
  rename_i e _
  split at h
  case h_2=>simp at h
  rename_i ys hy
  obtain⟨hc,rfl⟩:=ai h
  have c3:=ae hc
  simp only[Out.ok,ba,decide_eq_true_eq] at hk
  simp only[VR] at hs
  subst hs
  have hid:H id=none:=by simpa [Out.fresh] using hf
  obtain⟨a,cap,ds,rfl,q1,q2,q3⟩:=iv sub R hx hy
  have r2:=World.ownsRow_nil w B el e.size
  cases a with
  | none=>
   have:ys=[]:=(q1 rfl).1
   subst this
   have hcap:=(q1 rfl).2
   subst hcap
   obtain⟨μ',g1,g2,g3⟩:=Cn (g:=0) (xs:=([]:List e.T)) R hid (cs:=[]) rfl r2 (.inl rfl) (nm w _)
   refine⟨_,_,w,μ',?_,.inl rfl,g1,g2,g3⟩
   have hr:=run_append_owned_none (P:=P) w B t ty el inf e.size ht hinf _ _ _ r2
   simp only[ap,nd,hr,al,aw]
  | some ad=>
   have hn:∀ j u,ds[j]? = some u→w.cell? (ad.add j)=some u:=fun j u hj=>by
    obtain⟨ad',e1,e2⟩:=q3 j u hj
    cases e1;exact e2
   obtain⟨v',w',a1,a2,a3,_,a5⟩:=run_append_own_at (P:=P) w B t ty el inf z e.size inf.bytes ht hinf hz c3 rfl (by omega) (by omega) _ _ [] r2 ad ys.length cap ds (bz q2) hn (iU q2) (by rw[max_eq];omega) (by rw[dt];exact hk.1) R.size
   simp only[dt,List.nil_append] at a2
   obtain⟨μ',g1,g2,g3⟩:=Cn (g:=0) R hid q2 a2 a5 a3
   refine⟨_,_,w',μ',?_,.inl rfl,g1,g2,g3⟩
   simp only[ap,a1,al,aw]
 ·simp at h
omit [aq] in
theorem yo (off:Nat):∀ (l:List Value) (k:Nat) (cs:Array Value),off+k+l.length≤cs.size →
  ((l.zipIdx k).foldl (fun (cs:Array Value) (p:Value×Nat)=>cs.setIfInBounds (off+p.2) p.1) cs).toList=cs.toList.take (off+k)++l++cs.toList.drop (off+k+l.length)
 | [],k,cs,h=>by simp
 | x::l,k,cs,h=>by
  rw[List.zipIdx_cons,List.foldl_cons,yo off l (k+1) _ (by simp at h ⊢;omega)]
  simp only[List.length_cons] at h
  rw[nf]
  have hlen:off+k<cs.toList.length:=by rw[cf];omega
  have e1:(cs.toList.set (off+k) x).take (off+(k+1))=cs.toList.take (off+k)++[x]:=by
   rw[show off+(k+1)=(off+k)+1 from by omega,List.take_add_one,List.take_set_of_le (bi _),dE hlen]
   rfl
  have e2:(cs.toList.set (off+k) x).drop (off+(k+1)+l.length)=cs.toList.drop (off+k+(l.length+1)):=by
   rw[List.drop_set_of_lt (by omega)]
   congr 1;omega
  rw[e1,e2]
  simp
omit [aq] in
theorem q9 {ρa:Operand→AV}{ρ:Operand→Value}(hρ:∀ x,VR μ S H (ρa x) (ρ x)){place place':Nat→Option (Nat×Nat)}(hp:∀ i q,place i=some q→place' i=some q):∀ (parts:List (Nat×Operand)) (cs cs':List AV) (vs:Array Value),aH μ S H cs vs.toList →
  ua place cs (parts.map fun p=>(p.1,ρa p.2))=some cs' →
  ∃ us,po place' vs (parts.map fun p=>(p.1,ρ p.2))=some us∧aH μ S H cs' us.toList
 | [],cs,cs',vs,hv,h=>by
  simp only[List.map_nil,ua,bj] at h
  subst h
  exact⟨vs,rfl,hv⟩
 | (i,x)::parts,cs,cs',vs,hv,h=>by
  simp only[pf,ua] at h
  split at h
  case h_2=>simp at h
  rename_i off size hpl
  split at h
  case h_2=>simp at h
  rename_i c hc
  obtain⟨hcc,h⟩:=aA h
  simp only[ba] at hcc
  have c1:=ae hcc.1
  have c2:=eI hcc.2
  have hus:=bU (hρ x) hc
  have l1:=aU hus
  have l2:=aU hv
  simp only[cf] at l1 l2
  have hfold:=yo off (ρ x).cells.toList 0 vs (by simp;omega)
  obtain⟨us,h1,h2⟩:=q9 hρ hp parts (splice cs off c) cs' ((ρ x).cells.zipIdx.foldl (fun cs (c,j)=>cs.setIfInBounds (off+j) c) vs) (by
   have e1:((ρ x).cells.zipIdx.foldl (fun cs (c,j)=>cs.setIfInBounds (off+j) c) vs).toList=vs.toList.take off++(ρ x).cells.toList++vs.toList.drop (off+(ρ x).cells.toList.length):=by
    rw[← Array.foldl_toList,Array.toList_zipIdx]
    simpa using hfold
   rw[e1]
   exact pI hv hus off) h
  refine⟨us,?_,h2⟩
  simp only[pf,po,hp _ _ hpl]
  rw[if_neg (by simp;omega)]
  exact h1
omit [aq] in
theorem xK {t:Ty}:∀ (n:Nat) (as:List AV) (vs:List Value) (xs:List t.T),aH μ S H as vs→nY t n as=some xs→gY S t xs vs∧xs.length=n
 | 0,[],vs,xs,hv,h=>by
  simp only[nY,bj] at h
  simp only[aH] at hv
  subst h hv
  exact⟨rfl,rfl⟩
 | 0,_::_,vs,xs,hv,h=>by simp[nY] at h
 | n+1,as,vs,xs,hv,h=>by
  simp only[nY] at h
  split at h
  case h_2=>simp at h
  rename_i x r hd
  split at h
  case h_2=>simp at h
  rename_i ys hm
  cases h
  obtain⟨cs,us,rfl,k1,k2⟩:=vX hv hd
  obtain⟨k3,k4⟩:=xK n r us ys k2 hm
  exact⟨⟨cs,us,rfl,k1,k3⟩,by simp[k4]⟩
omit [aq] in
theorem vL {cs:List AV}{vs:List Value}(h:aH μ S H cs vs):∀ n,aH μ S H (HJ n cs) (dd n vs).flatten
 | 0=>by simp[HJ,aH]
 | n+1=>by
  unfold HJ
  rw[ka,ka,lA,lA]
  exact cl h (vL h n)
theorem EN (R:Rel μ S H B w0 w){i:Nat}(hi:H i=none){te:TypeId}{e:Ty}{xs:List e.T}{n cap:Nat}{us:Array Value}(hn:xs.length=n)(hs:us.size=cap * e.size)(hnc:n≤cap)(hcm:cap≤maxLen){cs:List Value}(hR:gY S e xs cs)
  (ht:us.toList.take (n * e.size)=cs) :
  ∃ μ',Rel μ' S (aP H i (some (.row te e 0 xs))) B w0 (w.alloc (.cells us te))∧Ext μ S H μ' S (aP H i (some (.row te e 0 xs)))∧VR μ' S (aP H i (some (.row te e 0 xs))) (.sl i 0) (.slice (some ⟨w.heap.size,0,none⟩) n cap):=by
 refine Cn R hi hR ?_ (.inr rfl) (World.grownBy_alloc w _ none)
 subst hn
 exact⟨bz hR,.inr ⟨w.heap.size,cap,us,rfl,R.size,heap_alloc_new w _,hnc,hcm,hs,ht⟩⟩
theorem vw (R:Rel μ S H B w0 w){ρa:Operand→AV}{ρ:Operand→Value}(hρ:∀ x,VR μ S H (ρa x) (ρ x)){id:Nat}{t:TypeId}{len:Nat}{parts:List (Nat×Operand)}{out:Out}
  (h:eA P id t len (parts.map fun p=>(p.1,ρa p.2))=some out) (hf:out.fresh H=true) :
  bQ P w w0 μ S H B (do pure (.value (← oj t len (parts.map fun p=>(p.1,ρ p.2)).toArray))) out:=by
 unfold eA at h
 split at h
 case h_2=>simp at h
 rename_i el ht
 split at h
 case h_3=>simp at h
 case h_1=>
  rename_i inf ty hinf hty
  split at h
  case h_2=>simp at h
  rename_i z hz
  split at h
  case h_2=>simp at h
  rename_i zc hzc
  obtain⟨hc,h⟩:=aA h
  simp only[ba] at hc
  obtain⟨⟨⟨⟨c1,c2⟩,c3⟩,c4⟩,c5⟩:=hc
  have c1:=ae c1
  have c2:=ae c2
  have c3:=cP c3
  have c4:=cP c4
  have c5:=eI c5
  split at h
  case h_2=>simp at h
  rename_i cs hfl
  split at h
  case h_2=>simp at h
  rename_i xs hxs
  cases h
  have hid:H id=none:=by simpa [Out.fresh] using hf
  have hzv:=bU (jk (μ:=μ) (S:=S) (H:=H) z) hzc
  have hzs:z.cells.size=inf.size:=by
   have:=aU hzv
   simp only[cf] at this;omega
  have hrep:aH μ S H (HJ len zc) (madeCells z.cells (len * inf.size)).toList:=by
   rw[← hzs,qJ];exact vL hzv len
  obtain⟨us,k1,k2⟩:=q9 (place':=fun i=>some (i * inf.size,inf.size)) hρ (fun _ _ h=>h) parts _ cs _ hrep hfl
  obtain⟨k3,k4⟩:=xK len cs _ xs k2 hxs
  have k5:=bz k3
  rw[k4] at k5
  simp only[cf] at k5
  have hle:len≤16777216:=Nat.le_trans (Nat.le_mul_of_pos_right len c3) c5
  obtain⟨μ',g1,g2,g3⟩:=EN (te:=el) R hid (n:=len) (cap:=len) k4 k5 (bi _) (by rw[max_eq];omega) k3 (by rw[List.take_of_length_le];rw[cf];omega)
  refine⟨_,_,_,μ',?_,.inl rfl,g1,g2,g3⟩
  have n1:¬ (len * inf.size>2 ^ 24):=by omega
  have n2:¬ (len * inf.size=0):=fun e=>by
   have:=Nat.mul_pos c4 c3;omega
  have k1':po (fun i=>some (i * inf.size,inf.size)) ((Array.range (len * inf.size)).map (z.cells[· % z.cells.size]!)) (parts.map fun p=>(p.1,ρ p.2))=some us:=k1
  simp only[oj,ap,aI ht,al,cS hinf,ee,if_neg n1,if_neg n2,oC hinf hz,aw,gk,k1',kV]
 case h_2=>
  rename_i inf hinf hty
  split at h
  case h_2=>simp at h
  rename_i z hz
  split at h
  case h_2=>simp at h
  rename_i zc hzc
  obtain⟨hc,h⟩:=aA h
  simp only[ba] at hc
  obtain⟨⟨⟨c1,c2⟩,c4⟩,c5⟩:=hc
  have c1:=ae c1
  have c2:=ae c2
  have c4:=cP c4
  have c5:=eI c5
  split at h
  case h_2=>simp at h
  rename_i cs hfl
  cases h
  have hid:H id=none:=by simpa [Out.fresh] using hf
  have hzv:=bU (jk (μ:=μ) (S:=S) (H:=H) z) hzc
  have hzs:z.cells.size=inf.size:=by
   have:=aU hzv
   simp only[cf] at this;omega
  have hrep:aH μ S H (HJ len zc) (madeCells z.cells (len * inf.size)).toList:=by
   rw[← hzs,qJ];exact vL hzv len
  obtain⟨us,k1,k2⟩:=q9 (place':=fun i=>some (i * 1,1)) hρ (fun _ _ h=>h) parts _ cs _ hrep hfl
  obtain⟨g1,g2,g3⟩:=Cz R hid el (v:=.agg us) k2
  refine⟨.value (.slice (some ⟨w.heap.size,0,none⟩) len len),.slice (some ⟨w.heap.size,0,none⟩) len len,_,_,?_,.inl rfl,g1,g2,?_⟩
  case refine_2=>
   simp only[VR] at g3 ⊢
   obtain⟨b,c,q1,q2,q3⟩:=g3
   injection q3 with q3
   injection q3 with q3
   injection q3 with q4 _ _
   subst q4
   exact⟨_,c,q1,q2,len,bi _,rfl⟩
  have n1:¬ (len * inf.size>2 ^ 24):=by rw[c1];omega
  have n2:¬ (len * inf.size=0):=fun e=>by rw[c1] at e;omega
  have k1':po (fun i=>some (i * inf.size,inf.size)) ((Array.range (len * inf.size)).map (z.cells[· % z.cells.size]!)) (parts.map fun p=>(p.1,ρ p.2))=some us:=by rw[c1];rw[c1] at k1;exact k1
  simp only[oj,ap,aI ht,al,cS hinf,ee,if_neg n1,if_neg n2,oC hinf hz,aw,gk,k1',kV]
  rfl
omit [aq] in
theorem zC:∀ {fs:List Field} {pl:List (Nat×Nat)},lT P fs=some pl→(fs.mapM fun f=>(do pure (f.offset,← sizeOf f.type):Sem (Nat×Nat))).run P w = .ok pl w
 | [],pl,h=>by
  simp only[lT,bj] at h
  subst h;simp
 | f::fs,pl,h=>by
  simp only[lT] at h
  split at h
  ·rename_i i l hi hl
   cases h
   rw[List.mapM_cons]
   simp only[ap,cS hi,al,aw,zC hl]
  ·simp at h
theorem L9 (R:Rel μ S H B w0 w){ρa:Operand→AV}{ρ:Operand→Value}(hρ:∀ x,VR μ S H (ρa x) (ρ x)){t:TypeId}{parts:List (Nat×Operand)}{out:Out}
  (h:vK P t (parts.map fun p=>(p.1,ρa p.2))=some out) :
  bQ P w w0 μ S H B (do pure (.value (← ra t (parts.map fun p=>(p.1,ρ p.2)).toArray))) out:=by
 unfold vK at h
 split at h
 case h_3=>simp at h
 case h_2=>
  rename_i n el inf ht hinf
  split at h
  case h_2=>simp at h
  rename_i z ie hz hie
  split at h
  case h_2=>simp at h
  rename_i zc hzc
  split at h
  case h_2=>simp at h
  rename_i cs hfl
  cases h
  have hzv:=bU (jk (μ:=μ) (S:=S) (H:=H) z) hzc
  obtain⟨us,k1,k2⟩:=q9 (place':=fun i=>some (i * ie.size,ie.size)) hρ (fun i q h=>h) parts _ cs _ hzv hfl
  refine aD R (u:=.agg us) ?_ (by simp only[VR];exact⟨us,rfl,k2⟩)
  simp only[ra,ap,oC hinf hz,al,aI ht,cS hie,aw,gk,k1]
 rename_i fields inf ht hinf
 split at h
 case h_2=>simp at h
 rename_i z hz
 split at h
 case h_2=>simp at h
 rename_i zc pl hzc hpl
 split at h
 case h_2=>simp at h
 rename_i cs hfl
 cases h
 have hzv:=bU (jk (μ:=μ) (S:=S) (H:=H) z) hzc
 obtain⟨us,k1,k2⟩:=q9 (place':=(pl.toArray[·]?)) hρ (fun i q h=>by simpa using h) parts _ cs _ hzv hfl
 refine aD R (u:=.agg us) ?_ (by simp only[VR];exact⟨us,rfl,k2⟩)
 have hp:=zC (w:=w) hpl
 simp only[ra,ap,oC hinf hz,al,aI ht,Array.mapM_eq_mapM_toList,hp,Sem.run_map,aw,gk,k1]
theorem Nt (R:Rel μ S H B w0 w){id:Nat}{t:TypeId}{x y:AV}{a b:Value}{out:Out}(hx:VR μ S H x a)(hy:VR μ S H y b)
  (h:Em P id t x y=some out) (hk:out.ok=true) (hf:out.fresh H=true) :
  bQ P w w0 μ S H B (do pure (.value (← Instr.makeSlice t a b))) out:=by
 unfold Em at h
 split at h
 case h_2=>simp at h
 rename_i kl l kc c
 simp only[VR] at hx hy
 subst hx hy
 split at h
 case h_2=>simp at h
 rename_i el ht
 split at h
 case h_2=>simp at h
 rename_i inf ty hinf hty
 split at h
 case h_2=>simp at h
 rename_i z hz
 split at h
 case h_2=>simp at h
 rename_i zc hzc
 split at h
 case h_2=>simp at h
 rename_i x hx
 obtain⟨hc,rfl⟩:=ai h
 simp only[ba] at hc
 obtain⟨⟨⟨c1,c2⟩,c3⟩,c4⟩:=hc
 have c1:=ae c1
 have c2:=ae c2
 have c3:=cP c3
 have c4:=cP c4
 simp only[Out.ok,ba,decide_eq_true_eq] at hk
 obtain⟨⟨d1,d2⟩,d3⟩:=hk
 have hid:H id=none:=by simpa [Out.fresh] using hf
 have hzv:=bU (jk (μ:=μ) (S:=S) (H:=H) z) hzc
 have hzs:z.cells.size=inf.size:=by
  have:=aU hzv
  simp only[cf] at this;omega
 have hRx:=sU hzv hx
 have hRc:gY S ty (dd c.toNat x) (madeCells z.cells (c.toNat * inf.size)).toList:=by
  rw[← hzs,qJ];exact fY hRx _
 have hRl:gY S ty (dd l.toNat x) (dd l.toNat z.cells.toList).flatten:=fY hRx _
 have hlc:l.toNat≤c.toNat:=by omega
 have hcb:c * 1≤c * (inf.bytes:Int):=Int.mul_le_mul_of_nonneg_left (by omega) (by omega)
 obtain⟨μ',g1,g2,g3⟩:=EN (te:=el) (us:=madeCells z.cells (c.toNat * inf.size)) R hid (n:=l.toNat) (cap:=c.toNat) (by simp) (by rw[size_madeCells,c1]) hlc (by rw[max_eq];omega) hRl (by
  have hl2:=bz hRl
  rw[mf] at hl2
  rw[← hl2]
  refine tK fun j u hj=>?_
  rw[← hzs,qJ,show c.toNat=l.toNat+(c.toNat-l.toNat) from by omega,← List.replicate_append_replicate,List.flatten_append,fa (db.1 hj).1]
  exact hj)
 refine⟨_,_,_,μ',?_,.inl rfl,g1,g2,g3⟩
 have hm:(inf.bytes:Int) * c≤281474976710656:=by rw[Int.mul_comm];omega
 have hr:=run_make (P:=P) w t el inf z ht hinf hz kl kc l c d1 d2 hm (by omega)
 simp only[ap,hr,al,aw]
omit [aq] in
theorem eV {ρa:Operand→AV}{ρ:Operand→Value}(hρ:∀ x,VR μ S H (ρa x) (ρ x)){x:Operand}{d:Int}{n:Int}{y:Nat}{code:BoundsCode}(h:bound (some (ρa x)) d=some n)(h0:0≤n)(hy:n≤(y:Int)) :
  (Instr.sliceBound (ρ x) y code).run P w = .ok n.toNat w:=by
 unfold bound at h
 split at h
 ·rename_i heq;simp at heq
 ·rename_i k m heq
  cases h
  have hv:=hρ x
  simp only[bj] at heq
  rw[heq] at hv
  simp only[VR] at hv
  rw[hv]
  simp only[Instr.sliceBound,asIntOf,ap,aw,al,ee,if_pos (And.intro h0 hy)]
 ·simp at h
omit [aq] in
theorem zl {ρa:Operand→AV}{ρ:Operand→Value}(hρ:∀ x,VR μ S H (ρa x) (ρ x)){lo hi:Option Operand}{isS:Bool}{len cap:Nat}{l h:Int}(hlc:len≤cap)
  (hl:bound (lo.map ρa) 0=some l) (hh:bound (hi.map ρa) len=some h) (k1:0≤l) (k2:l≤h) (k3:h≤(len:Int)) :
  (cn isS len cap (lo.map ρ) (hi.map ρ) none).run P w = .ok (l.toNat,h.toNat,cap) w:=by
 cases hi with
 | none=>
  simp only[dq,bound,bj] at hh
  subst hh
  cases lo with
  | none=>
   simp only[dq,bound,bj] at hl
   subst hl
   simp[cn]
  | some x=>
   have:=eV (P:=P) (w:=w) (y:=len) (code:=.sliceB) hρ hl k1 k2
   simp[cn,this]
 | some y=>
  have b1:=eV (P:=P) (w:=w) (y:=cap) (code:=if isS then .sliceAcap else .sliceAlen) hρ hh (by omega) (by omega)
  cases lo with
  | none=>
   simp only[dq,bound,bj] at hl
   subst hl
   simp[cn,b1]
  | some x=>
   have:=eV (P:=P) (w:=w) (y:=h.toNat) (code:=.sliceB) hρ hl k1 (by omega)
   simp[cn,b1,this]
theorem zK (R:Rel μ S H B w0 w){ρa:Operand→AV}{ρ:Operand→Value}(hρ:∀ x,VR μ S H (ρa x) (ρ x)){t:TypeId}{x:Operand}{lo hi mx:Option Operand}{out:Out}
  (h:sw P t (ρa x) (lo.map ρa) (hi.map ρa) (mx.map ρa)=some out) (hk:out.ok=true) :
  bQ P w w0 μ S H B (do pure (.value (← dC t (ρ x) (lo.map ρ) (hi.map ρ) (mx.map ρ)))) out:=by
 have hx:=hρ x
 unfold sw at h
 split at h
 ·rename_i s hs
  rw[hs] at hx
  simp only[VR] at hx
  split at h
  ·rename_i l hh ht hl hhi hmx
   cases h
   simp only[Out.ok,ba,decide_eq_true_eq] at hk
   obtain⟨⟨k1,k2⟩,k3⟩:=hk
   have em:mx=none:=by cases mx<;>simp at hmx ⊢
   subst em
   refine aD R (u:=.string (s.extract l.toNat hh.toNat)) ?_ (by simp only[VR])
   have b:=zl (P:=P) (w:=w) (isS:=false) hρ (bi _) hl hhi k1 k2 k3
   rw[hx]
   simp only[dC,lr,ap,aI ht,al,dq,Option.isSome_none,ky,if_false,aw,b]
  ·simp at h
 ·rename_i e xs hs
  rw[hs] at hx
  obtain⟨a,cap,e1,e2,e3⟩:=uw hx
  simp only[List.cons.injEq,and_true] at e1
  split at h
  ·rename_i el l hh ht hl hhi hmx
   split at h
   case h_2=>simp at h
   rename_i inf hinf
   obtain⟨hc,rfl⟩:=ai h
   have hc:=ae hc
   simp only[Out.ok,ba,decide_eq_true_eq] at hk
   obtain⟨⟨k1,k2⟩,k3⟩:=hk
   have em:mx=none:=by cases mx<;>simp at hmx ⊢
   subst em
   have b:=zl (P:=P) (w:=w) (isS:=true) hρ e2.1 hl hhi k1 k2 k3
   refine aD R (u:=.slice (if cap=l.toNat then a else a.map (·.add (l.toNat * inf.size))) (hh.toNat-l.toNat) (cap-l.toNat)) ?_ ?_
   ·rw[e1]
    simp only[dC,lr,ap,aI ht,al,dq,b,cS hinf,aw]
   ·have hlen:((xs.take hh.toNat).drop l.toNat).length=hh.toNat-l.toNat:=by
     rw[ml,gl];omega
    simp only[VR,Rd]
    refine⟨_,cap-l.toNat,by rw[hlen],⟨by rw[hlen];omega,fun hn=>?_⟩,fun j x hj=>?_⟩
    ·have:a=none:=by
      split at hn
      ·exact hn
      ·simpa using hn
     have:=e2.2 this
     omega
    ·have hjl:j<hh.toNat-l.toNat:=by rw[← hlen];exact (db.1 hj).1
     rw[ft,dv,if_pos (by omega)] at hj
     obtain⟨ad,c,rfl,q1,q2⟩:=e3 _ x hj
     refine⟨ad.add (l.toNat * inf.size),c,?_,q1,fun m v hm=>?_⟩
     ·rw[if_neg (by omega)];rfl
     ·rw[add_add,hc]
      have:=q2 m v hm
      rw[dp,ik] at this
      exact this
  ·simp at h
 ·simp at h
theorem Ma (R:Rel μ S H B w0 w){id:Nat}{t:TypeId}{x:AV}{v:Value}{out:Out}(hx:VR μ S H x v)(h:wF P id t x=some out)(hf:out.fresh H=true) :
  bQ P w w0 μ S H B (do pure (.value (← Instr.range t v))) out:=by
 unfold wF at h
 split at h
 case h_2=>simp at h
 rename_i s
 simp only[VR] at hx
 subst hx
 split at h
 case h_2=>simp at h
 rename_i ht
 cases h
 have hid:H id=none:=by simpa [Out.fresh] using hf
 obtain⟨h1,h2⟩:=R.new hid (.stringIter s 0) (.eP s 0) ⟨some w.heap.size,0,aT⟩ rfl ⟨w.heap.size,rfl,R.size,r8 R,alloc_heap_new _ _⟩
 refine⟨.value (.pointer (some ⟨w.heap.size,0,none⟩)),_,w.alloc (.stringIter s 0),_,?_,.inl rfl,h1,h2,?_⟩
 ·simp only[Instr.range,ap,aI ht,al,aw,run_newObj]
  rfl
 ·simp only[Out.res,VR]
  exact⟨w.heap.size,0,au _ _ _,fun o h=>by simp only[Out.heap] at h;rw[au] at h;cases h;rfl,rfl⟩
theorem NT (sub:∀ i o,Hh i=some o→H i=some o)(R:Rel μ S H B w0 w){isS:Bool}{ty:TypeId}{x:AV}{v:Value}{out:Out}(hx:VR μ S H x v)(h:De Hh isS x=some out) :
  bQ P w w0 μ S H B (do pure (.value (← Instr.next v isS ty))) out:=by
 unfold De at h
 split at h
 case h_2=>simp at h
 rename_i i
 split at h
 case h_2=>simp at h
 rename_i s pos hH
 cases h
 have hHi:=sub _ _ hH
 simp only[VR] at hx
 obtain⟨b,c,hm,_,rfl⟩:=hx
 obtain⟨l,h1,b',e1,q1,q2,q3⟩:=R.obj i _ hHi
 have:l=⟨some b,c,aT⟩:=bm (h1.symm.trans hm)
 subst this
 cases e1
 have hg:(getObj b).run P w = .ok (.stringIter s pos) w:=by simp[getObj,Sem.run,q3]
 by_cases hp:pos<s.size
 ·have hd:decide (pos<s.size)=true:=by simpa using hp
  rw[hd]
  have E:Ext μ S H μ S (aP H i (some (.eP s (pos+(ll s pos).2)))):=Ext.still' rfl
  have hsz:b<w.heap.size:=R.lt h1 rfl
  refine⟨.value (.tuple #[.bool true,goInt pos,.int .i32 (ll s pos).1]),_,{ w with heap:=w.heap.setIfInBounds b (.stringIter s (pos+(ll s pos).2)) },μ,?_,.inl rfl,?_,E,?_⟩
  ·have hs:(setObj b (.stringIter s (pos+(ll s pos).2))).run P w = .ok () { w with heap:=w.heap.setIfInBounds b (.stringIter s (pos+(ll s pos).2)) }:=by simp[setObj,Sem.run,q3]
   simp only[Instr.next,ap,hg,al,if_pos hp,hs,aw]
  ·refine R.wr h1 (.inl rfl) _ ⟨rfl,rfl,rfl,by simp,fun k hk=>?_⟩ (by simp) (fun k hk=>?_) E ⟨b,rfl,q1,q2,?_⟩ (.inl rfl)
   ·simp only[h9];rw[if_neg (by omega)]
   ·simp only[h9];rw[if_neg (by omega)]
   ·simp[hsz]
  ·simp only[Out.res,cond_true,VR,aH]
   exact⟨_,rfl,_,_,rfl,rfl,_,_,rfl,rfl,_,_,rfl,rfl,rfl⟩
 ·have hd:decide (pos<s.size)=false:=by simpa using hp
  rw[hd]
  refine⟨.value (.tuple #[.bool false]),_,w,μ,?_,.inl rfl,R,Ext.refl,?_⟩
  ·simp only[Instr.next,ap,hg,al,if_neg hp,aw]
  ·simp only[Out.res,cond_false,VR,aH]
   exact⟨_,rfl,_,_,rfl,rfl,rfl⟩
theorem Ut (sub:∀ i o,Hh i=some o→H i=some o)(R:Rel μ S H B w0 w){src dst:TypeId}{x:AV}{v:Value}{out:Out}(hx:VR μ S H x v)(h:K8 P Hh src dst x=some out) :
  bQ P w w0 μ S H B (do pure (.value (← convert src dst v))) out:=by
 unfold K8 at h
 split at h
 case h_2=>simp at h
 rename_i e hs hd
 split at h
 case h_2=>simp at h
 rename_i xs he hc
 cases h
 obtain⟨a,cap,cs,rfl,q1,q2,q3⟩:=iv sub R hx hc
 have hcs:cs=xs.map (Value.int .u8):=by
  clear q1 q3 hc hx
  induction xs generalizing cs with
  | nil=>simpa [gY] using q2
  | cons y ys ih=>
   obtain⟨c,d,rfl,h1,h2⟩:=q2
   rw[ih d h2]
   simp only[Rd] at h1
   rw[h1];rfl
 subst hcs
 refine aD R (u:=.string (vB xs)) ?_ (by simp only[VR])
 rw[run_convert_bytes_string w src dst e _ _ cap hs he hd]
 cases a with
 | none=>
  have:xs=[]:=(q1 rfl).1
  subst this
  simp[Conv.bytesToString]
  rfl
 | some ad=>
  have hl:(loadCells ad xs.length).run P w = .ok (xs.map (Value.int .u8)).toArray w:=by
   have:=run_loadCells_list (P:=P) w ad (xs.map (Value.int .u8)) (fun j v hj=>by
    obtain⟨ad',e1,e2⟩:=q3 j v hj
    cases e1;exact e2)
   simpa using this
  rw[run_bytesToString w _ _ cap xs hl,foldl_push_bytes]
  simp[vB,ByteArray.empty,ByteArray.emptyWithCapacity]
  rfl
end
section
variable [aq]{P:Program}{w w0:World}{μ:Mu}{S:ar}{H Hh:Heap}{B:Nat}
omit [aq] in
theorem pN {ρa:Operand→AV}{ρ:Operand→Value}(hρ:∀ x,VR μ S H (ρa x) (ρ x)){lo hi:Option Operand}{isS:Bool}{len cap:Nat}{l h:Int}(hlc:len≤cap)
  (hl:bound (lo.map ρa) 0=some l) (hh:bound (hi.map ρa) len=some h) (k1:0≤l) (k2:l≤h) (k3:h≤(cap:Int)) :
  (cn isS len cap (lo.map ρ) (hi.map ρ) none).run P w = .ok (l.toNat,h.toNat,cap) w:=by
 cases hi with
 | none=>
  simp only[dq,bound,bj] at hh
  subst hh
  cases lo with
  | none=>
   simp only[dq,bound,bj] at hl
   subst hl
   simp[cn]
  | some x=>
   have:=eV (P:=P) (w:=w) (y:=len) (code:=.sliceB) hρ hl k1 k2
   simp[cn,this]
 | some y=>
  have b1:=eV (P:=P) (w:=w) (y:=cap) (code:=if isS then .sliceAcap else .sliceAlen) hρ hh (by omega) (by omega)
  cases lo with
  | none=>
   simp only[dq,bound,bj] at hl
   subst hl
   simp[cn,b1]
  | some x=>
   have:=eV (P:=P) (w:=w) (y:=h.toNat) (code:=.sliceB) hρ hl k1 (by omega)
   simp[cn,b1,this]
omit [aq] in
theorem wY {ρa:Operand→AV}{ρ:Operand→Value}(hρ:∀ x,VR μ S H (ρa x) (ρ x)){lo:Option Operand}{hi mx:Operand}{isS:Bool}{len cap:Nat}{d:Int}{k:IntKind}{l h m:Int}
  (hl:bound (lo.map ρa) 0=some l) (hh:bound (some (ρa hi)) d=some h) (hm:ρa mx = .lit (.int k m)) (k1:0≤l) (k2:l≤h) (k3:h≤m) (k4:m≤(cap:Int)) :
  (cn isS len cap (lo.map ρ) (some (ρ hi)) (some (ρ mx))).run P w = .ok (l.toNat,h.toNat,m.toNat) w:=by
 have b0:=eV (P:=P) (w:=w) (x:=mx) (d:=0) (n:=m) (y:=cap) (code:=if isS then .slice3Acap else .slice3Alen) hρ (by rw[hm];rfl) (by omega) k4
 have b1:=eV (P:=P) (w:=w) (y:=m.toNat) (code:=.slice3B) hρ hh (by omega) (by omega)
 cases lo with
 | none=>
  simp only[dq,bound,bj] at hl
  subst hl
  simp[cn,b0,b1]
 | some x=>
  have:=eV (P:=P) (w:=w) (y:=h.toNat) (code:=.slice3C) hρ hl k1 (by omega)
  simp[cn,b0,b1,this]
theorem sB (R:Rel μ S H B w0 w){i g:Nat}{t:TypeId}{e:Ty}{xs:List e.T}(hH:H i=some (.row t e g xs)){l:Lc}(hm:μ i=some l):xs.length≤l.cap:=by
 obtain⟨l',h1,hO⟩:=R.obj i _ hH
 have:l'=l:=bm (h1.symm.trans hm)
 subst this
 exact hO.1.1
omit [aq] in
theorem adb {a b c d:Bool}(h:(a&&b&&c&&d)=true):a=true∧b=true∧c=true∧d=true:=by
 cases a<;>cases b<;>cases c<;>cases d<;>simp_all
structure View (μ:Mu)(H:Heap)(i g a b:Nat)(whole:Bool)(v:Value)(l:Lc):Prop where
 mu:μ i=some l
 row:∀ t e gc xs,H i=some (.row t e gc xs)→g≤gc∧(g=gc→a≤cond whole xs.length b∧cond whole xs.length b≤xs.length ∧
   ∃ ad,v = .slice ad (cond whole xs.length b-a) (l.cap-a)∧((a=0∨a<cond whole xs.length b)→ad=l.addr.map (·.add (a * e.size)))∧(ad=none→l.addr=none))
omit [aq] in
theorem R9 {i g:Nat}{v:Value}(h:VR μ S H (.sl i g) v):∃ l,View μ H i g 0 0 true v l:=by
 simp only[VR] at h
 obtain⟨_,l,h1,h2⟩:=h
 refine⟨l,h1,fun t e gc xs hH=>?_⟩
 obtain⟨k1,k2⟩:=h2 t e gc xs hH
 refine⟨k1,fun hg=>⟨pb _,bi _,l.addr,by rw[k2 hg];rfl,fun _=>?_,fun h=>h⟩⟩
 cases l.addr with
 | none=>rfl
 | some q=>simp[add_zero]
omit [aq] in
theorem lU {i g a b:Nat}{v:Value}(h:VR μ S H (.sub i g a b) v):∃ l,View μ H i g a b false v l:=by
 simp only[VR] at h
 obtain⟨_,l,h1,h2⟩:=h
 exact⟨l,h1,h2⟩
theorem Kk (sub:∀ i o,Hh i=some o→H i=some o)(R:Rel μ S H B w0 w){ρa:Operand→AV}{ρ:Operand→Value}(hρ:∀ x,VR μ S H (ρa x) (ρ x)){t:TypeId}{lo hi mx:Option Operand}{out:Out}
  {i g a b:Nat} {whole:Bool} {v:Value} {l:Lc} (hV:View μ H i g a b whole v l)
  (h:LD P Hh t i g a b whole (lo.map ρa) (hi.map ρa) (mx.map ρa)=some out) (hk:out.ok=true) :
  bQ P w w0 μ S H B (do pure (.value (← dC t v (lo.map ρ) (hi.map ρ) (mx.map ρ)))) out:=by
 unfold LD at h
 split at h
 case h_2=>simp at h
 rename_i el ht
 split at h
 case h_2=>simp at h
 rename_i _ _ inf te e g' xs hinf hHh
 have hH:=sub _ _ hHh
 split at h
 ·rename_i lv hv hl hhi hmx
  obtain⟨hc,rfl⟩:=ai h
  simp only[ba] at hc
  obtain⟨⟨c1,c2⟩,c3⟩:=hc
  have c1:=ae c1
  have c2:=ae c2
  subst c1
  have em:mx=none:=by cases mx<;>simp at hmx ⊢
  subst em
  simp only[Out.ok,ba,decide_eq_true_eq] at hk
  obtain⟨⟨k1,k2⟩,k3⟩:=hk
  have hcap:=sB R hH hV.mu
  obtain⟨p1,p2,ad,rfl,p3,p4⟩:=(hV.row _ _ _ _ hH).2 rfl
  have bd:=pN (P:=P) (w:=w) (isS:=true) hρ (len:=cond whole xs.length b-a) (cap:=l.cap-a) (by omega) hl hhi k1 k2 (by omega)
  refine aD R (u:=.slice (if l.cap-a=lv.toNat then ad else ad.map (·.add (lv.toNat * inf.size))) (hv.toNat-lv.toNat) (l.cap-a-lv.toNat)) ?_ ?_
  ·simp only[dC,lr,ap,aI ht,al,dq,bd,cS hinf,aw]
  ·simp only[VR]
   refine⟨⟨_,_,_,rfl⟩,l,hV.mu,fun t1 e1 g1 xs1 hH1=>?_⟩
   rw[hH] at hH1
   injection hH1 with hH1
   injection hH1 with q1 q2 q3 q4
   subst q2 q3
   cases q4
   refine⟨bi _,fun _=>⟨by omega,by omega,_,by congr 1<;>omega,fun hlt=>?_,fun hn=>?_⟩⟩
   ·have ha:a=0∨a<cond whole xs.length b:=by
     cases hw:whole with
     | true=>
      simp only[cond_true]
      rw[hw] at p1
      simp only[cond_true] at p1
      omega
     | false=>
      simp only[cond_false]
      rcases Bool.or_eq_true_iff.1 c3 with c3|c3
      ·exact .inl (ae c3)
      ·exact .inr (cP c3)
    rw[p3 ha]
    by_cases hz:l.cap-a=lv.toNat
    ·rw[if_pos hz]
     have h0:a=0∧lv.toNat=0:=by omega
     rw[h0.1,h0.2,jn]
    ·rw[if_neg hz]
     cases l.addr with
     | none=>rfl
     | some q=>simp only[du];rw[add_add,c2,← dp]
   ·refine p4 ?_
    split at hn
    ·exact hn
    ·simpa using hn
 ·rename_i lv hv k m hl hhi hmx
  obtain⟨hc,rfl⟩:=ai h
  simp only[ba] at hc
  obtain⟨c0,c1⟩:=hc
  have c1:=ae c1
  subst c1
  simp only[Out.ok,ba,decide_eq_true_eq] at hk
  obtain⟨⟨⟨k1,k2⟩,k3⟩,k4⟩:=hk
  have hcap:=sB R hH hV.mu
  obtain⟨p1,p2,ad,rfl,p3,p4⟩:=(hV.row _ _ _ _ hH).2 rfl
  cases hi with
  | none=>simp at c0
  | some hix=>
   cases mx with
   | none=>simp at hmx
   | some mxx=>
    simp only[du,bj] at hmx hhi
    have bd:=wY (P:=P) (w:=w) (isS:=true) (len:=cond whole xs.length b-a) (cap:=l.cap-a) hρ hl hhi hmx k1 k2 k3 (by omega)
    refine aD R (u:=.slice (if m.toNat=lv.toNat then ad else ad.map (·.add (lv.toNat * inf.size))) (hv.toNat-lv.toNat) (m.toNat-lv.toNat)) ?_ (by simp only[VR])
    simp only[dC,lr,ap,aI ht,al,du,bd,cS hinf,aw]
 ·simp at h
theorem Hw (R:Rel μ S H B w0 w){ρa:Operand→AV}{ρ:Operand→Value}(hρ:∀ x,VR μ S H (ρa x) (ρ x)){t:TypeId}{x mx:Operand}{lo hi:Option Operand}{e:Ty}{xs:List e.T}{out:Out}(hs:ρa x = .cont e xs)
  (h:pQ P t e xs (lo.map ρa) (hi.map ρa) (ρa mx)=some out) (hk:out.ok=true) :
  bQ P w w0 μ S H B (do pure (.value (← dC t (ρ x) (lo.map ρ) (hi.map ρ) (some (ρ mx))))) out:=by
 have hx:=hρ x
 rw[hs] at hx
 obtain⟨a,cap,e1,e2,e3⟩:=uw hx
 simp only[List.cons.injEq,and_true] at e1
 unfold pQ at h
 split at h
 case h_2=>simp at h
 rename_i el l hh k m ht hl hhi hmx
 split at h
 case h_2=>simp at h
 rename_i inf hinf
 obtain⟨hc,rfl⟩:=ai h
 simp only[ba] at hc
 obtain⟨c0,hc⟩:=hc
 have hc:=ae hc
 simp only[Out.ok,ba,decide_eq_true_eq] at hk
 obtain⟨⟨⟨k1,k2⟩,k3⟩,k4⟩:=hk
 cases hi with
 | none=>simp at c0
 | some hix=>
  have b:=wY (P:=P) (w:=w) (isS:=true) (len:=xs.length) (cap:=cap) hρ hl hhi hmx k1 k2 k3 (by have:=e2.1;omega)
  refine aD R (u:=.slice (if m.toNat=l.toNat then a else a.map (·.add (l.toNat * inf.size))) (hh.toNat-l.toNat) (m.toNat-l.toNat)) ?_ ?_
  ·rw[e1]
   simp only[dC,lr,ap,aI ht,al,du,b,cS hinf,aw]
  ·have hlen:((xs.take hh.toNat).drop l.toNat).length=hh.toNat-l.toNat:=by
    rw[ml,gl];omega
   simp only[VR,Rd]
   refine⟨_,m.toNat-l.toNat,by rw[hlen],⟨by rw[hlen];omega,fun hn=>?_⟩,fun j x hj=>?_⟩
   ·have:a=none:=by
     split at hn
     ·exact hn
     ·simpa using hn
    have:=e2.2 this
    have:=e2.1
    omega
   ·have hjl:j<hh.toNat-l.toNat:=by rw[← hlen];exact (db.1 hj).1
    rw[ft,dv,if_pos (by omega)] at hj
    obtain⟨ad,c,rfl,q1,q2⟩:=e3 _ x hj
    refine⟨ad.add (l.toNat * inf.size),c,?_,q1,fun m v hm=>?_⟩
    ·rw[if_neg (by omega)];rfl
    ·rw[add_add,hc]
     have:=q2 m v hm
     rw[dp,ik] at this
     exact this
omit [aq] in
theorem Dm {i q k a b t ti:Nat}{xs:List FT}{st:gz}{v:Value}(hx:VR μ S H (.cH i q k a b) v)(hi:H i=some (.aO t ti q xs st)) :
  ∃ l,μ i=some l∧st.mine k∧a≤b∧b≤(l.at k).cap∧∃ ad,v = .slice ad (b-a) ((l.at k).cap-a)∧((a=0∨a<b)→ad=(l.at k).addr.map (·.add a))∧(ad=none→(l.at k).addr=none):=by
 simp only[VR] at hx
 obtain⟨_,l,hm,h⟩:=hx
 exact⟨l,hm,(h _ _ _ _ _ hi).2 rfl⟩
omit [aq] in
theorem Fp {i q k a b t ti l0 h0:Nat}{xs:List FT}{st:gz}{l:Lc}{ad:Option Addr}(hi:H i=some (.aO t ti q xs st))(hm:μ i=some l)(hmi:st.mine k)(hb:b≤(l.at k).cap)(h1:l0≤h0)(h2:h0≤b-a)(hab:a≤b)
  (p3:(a=0∨a<b)→ad=(l.at k).addr.map (·.add a)) (p4:ad=none→(l.at k).addr=none) (hc:a=0∨l0=0) :
  VR μ S H (.cH i q k (a+l0) (a+h0)) (.slice (if (l.at k).cap-a=l0 then ad else ad.map (·.add (l0 * 1))) (h0-l0) ((l.at k).cap-a-l0)):=by
 simp only[VR]
 refine⟨⟨_,_,_,rfl⟩,l,hm,fun t1 ti1 q1 xs1 st1 hH1=>?_⟩
 rw[hi] at hH1;cases hH1
 refine⟨bi _,fun _=>⟨hmi,by omega,by omega,_,by congr 1<;>omega,fun hlt=>?_,fun hn=>?_⟩⟩
 ·have ha:a=0∨a<b:=by omega
  rw[p3 ha]
  by_cases hz:(l.at k).cap-a=l0
  ·rw[if_pos hz]
   have h0:a=0∧l0=0:=by omega
   rw[h0.1,h0.2,jn]
  ·rw[if_neg hz]
   cases (l.at k).addr with
   | none=>rfl
   | some q=>simp only[du];rw[add_add,Nat.mul_one]
 ·refine p4 ?_
  split at hn
  ·exact hn
  ·simpa using hn
theorem Rh (sub:∀ i o,Hh i=some o→H i=some o)(R:Rel μ S H B w0 w){ρa:Operand→AV}{ρ:Operand→Value}(hρ:∀ x,VR μ S H (ρa x) (ρ x)){t:TypeId}{lo hi mx:Option Operand}{out:Out}
  {i q k a b:Nat} {v:Value} (hx:VR μ S H (.cH i q k a b) v) (h:vo P Hh t i q k a b (lo.map ρa) (hi.map ρa) (mx.map ρa)=some out) (hk:out.ok=true) :
  bQ P w w0 μ S H B (do pure (.value (← dC t v (lo.map ρ) (hi.map ρ) (mx.map ρ)))) out:=by
 unfold vo at h
 split at h
 case h_2=>simp at h
 rename_i el ht
 split at h
 case h_2=>simp at h
 rename_i _ _ inf te ti q' xs st hinf hHh
 have hH:=sub _ _ hHh
 split at h
 case h_2=>simp at h
 rename_i lv hv hl hhi hmx
 obtain⟨hc,rfl⟩:=ai h
 simp only[ba] at hc
 obtain⟨⟨c1,c2⟩,c3⟩:=hc
 have c1:=ae c1
 have c2:=ae c2
 have c3:=ae c3
 subst c1 c3
 have em:mx=none:=by cases mx<;>simp at hmx ⊢
 subst em
 simp only[Out.ok,ba,decide_eq_true_eq] at hk
 obtain⟨⟨⟨k0,k1⟩,k2⟩,k3⟩:=hk
 obtain⟨l,hm,hmi,p0,p1,ad,rfl,p3,p4⟩:=Dm hx hH
 have bd:=pN (P:=P) (w:=w) (isS:=true) hρ (len:=b-0) (cap:=(l.at k).cap-0) (by omega) hl hhi k1 k2 (by omega)
 refine aD R (u:=.slice (if (l.at k).cap-0=lv.toNat then ad else ad.map (·.add (lv.toNat * inf.size))) (hv.toNat-lv.toNat) ((l.at k).cap-0-lv.toNat)) ?_ ?_
 ·simp only[dC,lr,ap,aI ht,al,dq,bd,cS hinf,aw]
 ·rw[c2]
  have:=Fp (μ:=μ) (S:=S) (l0:=lv.toNat) (h0:=hv.toNat) hH hm hmi p1 (by omega) (by omega) p0 p3 p4 (.inl rfl)
  rwa [dt,dt] at this
theorem Rj (sub:∀ i o,Hh i=some o→H i=some o)(R:Rel μ S H B w0 w){ρa:Operand→AV}{ρ:Operand→Value}(hρ:∀ x,VR μ S H (ρa x) (ρ x)){t:TypeId}{hi:Operand}{out:Out}
  {i q k a b:Nat} {v:Value} (hx:VR μ S H (.cH i q k a b) v) (h:wX P Hh t i q k a b (ρa hi)=some out) (hk:out.ok=true) :
  bQ P w w0 μ S H B (do pure (.value (← dC t v none (some (ρ hi)) none))) out:=by
 unfold wX at h
 split at h
 case h_2=>simp at h
 rename_i _ _ el kk hv ht hhi
 split at h
 case h_2=>simp at h
 rename_i _ _ inf te ti q' xs st hinf hHh
 have hH:=sub _ _ hHh
 obtain⟨hc,rfl⟩:=ai h
 simp only[ba] at hc
 obtain⟨c1,c2⟩:=hc
 have c1:=ae c1
 have c2:=ae c2
 subst c1
 simp only[Out.ok,ba,decide_eq_true_eq] at hk
 obtain⟨⟨k0,k1⟩,k2⟩:=hk
 obtain⟨l,hm,hmi,p0,p1,ad,rfl,p3,p4⟩:=Dm hx hH
 have bd:=pN (P:=P) (w:=w) (isS:=true) (lo:=none) (hi:=some hi) hρ (len:=b-a) (cap:=(l.at k).cap-a) (l:=0) (h:=hv) (by omega) rfl (by simp only[du];rw[hhi];rfl) (Int.le_refl _) k1 (by omega)
 simp only[dq,du] at bd
 refine aD R (u:=.slice (if (l.at k).cap-a=(0:Int).toNat then ad else ad.map (·.add ((0:Int).toNat * inf.size))) (hv.toNat-(0:Int).toNat) ((l.at k).cap-a-(0:Int).toNat)) ?_ ?_
 ·simp only[dC,lr,ap,aI ht,al,bd,cS hinf,aw]
 ·rw[c2]
  have:=Fp (μ:=μ) (S:=S) (l0:=0) (h0:=hv.toNat) hH hm hmi p1 (by omega) (by omega) p0 p3 p4 (.inr rfl)
  rwa [jn] at this
omit [aq] in
theorem QJ {l:Lc}{t ti:TypeId}{xs:List FT}{st:gz}(D:cT S w B l t ti xs st){k:Nat}(hk:k<xs.length)(hc:0<(l.at k).cap):∃ b,(l.at k).blk=some b:=by
 cases hb:(l.at k).blk with
 | some b=>exact⟨b,rfl⟩
 | none=>
  refine pA (fun hm:st.mine k=>?_) (fun hm=>?_)
  ·rcases (D.row k _ (Mc hk) hm).2 with h|⟨b,_,h,_⟩
   ·omega
   ·rw[hb] at h;cases h
  ·have h2:=D.out k (.inr hm)
   have:(l.at k).cap=0:=by
    show (l.cH k).2=0
    rw[h2]
   omega
theorem Ls (sub:∀ i o,Hh i=some o→H i=some o)(R:Rel μ S H B w0 w){t el:TypeId}{inf:TypeInfo}{j te ti q:Nat}{xs:List FT}{st:gz}{i:Int}{kk:IntKind}{a:Value}(hx:VR μ S H (.zR j) a)
  (ht:P.underlying t=some (.slice el)) (hinf:P.info? el=some inf) (hH:H j=some (.aO te ti q xs st)) (hsz:inf.size=3) (hk:0≤i∧i<(xs.length:Int)) {c:Bool} :
  bQ P w w0 μ S H B (do pure (.value (← eK t a (.int kk i)))) (.val c (.ur j i.toNat 0)):=by
 simp only[VR] at hx
 obtain⟨_,l,hm,h2⟩:=hx
 have hv:=h2 _ _ _ _ _ hH
 subst hv
 obtain⟨b,_,hb,_⟩:=ec (gX R hH hm) (k:=i.toNat) (by omega)
 have hl:l.addr=some ⟨b,0,none⟩:=by simp[Lc.addr,hb]
 rw[hl]
 refine aD R (u:=.pointer (some ⟨b,i.toNat * 3,none⟩)) ?_ ?_
 ·simp only[eK,ap,asIntOf,aw,al,aI ht,if_pos hk,ee,cS hinf,aN,hsz,dt]
 ·simp only[VR]
  exact⟨⟨_,rfl⟩,l,hm,fun _ _ _ _ _ _=>⟨b,hb,rfl⟩⟩
theorem LN (R:Rel μ S H B w0 w){t el:TypeId}{inf:TypeInfo}{j te ti q k a b:Nat}{xs:List FT}{st:gz}{i:Int}{kk:IntKind}{v:Value}(hx:VR μ S H (.cH j q k a b) v)
  (ht:P.underlying t=some (.slice el)) (hinf:P.info? el=some inf) (hH:H j=some (.aO te ti q xs st)) (hsz:inf.size=1) (hlt:k<xs.length) (hk:0≤i∧i<((b-a:Nat):Int)) {c:Bool} :
  bQ P w w0 μ S H B (do pure (.value (← eK t v (.int kk i)))) (.val c (.Mp j q k (a+i.toNat))):=by
 obtain⟨l,hm,hmi,p0,p1,ad,rfl,p3,p4⟩:=Dm hx hH
 obtain⟨bk,hb⟩:=QJ (gX R hH hm) hlt (by omega)
 have hl:(l.at k).addr=some ⟨bk,0,none⟩:=by simp[Lc.addr,hb]
 have had:=p3 (.inr (by omega))
 rw[hl] at had
 simp only[du,aN,dt] at had
 subst had
 refine aD R (u:=.pointer (some ⟨bk,a+i.toNat,none⟩)) ?_ ?_
 ·simp only[eK,ap,asIntOf,aw,al,aI ht,if_pos hk,ee,cS hinf,aN,hsz,Nat.mul_one]
 ·simp only[VR]
  refine⟨⟨_,rfl⟩,l,hm,fun t1 ti1 q1 xs1 st1 hH1=>?_⟩
  rw[hH] at hH1;cases hH1
  exact⟨bi _,fun _=>⟨hmi,bk,hb,rfl⟩⟩
theorem pL (R:Rel μ S H B w0 w){i t ti q q' k:Nat}{l:Lc}{xs:List FT}{st st':gz}(hm:μ i=some l)(hi:H i=some (.aO t ti q xs st))(hmj:∀ j,j≠k→(st'.mine j↔st.mine j))(hmk:st'.mine k)(hhj:∀ j,j≠k→st'.head j→st.head j)(hhk:¬ st'.head k)(hk:k<xs.length)(hq:q<q'∨q=q'∧¬ st.mine k){w':World}{zs:List Int}{cs:List Value}{v:Value}
  (hR:gY S (.int .u8) zs cs) (hown:w'.ownsRow B ti 1 v zs.length cs) (hv:∀ b,v.ownBlock=some b→(l.at k).blk=some b∨w.heap.size≤b) (hg:w.grownBy w' (l.at k).blk) :
  ∃ μ',Rel μ' S (aP H i (some (.aO t ti q' (xs.set k ((rd cM xs k).1,(zs,(rd cM xs k).2.2))) st'))) B w0 w' ∧
   Ext μ S H μ' S (aP H i (some (.aO t ti q' (xs.set k ((rd cM xs k).1,(zs,(rd cM xs k).2.2))) st'))) ∧
   VR μ' S (aP H i (some (.aO t ti q' (xs.set k ((rd cM xs k).1,(zs,(rd cM xs k).2.2))) st'))) (.cH i q' k 0 zs.length) v:=by
 have D:=gX R hi hm
 have hS:∀ b,v.ownBlock=some b→S b=none:=by
  intro b hb
  rcases hv b hb with h|h
  ·exact (R.CR hm (Lc.ji h)).2
  ·cases hs:S b with
   | none=>rfl
   | some o=>have:=R.js hs;omega
 obtain⟨l2,rfl,h1,hno,hO⟩:=jt (μ:=μ) (H:=H) (g:=0) (e:=.int .u8) hR hS hown
 have hO:iD S w' B l2 ti (.int .u8) zs:=hO
 rw[h1] at hv
 let l':Lc:=⟨l.blk,l.cap,fun j=>if j=k then (l2.blk,l2.cap) else l.cH j⟩
 have atk:l'.at k=l2:=by
  obtain⟨b2,c2,n2⟩:=l2
  simp only at hno
  subst hno
  simp only[Lc.at,l',if_pos]
 have atj:∀ j,j≠k→l'.at j=l.at j:=fun j hj=>by simp only[Lc.at,l',if_neg hj]
 have ink:(l'.cH k).1=l2.blk:=by simp only[l',if_pos]
 have inj:∀ j,j≠k→l'.cH j=l.cH j:=fun j hj=>by simp only[l',if_neg hj]
 have lt:∀ b,l.has b→b<w.heap.size:=fun b hb=>R.p8 hm hb
 have same:∀ b,l.has b→(l.at k).blk≠some b→w'.heap[b]? = w.heap[b]?:=fun b hb hne=>hg.block b (lt b hb) (fun e=>hne e.symm)
 have fresh:∀ b,l2.blk=some b→(l.at k).blk=some b∨w.heap.size≤b:=hv
 have hlen:(xs.set k ((rd cM xs k).1,(zs,(rd cM xs k).2.2))).length=xs.length:=km
 have DR:cT S w' B l' t ti (xs.set k ((rd cM xs k).1,(zs,(rd cM xs k).2.2))) st':=by
  refine⟨by rw[hlen];exact D.len,fun j hj=>?_,fun j x hx hmx=>?_,fun j j' b hb hb'=>?_,fun j b hb=>?_,?_⟩
  ·rw[hlen] at hj
   have hjk:j≠k:=by
    rintro rfl
    rcases hj with h|h
    ·omega
    ·exact h hmk
   rw[inj j hjk];exact D.out j (hj.imp id fun h h'=>h ((hmj j hjk).2 h'))
  ·by_cases e:j=k
   ·subst e
    rw[dE hk] at hx
    cases hx
    rw[atk];exact hO
   ·rw[fg (pa e)] at hx
    rw[atj j e]
    have h:=D.row j x hx ((hmj j e).1 hmx)
    exact gP (fun _ _ h=>h) (fun b hb=>same b (Lc.ji hb) (fun e2=>e (D.one j k b hb e2))) (fun b hb=>(fU h hb).2.2) h
  ·by_cases e:j=k
   ·subst e
    by_cases e':j'=j
    ·exact e'.symm
    rw[ink] at hb
    rw[inj j' e'] at hb'
    rcases fresh b hb with h|h
    ·exact absurd (D.one j' j b hb' h) e'
    ·have:=lt b (.inr ⟨j',hb'⟩);omega
   ·rw[inj j e] at hb
    by_cases e':j'=k
    ·subst e'
     rw[ink] at hb'
     rcases fresh b hb' with h|h
     ·exact D.one j j' b hb h
     ·have:=lt b (.inr ⟨j,hb⟩);omega
    ·rw[inj j' e'] at hb'
     exact D.one j j' b hb hb'
  ·intro hc
   have hc:l.blk=some b:=hc
   by_cases e:j=k
   ·subst e
    rw[ink] at hb
    rcases fresh b hb with h|h
    ·exact D.off j b h hc
    ·have:=lt b (.inl hc);omega
   ·rw[inj j e] at hb
    exact D.off j b hb hc
  ·obtain⟨b,cs,e1,q1,q2,q3,q4,q5⟩:=ec D hk
   refine .inr ⟨b,cs,e1,q1,q2,?_,q4,fun j x hx=>?_⟩
   ·rw[same b (.inl e1) (fun h=>D.off k b h e1)];exact q3
   ·by_cases e:j=k
    ·subst e
     rw[dE hk] at hx
     cases hx
     obtain⟨f0,f2,u,f1,f3,f4⟩:=q5 j _ (Mc hk)
     exact⟨f0,f2,u,f1,f3,fun h=>absurd h hhk,fun h=>absurd hmk h⟩
    ·rw[fg (pa e)] at hx
     obtain⟨f0,f2,u,f1,f3,f4⟩:=q5 j x hx
     exact⟨f0,f2,u,f1,f3,fun h=>by rw[atj j e];exact f4.1 (hhj j e h),fun h=>f4.2 fun h'=>h ((hmj j e).2 h')⟩
 have E:Ext μ S H (aP μ i (some l')) S (aP H i (some (.aO t ti q' (xs.set k ((rd cM xs k).1,(zs,(rd cM xs k).2.2))) st'))):=Ext.GM hm hi (hq.imp id fun h=>⟨h.1,fun j hj=>by
  have hjk:j≠k:=fun e=>h.2 (by rw[← e];exact hj)
  exact⟨(hmj j hjk).2 hj,inj j hjk⟩⟩) rfl rfl hlen.symm
 refine⟨aP μ i (some l'),R.abu (fun b hb=>?_) (fun b hb=>⟨l,hm,Lc.ji hb⟩) hg E DR (.inr ⟨_,_,_,_,_,rfl⟩),E,?_⟩
 ·rcases hb with hb|⟨j,hb⟩
  ·exact .inl ⟨l,hm,.inl hb⟩
  ·by_cases e:j=k
   ·subst e
    rw[ink] at hb
    rcases fresh b hb with h|h
    ·exact .inl ⟨l,hm,Lc.ji h⟩
    ·exact .inr h
   ·rw[inj j e] at hb
    exact .inl ⟨l,hm,.inr ⟨j,hb⟩⟩
 ·have:=PS (μ:=aP μ i (some l')) (S:=S) (H:=aP H i (some (.aO t ti q' (xs.set k ((rd cM xs k).1,(zs,(rd cM xs k).2.2))) st'))) (k:=k) (n:=zs.length) (au _ _ _) (au _ _ _) hmk (by rw[atk];exact hO.1.1)
  rw[atk] at this
  exact this
theorem DI (sub:∀ i o,Hh i=some o→H i=some o)(R:Rel μ S H B w0 w){t ty:TypeId}{i q k a b:Nat}{x:AV}{vs vx:Value}{out:Out}(hs:VR μ S H (.cH i q k a b) vs)(hx:VR μ S H x vx)
  (h:ia P Hh t i q k a b x=some out) (hk:out.ok=true) :
  bQ P w w0 μ S H B (do pure (.value (← ib #[t,t] ty #[vs,vx]))) out:=by
 unfold ia at h
 split at h
 case h_2=>simp at h
 rename_i el ht
 split at h
 case h_2=>simp at h
 rename_i _ _ inf te ti q' xs hinf hHh
 have hH:=sub _ _ hHh
 split at h
 case h_2=>simp at h
 rename_i z hz
 split at h
 case h_2=>simp at h
 rename_i _ _ zc ys hzc hy
 obtain⟨hc,rfl⟩:=ai h
 simp only[ba] at hc
 obtain⟨⟨⟨⟨⟨c1,c2⟩,c3⟩,c4⟩,c5⟩,c6⟩:=hc
 have c1:=ae c1
 have c2:=ae c2
 have c3:=ae c3
 have c4:=ae c4
 have c5:=ae c5
 have c6:=ae c6
 subst c2 c3 c4
 simp only[Out.ok,ba,decide_eq_true_eq] at hk
 obtain⟨⟨hlt,hb⟩,hroom⟩:=hk
 subst hb
 have hzs:z.cells.size=inf.size:=by
  have:=aU (bU (jk (μ:=μ) (S:=S) (H:=H) z) hzc)
  rw[c1] at this
  simpa using this.symm
 obtain⟨l,hm,hmi,p0,p1,ad,rfl,p3,p4⟩:=Dm hs hH
 have had:ad=(l.at k).addr:=by
  rw[p3 (.inl rfl)]
  cases (l.at k).addr with
  | none=>rfl
  | some a=>simp[add_zero]
 subst had
 have D:=gX R hH hm
 have hrk:=D.row k _ (Mc hlt) trivial
 obtain⟨cs,r1,r2⟩:=lZ (μ:=μ) (H:=H) (g:=0) (e:=.int .u8) hrk
 obtain⟨a,cap,ds,rfl,q1,q2,q3⟩:=iv sub R hx hy
 have hb1:lL (.slice (l.at k).addr (rd cM xs k).2.1.length (l.at k).cap)=(l.at k).blk:=by cases hb:(l.at k).blk<;>simp[Lc.addr,hb,lL]
 simp only[pB]
 have hll:(rd cM xs k).2.1.length+na ys=na ((rd cM xs k).2.1++ys):=by rw[fj]
 cases a with
 | none=>
  have:ys=[]:=(q1 rfl).1
  subst this
  have hcap:=(q1 rfl).2
  subst hcap
  have r2':w.ownsRow B ti 1 (.slice (l.at k).addr (rd cM xs k).2.1.length (l.at k).cap) ((rd cM xs k).2.1++[]).length cs:=by rw[kn];exact r2
  obtain⟨μ',g1,g2,g3⟩:=pL (zs:=(rd cM xs k).2.1++[]) R hm hH (st':=.lJ k) (fun _ _=>pd) trivial (fun _ _ _=>trivial) (fun h=>h rfl) hlt (.inl (my _)) (by rw[kn];exact r1) r2' (fun b hb=>.inl (hb1.symm.trans hb)) (nm w _)
  refine⟨.value (.slice (l.at k).addr (rd cM xs k).2.1.length (l.at k).cap),_,w,μ',?_,.inl rfl,g1,g2,?_⟩
  ·have hr:=run_append_owned_none (P:=P) w B t ty ti inf 1 ht hinf _ _ _ r2
   simp only[ap,nd,hr,al,aw]
  ·simp only[Out.res];rw[hll];exact g3
 | some ad=>
  have hn:∀ j u,ds[j]? = some u→w.cell? (ad.add j)=some u:=fun j u hj=>by
   obtain⟨ad',e1,e2⟩:=q3 j u hj
   cases e1;exact e2
  obtain⟨v',w',a1,a2,a3,_,a5⟩:=run_append_own_at (P:=P) w B t ty ti inf z 1 inf.bytes ht hinf hz c5 rfl (by omega) (by omega) _ _ cs r2 ad ys.length cap ds (bz q2) hn (iU q2) (by rw[max_eq];omega) (by rw[c6];omega) R.size
  rw[hb1] at a3 a5
  obtain⟨μ',g1,g2,g3⟩:=pL (zs:=(rd cM xs k).2.1++ys) R hm hH (st':=.lJ k) (fun _ _=>pd) trivial (fun _ _ _=>trivial) (fun h=>h rfl) hlt (.inl (my _)) (kF r1 q2) (by rw[fj];exact a2) (fun b hb=>a5.imp (fun h=>h.symm.trans hb) (fun h=>Nat.le_of_eq (bm (h.symm.trans hb)))) a3
  refine⟨.value v',_,w',μ',?_,.inl rfl,g1,g2,?_⟩
  ·simp only[ap,a1,al,aw]
  ·simp only[Out.res];rw[hll];exact g3
theorem GO (sub:∀ i o,Hh i=some o→H i=some o)(R:Rel μ S H B w0 w){ρa:Operand→AV}{ρ:Operand→Value}(hρ:∀ x,VR μ S H (ρa x) (ρ x)){t:TypeId}{x:Operand}{lo hi mx:Option Operand}{out:Out}
  (h:qA P Hh t (ρa x) (lo.map ρa) (hi.map ρa) (mx.map ρa)=some out) (hk:out.ok=true) :
  bQ P w w0 μ S H B (do pure (.value (← dC t (ρ x) (lo.map ρ) (hi.map ρ) (mx.map ρ)))) out:=by
 have hx:=hρ x
 unfold qA at h
 split at h
 ·rename_i i q k a b he
  rw[he] at hx
  split at h
  ·rename_i h1 h2 h3
   rename_i hv
   cases lo with
   | some _=>simp at h1
   | none=>
    cases mx with
    | some _=>simp at h3
    | none=>
     cases hi with
     | none=>simp at h2
     | some y=>
      simp only[du,bj] at h2
      subst h2
      exact Rj sub R hρ hx h hk
  ·exact Rh sub R hρ hx h hk
 ·rename_i i g he
  rw[he] at hx
  obtain⟨l,hV⟩:=R9 hx
  exact Kk sub R hρ hV h hk
 ·rename_i i g a b he
  rw[he] at hx
  obtain⟨l,hV⟩:=lU hx
  exact Kk sub R hρ hV h hk
 ·rename_i e xs he
  cases mx with
  | none=>
   simp only[dq] at h ⊢
   rw[← he] at h
   exact zK (mx:=none) R hρ h hk
  | some m=>exact Hw R hρ he h hk
 ·exact zK R hρ h hk
theorem SH (sub:∀ i o,Hh i=some o→H i=some o)(R:Rel μ S H B w0 w){t:TypeId}{x y:AV}{a b:Value}{out:Out}(hx:VR μ S H x a)(hy:VR μ S H y b)(h:Eu P Hh t x y=some out)(hk:out.ok=true) :
  bQ P w w0 μ S H B (do pure (.value (← eK t a b))) out:=by
 unfold Eu at h
 split at h
 case h_6=>exact WL sub R hx hy h hk
 case h_5=>
  rename_i j off
  split at h
  case h_2=>simp at h
  rename_i k i
  simp only[VR] at hy;subst hy
  split at h
  case h_2=>simp at h
  rename_i n el ht
  split at h
  case h_2=>simp at h
  rename_i inf hinf
  cases h
  simp only[Out.ok,ba,decide_eq_true_eq] at hk
  simp only[VR] at hx
  obtain⟨bk,c,q1,q2,rfl⟩:=hx
  refine aD R (u:=.pointer (some ⟨bk,off+i.toNat * inf.size,none⟩)) ?_ ?_
  ·simp only[eK,eJ,ap,asIntOf,aw,al,aI ht,if_pos hk,ee,cS hinf,aN]
  ·simp only[VR]
   exact⟨bk,c,q1,q2,rfl⟩
 case h_1=>
  rename_i j g lo hi
  split at h
  case h_2=>simp at h
  rename_i k i
  simp only[VR] at hy;subst hy
  split at h
  case h_2=>simp at h
  rename_i el ht
  split at h
  case h_2=>simp at h
  rename_i _ _ inf te e g' xs hinf hHh
  have hH:=sub _ _ hHh
  obtain⟨hc,rfl⟩:=ai h
  simp only[ba] at hc
  have hgg:=ae hc.1
  have hsz:=ae hc.2
  subst hgg
  simp only[Out.ok,ba,decide_eq_true_eq] at hk
  obtain⟨l,hV⟩:=lU hx
  obtain⟨p1,p2,ad,rfl,p3,p4⟩:=(hV.row _ _ _ _ hH).2 rfl
  simp only[cond_false] at p1 p2 p3 hk
  have hlt:lo+i.toNat<xs.length:=by omega
  obtain⟨bk,hb⟩:=u7 R hH hV.mu hlt
  have hl:l.addr=some ⟨bk,0,none⟩:=by simp[Lc.addr,hb]
  have had:=p3 (.inr (by omega))
  rw[hl] at had
  simp only[du,aN,dt] at had
  subst had
  refine aD R (u:=.pointer (some ⟨bk,(lo+i.toNat) * e.size,none⟩)) ?_ ?_
  ·simp only[eK,ap,asIntOf,aw,al,aI ht,cond_false,if_pos hk,ee,cS hinf,aN,hsz,← dp]
  ·simp only[VR]
   refine⟨⟨_,rfl⟩,l,hV.mu,fun t1 e1 g1 xs1 hH1=>?_⟩
   rw[hH] at hH1
   injection hH1 with hH1
   injection hH1 with k1 k2 k3 k4
   subst k2 k3
   exact⟨bi _,fun _=>⟨bk,hb,rfl⟩⟩
 case h_2=>
  rename_i j n
  split at h
  case h_2=>simp at h
  rename_i k i
  simp only[VR] at hy;subst hy
  split at h
  case h_2=>simp at h
  rename_i el ht
  split at h
  case h_2=>simp at h
  rename_i inf hinf
  obtain⟨hc,rfl⟩:=ai h
  have hsz:=ae hc
  simp only[Out.ok,ba,decide_eq_true_eq] at hk
  simp only[VR] at hx
  obtain⟨bk,c,q1,q2,cap,q3,rfl⟩:=hx
  refine aD R (u:=.pointer (some ⟨bk,i.toNat,none⟩)) ?_ ?_
  ·simp only[eK,ap,asIntOf,aw,al,aI ht,if_pos hk,ee,cS hinf,aN,hsz,dt,Nat.mul_one]
  ·simp only[VR]
   exact⟨bk,c,q1,q2,rfl⟩
 case h_3=>
  rename_i j
  split at h
  case h_2=>simp at h
  rename_i k i
  simp only[VR] at hy;subst hy
  split at h
  case h_2=>simp at h
  rename_i el ht
  split at h
  case h_2=>simp at h
  rename_i _ _ inf te ti q xs st hinf hHh
  obtain⟨hc,rfl⟩:=ai h
  simp only[Out.ok,ba,decide_eq_true_eq] at hk
  exact Ls sub R hx ht hinf (sub _ _ hHh) (ae hc) hk
 case h_4=>
  rename_i j q k lo hi
  split at h
  case h_2=>simp at h
  rename_i kk i
  simp only[VR] at hy;subst hy
  split at h
  case h_2=>simp at h
  rename_i el ht
  split at h
  case h_2=>simp at h
  rename_i _ _ inf te ti q' xs st hinf hHh
  obtain⟨hc,rfl⟩:=ai h
  simp only[ba] at hc
  have hgg:=ae hc.1
  subst hgg
  simp only[Out.ok,ba,decide_eq_true_eq] at hk
  exact LN R hx ht hinf (sub _ _ hHh) (ae hc.2) hk.1.1 ⟨hk.1.2,hk.2⟩
theorem QG {uV:∀ {t ty:TypeId} {x:AV} {v:Value} {out:Out},VR μ S H x v→LO P Hh t x=some out→bQ P w w0 μ S H B (do pure (.value (← lO #[t] ty #[v]))) out}
  (sub:∀ i o,Hh i=some o→H i=some o) (R:Rel μ S H B w0 w) {t ty:TypeId} {x:AV} {v:Value} {out:Out} (hx:VR μ S H x v) (h:DP P Hh t x=some out) :
  bQ P w w0 μ S H B (do pure (.value (← lO #[t] ty #[v]))) out:=by
 unfold DP at h
 split at h
 case h_5=>exact uV hx h
 case h_1=>
  rename_i i g a b
  split at h
  case h_2=>simp at h
  rename_i _ _ el te e g' xs ht hHh
  have hH:=sub _ _ hHh
  obtain⟨hg,rfl⟩:=ai h
  have hgg:=ae hg
  subst hgg
  obtain⟨l,hV⟩:=lU hx
  obtain⟨p1,p2,ad,rfl,p3,p4⟩:=(hV.row _ _ _ _ hH).2 rfl
  exact aD R (by simp[lO,aI ht,goInt];rfl) (by simp only[Out.res,VR,cond_false])
 case h_2=>
  split at h
  case h_2=>simp at h
  rename_i el ht
  cases h
  simp only[VR] at hx
  obtain⟨bk,c,q1,q2,cap,q3,rfl⟩:=hx
  exact aD R (by simp[lO,aI ht,goInt];rfl) (by simp only[Out.res,VR])
 case h_3=>
  rename_i i
  split at h
  case h_2=>simp at h
  rename_i _ _ el te ti q xs st ht hHh
  have hH:=sub _ _ hHh
  cases h
  simp only[VR] at hx
  obtain⟨_,l,hm,h2⟩:=hx
  have hv:=h2 _ _ _ _ _ hH
  subst hv
  exact aD R (by simp[lO,aI ht,goInt];rfl) (by simp only[Out.res,VR])
 case h_4=>
  rename_i i q k a b
  split at h
  case h_2=>simp at h
  rename_i _ _ el te ti q' xs st ht hHh
  have hH:=sub _ _ hHh
  obtain⟨hg,rfl⟩:=ai h
  have hgg:=ae hg
  subst hgg
  obtain⟨l,hm,hmi,p0,p1,ad,rfl,p3,p4⟩:=Dm hx hH
  exact aD R (by simp[lO,aI ht,goInt];rfl) (by simp only[Out.res,VR])
omit [aq] in
theorem RI {e:Ty}{cs ds:List Value}{xs ys:List e.T}{a:Nat}(h:∀ (j:Nat) (x:e.T),xs[j]? = some x→∃ c,Rd S e x c∧∀ m v,c[m]? = some v→cs[j * e.size+m]? = some v)
  (hds:gY S e ys ds) (hfit:a+ys.length≤xs.length) (hsz:xs.length * e.size≤cs.length) (j:Nat) (x:e.T) (hj:(xs.take a++ys++xs.drop (a+ys.length))[j]? = some x) :
  ∃ c,Rd S e x c∧∀ m v,c[m]? = some v→(cs.take (a * e.size)++ds++cs.drop (a * e.size+ds.length))[j * e.size+m]? = some v:=by
 have hdl:=bz hds
 have h1:(a+ys.length) * e.size≤xs.length * e.size:=dj _ hfit
 rw[dp] at h1
 rw[ef _ _ _ _ hfit] at hj
 have key:∀ c,Rd S e x c→∀ m v,c[m]? = some v→m<e.size:=fun c hc m v hm=>by
  have:=b7 _ _ _ hc
  have:=(db.1 hm).1
  omega
 by_cases hja:j<a
 ·rw[if_pos hja] at hj
  obtain⟨c,k1,k2⟩:=h j x hj
  refine⟨c,k1,fun m v hm=>?_⟩
  have hm':=key c k1 m v hm
  have h2:(j+1) * e.size≤a * e.size:=dj _ hja
  rw[dp,im] at h2
  rw[ef _ _ _ _ (by omega),if_pos (by omega)]
  exact k2 m v hm
 ·rw[if_neg hja] at hj
  by_cases hjb:j<a+ys.length
  ·rw[if_pos hjb] at hj
   obtain⟨c,k1,k2⟩:=uR hds (j-a) x hj
   refine⟨c,k1,fun m v hm=>?_⟩
   have hm':=key c k1 m v hm
   have h2:a * e.size≤j * e.size:=dj _ (by omega)
   have h3:(j+1) * e.size≤(a+ys.length) * e.size:=dj _ hjb
   rw[dp,im,dp] at h3
   rw[ef _ _ _ _ (by omega),if_neg (by omega),if_pos (by omega)]
   have h4:=k2 m v hm
   rw[Nat.sub_mul] at h4
   rw[← h4]
   congr 1
   omega
  ·rw[if_neg hjb] at hj
   obtain⟨c,k1,k2⟩:=h j x hj
   refine⟨c,k1,fun m v hm=>?_⟩
   have h2:(a+ys.length) * e.size≤j * e.size:=dj _ (by omega)
   rw[dp] at h2
   rw[ef _ _ _ _ (by omega),if_neg (by omega),if_neg (by omega)]
   exact k2 m v hm
omit [aq] in
theorem uS {α:Type}{xs ys:List α}{a:Nat}(h:a+ys.length≤xs.length):(xs.take a++ys++xs.drop (a+ys.length)).length=xs.length:=by
 simp;omega
theorem NG (R:Rel μ S H B w0 w){i g:Nat}{te:TypeId}{e:Ty}{xs ys:List e.T}{ds:List Value}{a:Nat}(hH:H i=some (.row te e g xs)){l:Lc}(hm:μ i=some l){b:Nat}(hb:l.blk=some b)
  (hds:gY S e ys ds) (hfit:a+ys.length≤xs.length) :
  ∃ cur,w.heap[b]? = some (.cells cur te (0,0))∧a * e.size+ds.length≤cur.size ∧
   Rel μ S (aP H i (some (.row te e g (xs.take a++ys++xs.drop (a+ys.length))))) B w0 (w.setRow b (cur.toList.take (a * e.size)++ds++cur.toList.drop (a * e.size+ds.length)).toArray) ∧
   Ext μ S H μ S (aP H i (some (.row te e g (xs.take a++ys++xs.drop (a+ys.length))))):=by
 obtain⟨l',h1,hO⟩:=R.obj i _ hH
 have:l'=l:=bm (h1.symm.trans hm)
 subst this
 obtain⟨⟨o1,o2⟩,o3⟩:=hO
 rcases o3 with⟨o4,_⟩|⟨b',cur,e1,q1,q2,q3,q4,q5⟩
 ·rw[o4] at hb;simp at hb
 have:b'=b:=bm (e1.symm.trans hb)
 subst this
 have hdl:=bz hds
 have hle:xs.length * e.size≤l'.cap * e.size:=dj _ o1
 have h1':(a+ys.length) * e.size≤xs.length * e.size:=dj _ hfit
 rw[dp] at h1'
 have hcs:cur.toList.length=l'.cap * e.size:=by rw[cf];exact q4
 have hfit2:a * e.size+ds.length≤cur.toList.length:=by omega
 have E:Ext μ S H μ S (aP H i (some (.row te e g (xs.take a++ys++xs.drop (a+ys.length))))):=Ext.nF hH (uS hfit).symm
 refine⟨cur,q3,by simpa using hfit2,?_,E⟩
 refine R.wr hm (.inl hb) _ (below_setRow (nl _ _) (bi _) _) (size_setRow _ _ _) (fun k hk=>setRow_other _ _ _ _ hk) E ?_ (.inl (R.iX hm hH))
 refine⟨⟨by rw[uS hfit];exact o1,o2⟩,.inr ⟨b',_,e1,q1,q2,setRow_heap _ _ _ _ _ _ q3,?_,?_⟩⟩
 ·rw[List.size_toArray,uS hfit2,cf];exact q4
 ·intro j x hj
  obtain⟨c,k1,k2⟩:=RI (cs:=cur.toList) (fun j x hj=>by
   obtain⟨c,m1,m2⟩:=q5 j x hj
   exact⟨c,m1,fun m v hv=>by simpa using m2 m v hv⟩) hds hfit (by omega) j x hj
  exact⟨c,k1,fun m v hv=>by simpa using k2 m v hv⟩
omit [aq] in
theorem xx (z:Array Value)(n:Nat)(h:0<z.size):(ma z n).toList=(dd n z.toList).flatten:=by
 have h1:(ma z n).toList=(pk (n * z.size)).map fun i=>z[i % z.size]!:=by
  simp[ma]
 rw[h1,s5 (fun i=>z[i % z.size]!) z.size (fun n i hi=>by
  show z[(n * z.size+i) % z.size]! = z[i % z.size]!
  rw[Nat.mul_comm,Nat.mul_add_mod])]
 congr 2
 apply List.ext_getElem
 ·simp
 ·intro i h1 h2
  have hi:i<z.size:=by simpa using h1
  simp[Nat.mod_eq_of_lt hi,hi]
theorem KX (sub:∀ i o,Hh i=some o→H i=some o)(R:Rel μ S H B w0 w){t ty:TypeId}{x:AV}{v:Value}{out:Out}(hx:VR μ S H x v)(h:xJ P Hh t x=some out) :
  bQ P w w0 μ S H B (do pure (.value (← nn #[t] ty #[v]))) out:=by
 unfold xJ at h
 split at h
 case h_2=>simp at h
 rename_i i g a b
 split at h
 case h_2=>simp at h
 rename_i el ht
 split at h
 case h_2=>simp at h
 rename_i _ _ inf te e g' xs hinf hHh
 have hH:=sub _ _ hHh
 split at h
 case h_2=>simp at h
 rename_i z hz
 split at h
 case h_2=>simp at h
 rename_i zc hzc
 split at h
 case h_2=>simp at h
 rename_i y hy
 obtain⟨hc,rfl⟩:=ai h
 obtain⟨c1,c2,c3,c4⟩:=adb hc
 have c1:=ae c1
 have c2:=ae c2
 have c3:=ae c3
 have c4:=cP c4
 subst c1
 obtain⟨l,hV⟩:=lU hx
 obtain⟨p1,p2,ad,rfl,p3,p4⟩:=(hV.row _ _ _ _ hH).2 rfl
 simp only[cond_false] at p1 p2 p3 p4 ⊢
 have hzr:=bU (jk (μ:=μ) (S:=S) (H:=H) z) hzc
 have hRd:Rd S e y z.cells.toList:=sU hzr hy
 have hzl:z.cells.size=inf.size:=by
  have:=aU hzr
  rw[c3] at this
  simpa using this.symm
 by_cases hn:b-a=0
 ·have e0:xs.take a++dd (b-a) y++xs.drop (a+(b-a))=xs:=by rw[hn];simp
  refine⟨.value (.tuple #[]),.tuple #[],w,μ,?_,.inl rfl,?_,?_,by simp only[Out.res,VR]⟩
  ·rw[hn]
   cases ad<;>simp[nn,aI ht]
  ·simp only[Out.heap]
   rw[e0]
   have:aP H i (some (.row te e g xs))=H:=by
    funext q
    by_cases e1:q=i
    ·subst e1;rw[au,hH]
    ·rw[ax _ _ e1]
   rw[this];exact R
  ·simp only[Out.heap]
   exact Ext.nF hH (by rw[e0])
 ·have hlt:a<xs.length:=by omega
  obtain⟨bk,hb⟩:=u7 R hH hV.mu hlt
  have hl:l.addr=some ⟨bk,0,none⟩:=by simp[Lc.addr,hb]
  have had:=p3 (.inr (by omega))
  rw[hl] at had
  simp only[du,aN,dt] at had
  subst had
  have hseg:=NG (a:=a) R hH hV.mu hb (fY hRd (b-a)) (by rw[mf];omega)
  rw[mf] at hseg
  obtain⟨cur,k1,k2,k3,k4⟩:=hseg
  have hzs:0<z.cells.size:=by omega
  have hZ:=xx z.cells (b-a) hzs
  have hst:=run_storeCells_at (P:=P) bk (a * e.size) te (ma z.cells (b-a)).toList 0 cur w k1 (by rw[hZ];simpa using k2) (fun u hu=>by
   rw[hZ] at hu
   obtain⟨q,hq1,hq2⟩:=List.mem_flatten.1 hu
   rw[(List.mem_replicate.1 hq1).2] at hq2
   exact mS _ _ _ hRd u hq2)
  simp only[jn] at hst
  rw[hZ] at hst
  refine⟨.value (.tuple #[]),.tuple #[],_,μ,?_,.inl rfl,k3,k4,by simp only[Out.res,VR]⟩
  obtain⟨n,hn'⟩:∃ n,b-a=n+1:=⟨b-a-1,by omega⟩
  have hclear:(nn #[t] ty #[.slice (some ⟨bk,a * e.size,none⟩) (b-a) (l.cap-a)]).run P w = .ok (.tuple #[]) (w.setRow bk (cur.toList.take (a * e.size)++(dd (b-a) z.cells.toList).flatten++cur.toList.drop (a * e.size+(dd (b-a) z.cells.toList).flatten.length)).toArray):=by
   rw[← hZ] at hst ⊢
   rw[hn'] at hst ⊢
   simp only[nn,ap,aI ht,al,oC hinf hz,hst,aw]
   simp[aI ht,oC hinf hz,hst]
  simp only[ap,hclear,al,aw]
theorem Eo (sub:∀ i o,Hh i=some o→H i=some o)(R:Rel μ S H B w0 w){id:Nat}{t ty:TypeId}{s x:AV}{vs vx:Value}{out:Out}(hs:VR μ S H s vs)(hx:VR μ S H x vx)
  (h:gb P Hh id t s x=some out) (hk:out.ok=true) (hf:out.fresh H=true) :
  bQ P w w0 μ S H B (do pure (.value (← ib #[t,t] ty #[vs,vx]))) out:=by
 unfold gb at h
 split at h
 case h_3=>exact FN sub R hs hx h hk hf
 case h_2=>exact DI sub R hs hx h hk
 rename_i i g a b
 split at h
 case h_2=>simp at h
 rename_i el ht
 split at h
 case h_2=>simp at h
 rename_i _ _ inf te e g' xs hinf hHh
 have hH:=sub _ _ hHh
 split at h
 case h_2=>simp at h
 rename_i ys hy
 obtain⟨hc,rfl⟩:=ai h
 simp only[ba] at hc
 obtain⟨⟨⟨⟨c0,c1⟩,c2⟩,c3⟩,c4⟩:=hc
 have c0:=ae c0
 have c1:=ae c1
 have c2:=ae c2
 have c3:=ae c3
 have c4:=cP c4
 subst c0 c1 c2
 simp only[Out.ok,decide_eq_true_eq] at hk
 have hcap:=fun l hm=>sB R hH (l:=l) hm
 obtain⟨l,hV⟩:=lU hs
 have hcap:=hcap l hV.mu
 obtain⟨p1,p2,ad,rfl,p3,p4⟩:=(hV.row _ _ _ _ hH).2 rfl
 simp only[cond_false] at p1 p2 p3 p4 ⊢
 have had:=p3 (by simp)
 obtain⟨av,cap,ds,rfl,q1,q2,q3⟩:=iv sub R hx hy
 have viewR:∀ {μ':Mu} {H':Heap} {zs:List e.T},μ'=μ→H'=aP H i (some (.row te e g zs))→zs.length=xs.length→VR μ' S H' (.sub i g 0 (b+ys.length)) (.slice ad (b+ys.length) (l.cap-0)):=by
  intro μ' H' zs h1 h2 h3
  subst h1 h2
  simp only[VR]
  refine⟨⟨_,_,_,rfl⟩,l,hV.mu,fun t1 e1 g1 xs1 hH1=>?_⟩
  rw[au] at hH1
  injection hH1 with hH1
  injection hH1 with k1 k2 k3 k4
  subst k2 k3
  cases k4
  exact⟨bi _,fun _=>⟨pb _,by omega,ad,rfl,fun _=>had,p4⟩⟩
 by_cases hn:ys.length=0
 ·have hys:ys=[]:=eh hn
  subst hys
  have e0:xs.take b++([]:List e.T)++xs.drop (b+na ([]:List e.T))=xs:=by simp
  have hu:aP H i (some (.row te e g xs))=H:=by
   funext q
   by_cases e1:q=i
   ·subst e1;rw[au,hH]
   ·rw[ax _ _ e1]
  refine⟨.value (.slice ad (b+0) (l.cap-0)),_,w,μ,?_,.inl rfl,?_,?_,?_⟩
  ·have hfc:(Builtin.firstCells inf.size 0 (.slice av 0 cap)).run P w = .ok #[] w:=by
    cases av with
    | none=>exact run_firstCells_none (P:=P) w _ _ _ _
    | some q=>exact run_firstCells_some (P:=P) w _ _ q _ _ [] (by simp) (fun j v hj=>by simp at hj)
   have hroom:b+0≤l.cap-0:=by omega
   have:(ib #[t,t] ty #[.slice ad (b-0) (l.cap-0),.slice av 0 cap]).run P w = .ok (.slice ad (b+0) (l.cap-0)) w:=by
    cases ad with
    | none=>simp[ib,aI ht,sizeOf,Ku hinf,Builtin.lenOf,hroom,hfc];omega
    | some q=>simp[ib,aI ht,sizeOf,Ku hinf,Builtin.lenOf,hroom,hfc,storeCells];omega
   simp only[ap,nd,this,al,aw]
  ·simp only[Out.heap];rw[e0,hu];exact R
  ·simp only[Out.heap];exact Ext.nF hH (by rw[e0])
  ·simp only[Out.heap,Out.res];rw[e0];exact viewR rfl rfl rfl
 ·have hlt:b<xs.length:=by omega
  obtain⟨bk,hb⟩:=u7 R hH hV.mu hlt
  have hl:l.addr=some ⟨bk,0,none⟩:=by simp[Lc.addr,hb]
  rw[hl] at had
  simp only[du,aN,pC] at had
  subst had
  have hav:∃ q,av=some q:=by
   cases av with
   | none=>have:=(q1 rfl).1;rw[this] at hn;simp at hn
   | some q=>exact⟨q,rfl⟩
  obtain⟨q,rfl⟩:=hav
  obtain⟨cur,k1,k2,k3,k4⟩:=NG (a:=b) R hH hV.mu hb q2 hk
  have hdl:=bz q2
  have hr:=run_append_room (P:=P) w t ty te inf ht hinf bk b (l.cap-0) cur k1 q ys.length cap ds (by rw[hdl,c3]) (fun j u hj=>by
   obtain⟨ad',e1,e2⟩:=q3 j u hj
   cases e1;exact e2) (iU q2) (by omega) (by rw[c3];exact k2)
  refine⟨.value (.slice (some ⟨bk,0,none⟩) (b+ys.length) (l.cap-0)),_,_,μ,?_,.inl rfl,k3,k4,viewR rfl rfl (uS hk)⟩
  rw[c3] at hr
  simp only[pB] at hr ⊢
  simp only[ap,dt,hr,al,aw]
end
end Go.Sy
