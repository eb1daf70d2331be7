/- Sym12, Sym12b, Sym12c, Sym13, Sym14, Sym15. -/
import Derived.Test.YtckgffnmfgjehaaGreatFB
import Derived.RangeFuncRecord
open Nat renaming eq_of_beq_eq_true → ae, beq → ap, le_refl → dd, ble → eh, succ_pos → eI, succ → eJ, zero_add → eK
open Bool renaming and_eq_true → al, not_eq_true' → cd
open Go.World renaming putObj_heap_other → aw
open Option.some renaming injEq → ba, inj → dj
open List renaming mem_cons → be, map_cons → bi, getD_eq_getElem?_getD → bj, mem_append → bm, mem_map → cf, any_eq_false → da, getElem?_eq_some_iff → dk, cons_append → dq, append_nil → dC, nodup_nil → ee
open Array renaming getD_eq_getD_getElem? → cn, replicate → dv, getElem?_toList → dE
open Go.Result renaming andThen_ok → db
open Prod.mk renaming injEq → dp
open Go.Sem renaming run_bind → dt, run_pure → du
namespace Go.Sy
open Go Go.RowKit
set_option linter.unusedSimpArgs false
set_option linter.unusedVariables false
def mem (L:List Nat)(i:Nat):Bool:=L.any (ap i)
theorem mem_iff {L:List Nat}{i:Nat}:mem L i=true↔i∈L:=by
 unfold mem
 rw[List.any_eq_true]
 exact⟨fun⟨x,h1,h2⟩=>by rw[ae h2];exact h1,fun h=>⟨i,h,by simp⟩⟩
def distinct:List Nat→Bool
 | []=>true
 | i::l=>!(l.any fun j=>ap i j)&&distinct l
mutual
def AV.bf (L:List Nat):AV→Bool
 | .ptr i _=>mem L i
 | .CY i _ _ _=>mem L i
 | .sl i _=>mem L i
 | .sub i _ _ _=>mem L i
 | .Rb i _=>mem L i
 | .iK i=>mem L i
 | .mp i=>mem L i
 | .zR i=>mem L i
 | .ur i _ _=>mem L i
 | .cH i _ _ _ _=>mem L i
 | .Mp i _ _ _=>mem L i
 | .fn _ a b=>gD L a&&gD L b
 | .AJ _ a=>a.bf L
 | .agg l=>gD L l
 | .uo l=>gD L l
 | _=>true
def gD (L:List Nat):List AV→Bool
 | []=>true
 | a::l=>a.bf L&&gD L l
end
def clean (L:List Nat)(a:AV):AV:=cond (a.bf L) a .ah
def Fg (L:List Nat):aS→aS
 | .box t cs=>.box t (cs.map (clean L))
 | .row t e g xs=>.row t e g xs
 | .eP s pos=>.eP s pos
 | .loop k r st ts=>.loop k r st (ts.map (clean L))
 | .map es=>.map es
 | .cL es=>.cL es
 | .aO t ti q xs st=>.aO t ti q xs st
inductive Pl where
 | t (slot:Nat)
 | c (box off:Nat)
structure iM where
 at':Pl
 id:Nat
 te:TypeId
 e:Ty
structure Hint where
 keep:List Nat
 ids:List Nat
 rows:List iM
structure qE where
 top:Hint
 out:Option Hint
 ret:Option Hint
 fD:List (Nat×Nat×Nat):=[]
def ZC:List (Nat×AV)→Nat→AV
 | [],_=>.ah
 | (t,v)::l,q=>cond (ap q t) v (ZC l q)
def I7:List (Nat×Option aS)→Heap
 | [],_=>none
 | (i,o)::l,q=>cond (ap q i) o (I7 l q)
structure Src where
 id:Nat
 src:Option Nat
 te:TypeId
 e:Ty
 xs:List e.T
def LU:List AV→Nat→AV
 | [],_=>.ah
 | a::_,0=>a
 | _::l,n+1=>LU l n
def Ju:Option aS→Nat→AV
 | some (.box _ cs),off=>LU cs off
 | _,_=>.ah
def St.qQ (σ:St):Pl→AV
 | .t s=>σ.val (.tmp s)
 | .c i off=>Ju (σ.heap i) off
def Eh:List iM→List (Nat×AV)
 | []=>[]
 | r::rs=>match r.at' with
  | .t s=>(s,AV.sl r.id 0)::Eh rs
  | .c _ _=>Eh rs
def Mj:List iM→Nat→List AV→List AV
 | [],_,cs=>cs
 | r::rs,i,cs=>match r.at' with
  | .t _=>Mj rs i cs
  | .c b off=>Mj rs i (cond (ap b i) (cs.set off (AV.sl r.id 0)) cs)
def nH (rs:List iM)(L:List Nat)(i:Nat):aS→aS
 | .box t cs=>.box t (Mj rs i (cs.map (clean L)))
 | o=>Fg L o
def Ez (σ:St)(r:iM):Option Src:=
 match σ.qQ r.at' with
 | .lit (.slice none 0 0)=>some ⟨r.id,none,r.te,r.e,[]⟩
 | .sl a g=>match σ.heap a with
  | some (.row te e g' xs)=>cond (ap g g'&&ap te r.te) (match gx (e:=e) (e':=r.e) xs with
   | some ys=>some ⟨r.id,some a,r.te,r.e,ys⟩
   | none=>none) none
  | _=>none
 | _=>none
def EY (σ:St):List iM→Option (List Src)
 | []=>some []
 | r::rs=>match Ez σ r,EY σ rs with
  | some s,some l=>some (s::l)
  | _,_=>none
def Src.list (l:List Src):List Nat:=l.filterMap (·.src)
def head (od:List Nat)(h:Hint)(σ:St):Option St:=
 match EY σ h.rows with
 | none=>none
 | some l=>cond (distinct (Src.list l)&&distinct (l.map (·.id))&&l.all (fun s=>!mem (od++h.ids) s.id)&&(Src.list l).all (fun a=>!mem (od++h.ids) a))
   (some ⟨σ.nt,ZC (Eh h.rows++h.keep.map (fun t=>(t,clean (od++h.ids) (σ.val (.tmp t))))),
    I7 (l.map (fun s=>(s.id,some (.row s.te s.e 0 s.xs)))++(od++h.ids).map (fun i=>(i,(σ.heap i).map (nH h.rows (od++h.ids) i)))),
    (od++h.ids)++l.map (·.id)⟩) none
section
variable [aq]{N:ar}{Dt:Bool×List Deferred}{w w0:World}{μ μ' μo:Mu}{S So:ar}{H H' Ho:Heap}{B:Nat}{L:List Nat}{σ σ':St}{a:Act}
structure Ag (L:List Nat)(μ:Mu)(H:Heap)(μ':Mu)(H':Heap):Prop where
 mu:∀ i∈L,μ' i=μ i
 ob:∀ i∈L,∀ o,o.mv=true→H' i=some o→H i=some o
omit [aq] in
theorem Ag.row {L:List Nat}(h:Ag L μ H μ' H'){i:Nat}(hi:i∈L){t:TypeId}{e:Ty}{g:Nat}{xs:List e.T}(hr:H' i=some (.row t e g xs)):H i=some (.row t e g xs):=h.ob i hi _ rfl hr
omit [aq] in
theorem Ag.aO {L:List Nat}(h:Ag L μ H μ' H'){i:Nat}(hi:i∈L){t ti q:Nat}{xs:List FT}{st:gz}(hr:H' i=some (.aO t ti q xs st)):H i=some (.aO t ti q xs st):=h.ob i hi _ rfl hr
omit [aq] in
theorem Ag.still {L:List Nat}(h:Ag L μ H μ' H'){i:Nat}(hi:i∈L)(h2:∀ o,H i=some o→o.mv=false):∀ o,H' i=some o→o.mv=false:=by
 intro o ho
 cases hm:o.mv with
 | false=>rfl
 | true=>rw[← hm];exact h2 o (h.ob i hi o hm ho)
omit [aq] in
theorem HG {rs:List iM}{L:List Nat}{i:Nat}{o:Option aS}{p:aS}(hp:p.mv=true)(hr:o.map (nH rs L i)=some p):o=some p:=by
 cases o with
 | none=>simp at hr
 | some o=>
  simp only[Option.map_some,ba] at hr
  subst hr
  cases o<;>first|rfl|simp[nH,Fg,aS.mv] at hp
omit [aq] in
mutual
theorem Jk (h:Ag L μ H μ' H'):∀ (a:AV) (v:Value),a.bf L=true→VR μ S H a v→VR μ' S H' a v
 | .lit _,v,_,hr=>by simp only[VR] at hr ⊢;exact hr
 | .ptr i off,v,hl,hr=>by
  simp only[AV.bf] at hl
  have hi:=mem_iff.1 hl
  simp only[VR] at hr ⊢
  obtain⟨b,c,h1,h2,h3⟩:=hr
  exact⟨b,c,by rw[h.mu i hi];exact h1,h.still hi h2,h3⟩
 | .FI e x off,v,_,hr=>by simp only[VR] at hr ⊢;exact hr
 | .CY i g k off,v,hl,hr=>by
  simp only[AV.bf] at hl
  have hi:=mem_iff.1 hl
  simp only[VR] at hr ⊢
  obtain⟨h0,l,h1,h2⟩:=hr
  exact⟨h0,l,by rw[h.mu i hi];exact h1,fun t e gc xs hH=>h2 t e gc xs (h.row hi hH)⟩
 | .cont e xs,v,_,hr=>by simp only[VR] at hr ⊢;exact hr
 | .Ks i xs,v,_,hr=>by simp only[VR] at hr ⊢;exact hr
 | .sl i g,v,hl,hr=>by
  simp only[AV.bf] at hl
  have hi:=mem_iff.1 hl
  simp only[VR] at hr ⊢
  obtain⟨h0,l,h1,h2⟩:=hr
  exact⟨h0,l,by rw[h.mu i hi];exact h1,fun t e gc xs hH=>h2 t e gc xs (h.row hi hH)⟩
 | .sub i g lo hi,v,hl,hr=>by
  simp only[AV.bf] at hl
  have hi:=mem_iff.1 hl
  simp only[VR] at hr ⊢
  obtain⟨h0,l,h1,h2⟩:=hr
  exact⟨h0,l,by rw[h.mu i hi];exact h1,fun t e gc xs hH=>h2 t e gc xs (h.row hi hH)⟩
 | .Rb i n,v,hl,hr=>by
  simp only[AV.bf] at hl
  have hi:=mem_iff.1 hl
  simp only[VR] at hr ⊢
  obtain⟨b,c,h1,h2,h3⟩:=hr
  exact⟨b,c,by rw[h.mu i hi];exact h1,h.still hi h2,h3⟩
 | .iK i,v,hl,hr=>by
  simp only[AV.bf] at hl
  have hi:=mem_iff.1 hl
  simp only[VR] at hr ⊢
  obtain⟨b,c,h1,h2,h3⟩:=hr
  exact⟨b,c,by rw[h.mu i hi];exact h1,h.still hi h2,h3⟩
 | .mp i,v,hl,hr=>by
  simp only[AV.bf] at hl
  have hi:=mem_iff.1 hl
  simp only[VR] at hr ⊢
  obtain⟨b,c,h1,h2,h3⟩:=hr
  exact⟨b,c,by rw[h.mu i hi];exact h1,h.still hi h2,h3⟩
 | .fn f fi ca,v,hl,hr=>by
  simp only[AV.bf,al] at hl
  simp only[VR] at hr ⊢
  obtain⟨x,y,h1,h2,h3⟩:=hr
  exact⟨x,y,h1,wJ h fi _ hl.1 h2,wJ h ca _ hl.2 h3⟩
 | .agg cs,v,hl,hr=>by
  simp only[AV.bf] at hl
  simp only[VR] at hr ⊢
  obtain⟨x,h1,h2⟩:=hr
  exact⟨x,h1,wJ h cs _ hl h2⟩
 | .uo cs,v,hl,hr=>by
  simp only[AV.bf] at hl
  simp only[VR] at hr ⊢
  obtain⟨x,h1,h2⟩:=hr
  exact⟨x,h1,wJ h cs _ hl h2⟩
 | .AJ t a,v,hl,hr=>by
  simp only[AV.bf] at hl
  simp only[VR] at hr ⊢
  obtain⟨u,h1,h2⟩:=hr
  exact⟨u,h1,Jk h a _ hl h2⟩
 | .fE _,_,_,hr=>by simp only[VR] at hr
 | .CS,_,_,hr=>by simpa only [VR] using hr
 | .zR i,v,hl,hr=>by
  simp only[AV.bf] at hl
  have hi:=mem_iff.1 hl
  simp only[VR] at hr ⊢
  obtain⟨h0,l,h1,h2⟩:=hr
  exact⟨h0,l,by rw[h.mu i hi];exact h1,fun t ti q xs st hH=>h2 t ti q xs st (h.aO hi hH)⟩
 | .ur i k o,v,hl,hr=>by
  simp only[AV.bf] at hl
  have hi:=mem_iff.1 hl
  simp only[VR] at hr ⊢
  obtain⟨h0,l,h1,h2⟩:=hr
  exact⟨h0,l,by rw[h.mu i hi];exact h1,fun t ti q xs st hH=>h2 t ti q xs st (h.aO hi hH)⟩
 | .cH i q k lo h',v,hl,hr=>by
  simp only[AV.bf] at hl
  have hi:=mem_iff.1 hl
  simp only[VR] at hr ⊢
  obtain⟨h0,l,h1,h2⟩:=hr
  exact⟨h0,l,by rw[h.mu i hi];exact h1,fun t ti q xs st hH=>h2 t ti q xs st (h.aO hi hH)⟩
 | .Mp i q k p,v,hl,hr=>by
  simp only[AV.bf] at hl
  have hi:=mem_iff.1 hl
  simp only[VR] at hr ⊢
  obtain⟨h0,l,h1,h2⟩:=hr
  exact⟨h0,l,by rw[h.mu i hi];exact h1,fun t ti q xs st hH=>h2 t ti q xs st (h.aO hi hH)⟩
 | .ah,_,_,_=>by simp only[VR]
theorem wJ (h:Ag L μ H μ' H'):∀ (as:List AV) (vs:List Value),gD L as=true→aH μ S H as vs→aH μ' S H' as vs
 | [],vs,_,hr=>by simp only[aH] at hr ⊢;exact hr
 | a::as,vs,hl,hr=>by
  simp only[gD,al] at hl
  simp only[aH] at hr ⊢
  obtain⟨v,r,h1,h2,h3⟩:=hr
  exact⟨v,r,h1,Jk h a v hl.1 h2,wJ h as r hl.2 h3⟩
end
omit [aq] in
theorem E9 (h:Ag L μ H μ' H'){a:AV}{v:Value}(hr:VR μ S H a v):VR μ' S H' (clean L a) v:=by
 unfold clean
 cases hl:a.bf L with
 | true=>exact Jk h a v hl hr
 | false=>simp only[cond_false,VR]
omit [aq] in
theorem sK (h:Ag L μ H μ' H'):∀ {as:List AV} {vs:List Value},aH μ S H as vs→aH μ' S H' (as.map (clean L)) vs
 | [],vs,hr=>by simp only[aH] at hr;subst hr;simp[aH]
 | a::as,vs,hr=>by
  simp only[aH] at hr
  obtain⟨v,r,rfl,h2,h3⟩:=hr
  simp only[bi,aH]
  exact⟨v,r,rfl,E9 h h2,sK h h3⟩
omit [aq] in
mutual
theorem uE (h:∀ i,μ i≠none→i∈L):∀ (a:AV) (v:Value),VR μ S H a v→a.bf L=true
 | .lit _,v,_=>rfl
 | .ptr i off,v,hr=>by
  simp only[VR] at hr
  obtain⟨b,c,h1,_⟩:=hr
  simp only[AV.bf];exact mem_iff.2 (h i (by rw[h1];simp))
 | .FI e x off,v,_=>rfl
 | .CY i g k off,v,hr=>by
  simp only[VR] at hr
  obtain⟨_,l,h1,_⟩:=hr
  simp only[AV.bf];exact mem_iff.2 (h i (by rw[h1];simp))
 | .cont e xs,v,_=>rfl
 | .Ks i xs,v,_=>rfl
 | .sl i g,v,hr=>by
  simp only[VR] at hr
  obtain⟨_,l,h1,_⟩:=hr
  simp only[AV.bf];exact mem_iff.2 (h i (by rw[h1];simp))
 | .sub i g lo hi,v,hr=>by
  simp only[VR] at hr
  obtain⟨_,l,h1,_⟩:=hr
  simp only[AV.bf];exact mem_iff.2 (h i (by rw[h1];simp))
 | .Rb i n,v,hr=>by
  simp only[VR] at hr
  obtain⟨b,c,h1,_⟩:=hr
  simp only[AV.bf];exact mem_iff.2 (h i (by rw[h1];simp))
 | .iK i,v,hr=>by
  simp only[VR] at hr
  obtain⟨b,c,h1,_⟩:=hr
  simp only[AV.bf];exact mem_iff.2 (h i (by rw[h1];simp))
 | .mp i,v,hr=>by
  simp only[VR] at hr
  obtain⟨b,c,h1,_⟩:=hr
  simp only[AV.bf];exact mem_iff.2 (h i (by rw[h1];simp))
 | .zR i,v,hr=>by
  simp only[VR] at hr
  obtain⟨_,l,h1,_⟩:=hr
  simp only[AV.bf];exact mem_iff.2 (h i (by rw[h1];simp))
 | .ur i k o,v,hr=>by
  simp only[VR] at hr
  obtain⟨_,l,h1,_⟩:=hr
  simp only[AV.bf];exact mem_iff.2 (h i (by rw[h1];simp))
 | .cH i q k lo h',v,hr=>by
  simp only[VR] at hr
  obtain⟨_,l,h1,_⟩:=hr
  simp only[AV.bf];exact mem_iff.2 (h i (by rw[h1];simp))
 | .Mp i q k p,v,hr=>by
  simp only[VR] at hr
  obtain⟨_,l,h1,_⟩:=hr
  simp only[AV.bf];exact mem_iff.2 (h i (by rw[h1];simp))
 | .fn f fi ca,v,hr=>by
  simp only[VR] at hr
  obtain⟨x,y,h1,h2,h3⟩:=hr
  simp only[AV.bf,al]
  exact⟨mR h fi _ h2,mR h ca _ h3⟩
 | .agg cs,v,hr=>by
  simp only[VR] at hr
  obtain⟨x,_,h2⟩:=hr
  simp only[AV.bf];exact mR h cs _ h2
 | .uo cs,v,hr=>by
  simp only[VR] at hr
  obtain⟨x,_,h2⟩:=hr
  simp only[AV.bf];exact mR h cs _ h2
 | .AJ t a,v,hr=>by
  simp only[VR] at hr
  obtain⟨u,_,h2⟩:=hr
  simp only[AV.bf];exact uE h a _ h2
 | .fE _,_,hr=>by simp only[VR] at hr
 | .CS,_,_=>rfl
 | .ah,_,_=>rfl
theorem mR (h:∀ i,μ i≠none→i∈L):∀ (as:List AV) (vs:List Value),aH μ S H as vs→gD L as=true
 | [],vs,_=>rfl
 | a::as,vs,hr=>by
  simp only[aH] at hr
  obtain⟨v,r,_,h2,h3⟩:=hr
  simp only[gD,al]
  exact⟨uE h a v h2,mR h as r h3⟩
end
omit [aq] in
theorem OP {μ:Mu}{S:ar}{H:Heap}{f:Nat→Value}:∀ (l:List (Nat×AV)),(∀ p∈l,VR μ S H p.2 (f p.1))→∀ t,VR μ S H (ZC l t) (f t)
 | [],_,t=>by simp only[ZC,VR]
 | (q,v)::l,h,t=>by
  simp only[ZC]
  cases hb:ap t q with
  | true=>
   have:=ae hb
   subst this
   exact h (t,v) (by simp)
  | false=>exact OP l (fun p hp=>h p (by simp[hp])) t
omit [aq] in
theorem JA {f:Nat→Option aS}:∀ (l:List Nat) (q:Nat),I7 (l.map fun i=>(i,f i)) q=cond (mem l q) (f q) none
 | [],q=>rfl
 | i::l,q=>by
  simp only[bi,I7]
  cases hb:ap q i with
  | true=>
   have:=ae hb
   subst this
   have:mem (q::l) q=true:=mem_iff.2 (by simp)
   rw[this];rfl
  | false=>
   have hne:q≠i:=fun e=>by subst e;simp at hb
   rw[JA l q]
   have:mem (i::l) q=mem l q:=by
    rw[Bool.eq_iff_iff,mem_iff,mem_iff];simp[hne]
   rw[this];rfl
omit [aq] in
theorem JL {g:Src→Option aS}{rest:List (Nat×Option aS)}:∀ (l:List Src) (s:Src),s∈l→distinct (l.map (·.id))=true→I7 (l.map (fun s=>(s.id,g s))++rest) s.id=g s
 | [],s,h,_=>by simp at h
 | p::l,s,h,hd=>by
  simp only[bi,distinct,al,cd] at hd
  simp only[bi,dq,I7]
  rcases be.1 h with rfl|h
  ·simp
  ·have hne:ap s.id p.id=false:=by
    cases hb:ap s.id p.id with
    | false=>rfl
    | true=>
     have e:=ae hb
     have:=da.1 hd.1 s.id (cf.2 ⟨s,h,rfl⟩)
     rw[e] at this;simp at this
   rw[hne]
   exact JL l s h hd.2
omit [aq] in
theorem Ff {g:Src→Option aS}{rest:List (Nat×Option aS)}:∀ (l:List Src) (q:Nat),q∉l.map (·.id)→I7 (l.map (fun s=>(s.id,g s))++rest) q=I7 rest q
 | [],q,_=>rfl
 | p::l,q,h=>by
  simp only[bi,be,not_or] at h
  simp only[bi,dq,I7]
  have hne:ap q p.id=false:=by
   cases hb:ap q p.id with
   | false=>rfl
   | true=>exact absurd (ae hb) h.1
  rw[hne]
  exact Ff l q h.2
def Src.loc (μ:Mu)(s:Src):Option Lc:=
 match s.src with
 | none=>some ⟨none,0,aT⟩
 | some a=>μ a
def muH (l:List Src)(L:List Nat)(μ:Mu):Mu:=fun q=>
 match l.find? (fun s=>ap s.id q) with
 | some s=>s.loc μ
 | none=>cond (mem L q) (μ q) none
omit [aq] in
theorem T8:∀ (l:List Src) (s:Src),s∈l→distinct (l.map (·.id))=true→muH l L μ s.id=s.loc μ:=by
 intro l s hs hd
 unfold muH
 have:l.find? (fun p=>ap p.id s.id)=some s:=by
  induction l with
  | nil=>simp at hs
  | cons p l ih=>
   simp only[bi,distinct,al,cd] at hd
   rcases be.1 hs with rfl|hs
   ·simp
   ·have hne:ap p.id s.id=false:=by
     cases hb:ap p.id s.id with
     | false=>rfl
     | true=>
      have e:=ae hb
      have:=da.1 hd.1 s.id (cf.2 ⟨s,hs,rfl⟩)
      rw[e] at this;simp at this
    rw[List.find?_cons,hne]
    exact ih hs hd.2
 rw[this]
omit [aq] in
theorem Og {l:List Src}{q:Nat}(h:q∉l.map (·.id)):muH l L μ q=cond (mem L q) (μ q) none:=by
 unfold muH
 have:l.find? (fun p=>ap p.id q)=none:=by
  rw[List.find?_eq_none]
  intro p hp hb
  exact h (cf.2 ⟨p,hp,ae hb⟩)
 rw[this]
structure V1 (H:Heap)(s:Src):Prop where
 nil:s.src=none→s.xs=[]
 row:∀ a,s.src=some a→∃ g,H a=some (.row s.te s.e g s.xs)
omit [aq] in
theorem Bb:∀ {as:List AV} {vs:List Value},aH μ S H as vs→∀ (n:Nat),VR μ S H (LU as n) (vs.getD n undef)
 | [],vs,h,n=>by simp only[LU,VR]
 | a::as,vs,h,n=>by
  simp only[aH] at h
  obtain⟨v,r,rfl,h1,h2⟩:=h
  cases n with
  | zero=>simpa [LU] using h1
  | succ n=>simpa [LU] using Bb h2 n
theorem Q6 (A:AR N Dt μ S σ a)(R:Rel μ S σ.heap B w0 w)(p:Pl):∃ v,VR μ S σ.heap (σ.qQ p) v:=by
 cases p with
 | t s=>exact⟨_,A.val (.tmp s)⟩
 | c i off=>
  simp only[St.qQ]
  cases ho:σ.heap i with
  | none=>exact⟨undef,by simp only[Ju,VR]⟩
  | some o=>
   cases o with
   | box t cs=>
    obtain⟨l,_,b,vs,_,_,_,_,h5⟩:=R.obj i _ ho
    exact⟨_,Bb h5 off⟩
   | _=>exact⟨undef,by simp only[Ju,VR]⟩
omit [aq] in
theorem NP {r:iM}{s:Src}{v:Value}(hv:VR μ S σ.heap (σ.qQ r.at') v)(h:Ez σ r=some s) :
  s.id=r.id∧V1 σ.heap s∧∃ l,s.loc μ=some l∧∀ v,VR μ S σ.heap (σ.qQ r.at') v→v = .slice l.addr s.xs.length l.cap:=by
 unfold Ez at h
 split at h
 ·rename_i hx
  cases h
  refine⟨rfl,⟨fun _=>rfl,fun a h=>by simp at h⟩,⟨none,0,aT⟩,rfl,fun v hv=>?_⟩
  rw[hx] at hv
  simp only[VR] at hv
  exact hv
 ·rename_i i g hx
  split at h
  ·rename_i te e g' xs hH
   cases hb:(ap g g'&&ap te r.te) with
   | false=>rw[hb] at h;simp at h
   | true=>
    rw[hb] at h
    simp only[cond_true] at h
    simp only[al] at hb
    have hgg:=ae hb.1
    have htt:=ae hb.2
    split at h
    ·rename_i ys hc
     obtain⟨he,hys⟩:=b9 hc
     obtain⟨sl,id0,te0,e0⟩:=r
     simp only at htt he hys
     subst htt
     subst he
     simp only at hys
     subst hys
     cases h
     have hv':=hv
     rw[hx] at hv'
     simp only[VR] at hv'
     obtain⟨_,l,hm,h3⟩:=hv'
     refine⟨rfl,⟨fun h=>by simp at h,fun a h=>by cases h;exact⟨g',hH⟩⟩,l,hm,fun v hv=>?_⟩
     rw[hx] at hv
     simp only[VR] at hv
     obtain⟨_,l',hm',h3'⟩:=hv
     rw[hm] at hm'
     cases hm'
     exact (h3' _ _ _ _ hH).2 hgg
    ·simp at h
  ·simp at h
 ·simp at h
theorem Jh (A:AR N Dt μ S σ a)(R:Rel μ S σ.heap B w0 w):∀ {rs:List iM} {l:List Src},EY σ rs=some l →
  (∀ s∈l,V1 σ.heap s∧(s.loc μ).isSome=true)∧(∀ r∈rs,∃ s∈l,s.id=r.id∧∃ lc,s.loc μ=some lc∧∀ v,VR μ S σ.heap (σ.qQ r.at') v→v = .slice lc.addr s.xs.length lc.cap)
 | [],l,h=>by simp only[EY,ba] at h;subst h;simp
 | r::rs,l,h=>by
  simp only[EY] at h
  split at h
  ·rename_i s l' h1 h2
   cases h
   obtain⟨v,hv⟩:=Q6 A R r.at'
   obtain⟨k1,k2,lc,k3,k4⟩:=NP hv h1
   obtain⟨q1,q2⟩:=Jh A R h2
   refine⟨fun p hp=>?_,fun p hp=>?_⟩
   ·rcases be.1 hp with rfl|hp
    ·exact⟨k2,by rw[k3];rfl⟩
    ·exact q1 p hp
   ·rcases be.1 hp with rfl|hp
    ·exact⟨s,by simp,k1,lc,k3,k4⟩
    ·obtain⟨s',a1,a2⟩:=q2 p hp
     exact⟨s',by simp[a1],a2⟩
  ·simp at h
omit [aq] in
theorem DJ {i:Nat}{vs:List Value}:∀ (rs:List iM) {cs:List AV},(∀ r∈rs,∀ off,r.at' = .c i off→∀ v,vs[off]? = some v→VR μ S H (.sl r.id 0) v)→aH μ S H cs vs→aH μ S H (Mj rs i cs) vs
 | [],cs,_,h=>h
 | r::rs,cs,hr,h=>by
  have ih:∀ {cs:List AV},aH μ S H cs vs→aH μ S H (Mj rs i cs) vs:=fun h=>DJ rs (fun p hp=>hr p (by simp[hp])) h
  simp only[Mj]
  split
  ·exact ih h
  ·rename_i b off hat
   cases hb:ap b i with
   | false=>exact ih h
   | true=>
    have e:=ae hb
    subst e
    refine ih ?_
    simp only[cond_true]
    cases hv:vs[off]? with
    | some v=>
     have:=Ci h off _ v (hr r (by simp) off hat v hv)
     have e2:vs.set off v=vs:=by
      obtain⟨hlt,he⟩:=dk.1 hv
      rw[← he];exact List.set_getElem_self hlt
     rw[e2] at this
     exact this
    | none=>
     have hl:vs.length≤off:=List.getElem?_eq_none_iff.1 hv
     rw[List.set_eq_of_length_le (by rw[aU h];exact hl)]
     exact h
omit [aq] in
theorem xy {p:Nat×AV}:∀ {rs:List iM},p∈Eh rs→∃ r∈rs,r.at' = .t p.1∧p.2 = .sl r.id 0
 | [],h=>by simp[Eh] at h
 | r::rs,h=>by
  simp only[Eh] at h
  split at h
  ·rename_i s hs
   rcases be.1 h with rfl|h
   ·exact⟨r,by simp,hs,rfl⟩
   ·obtain⟨q,h1,h2⟩:=xy h;exact⟨q,by simp[h1],h2⟩
  ·obtain⟨q,h1,h2⟩:=xy h;exact⟨q,by simp[h1],h2⟩
omit [aq] in
theorem FK {l:List Src}(hd:distinct (Src.list l)=true):∀ {s p:Src},s∈l→p∈l→∀ {a:Nat},s.src=some a→p.src=some a→distinct (l.map (·.id))=true→s.id=p.id:=by
 induction l with
 | nil=>intro s p hs;simp at hs
 | cons q l ih=>
  intro s p hs hp a h1 h2 hi
  simp only[bi,distinct,al,cd] at hi
  have hd':distinct (Src.list l)=true∧∀ b,q.src=some b→b∉Src.list l:=by
   unfold Src.list at hd
   cases hq:q.src with
   | none=>rw[List.filterMap_cons,hq] at hd;exact⟨hd,fun b h=>by simp at h⟩
   | some b=>
    rw[List.filterMap_cons,hq] at hd
    simp only[distinct,al,cd] at hd
    refine⟨hd.2,fun c hc hm=>?_⟩
    cases hc
    have:=da.1 hd.1 b hm
    simp at this
  have inl:∀ {x:Src},x∈l→x.src=some a→a∈Src.list l:=fun hx hxa=>List.mem_filterMap.2 ⟨_,hx,hxa⟩
  rcases be.1 hs with e1|hs'<;>rcases be.1 hp with e2|hp'
  ·rw[e1,e2]
  ·exact absurd (inl hp' h2) (hd'.2 a (by rw[← e1];exact h1))
  ·exact absurd (inl hs' h1) (hd'.2 a (by rw[← e2];exact h2))
  ·exact ih hd'.1 hs' hp' h1 h2 hi.2
theorem uZ {od:List Nat}{h:Hint}(hh:head od h σ=some σ')(A:AR N Dt μ S σ a)(R:Rel μ S σ.heap B w0 w)(hod:∀ i,μo i≠none→i∈od)(Co:Carry B μo So Ho μ S σ.heap) :
  ∃ μ',AR N Dt μ' S σ' a∧Rel μ' S σ'.heap B w0 w∧Carry B μo So Ho μ' S σ'.heap∧Bd σ':=by
 unfold head at hh
 split at hh
 ·simp at hh
 ·rename_i l hl
  obtain⟨hc,rfl⟩:=ai hh
  simp only[al,List.all_eq_true,cd] at hc
  obtain⟨⟨⟨hd1,hd2⟩,hd3⟩,hd4⟩:=hc
  obtain⟨s1,s2⟩:=Jh A R hl
  have notL:∀ s∈l,s.id∉od++h.ids:=fun s hs hm=>by
   have:=hd3 s hs
   rw[mem_iff.2 hm] at this;simp at this
  have srcNotL:∀ s∈l,∀ x,s.src=some x→x∉od++h.ids:=fun s hs x hx hm=>by
   have:=hd4 x (List.mem_filterMap.2 ⟨s,hs,hx⟩)
   rw[mem_iff.2 hm] at this;simp at this
  have inIds:∀ q,q∈od++h.ids→q∉l.map (·.id):=fun q hq hm=>by
   obtain⟨s,hs,rfl⟩:=cf.1 hm
   exact notL s hs hq
  let μ':Mu:=muH l (od++h.ids) μ
  let H':Heap:=I7 (l.map (fun s=>(s.id,some (.row s.te s.e 0 s.xs)))++(od++h.ids).map (fun i=>(i,(σ.heap i).map (nH h.rows (od++h.ids) i))))
  have F1:∀ s∈l,H' s.id=some (.row s.te s.e 0 s.xs):=fun s hs=>JL l s hs hd2
  have F2:∀ q,q∉l.map (·.id)→H' q=cond (mem (od++h.ids) q) ((σ.heap q).map (nH h.rows (od++h.ids) q)) none:=fun q hq=>by
   show I7 _ q=_
   rw[Ff l q hq,JA]
  have M1:∀ s∈l,μ' s.id=s.loc μ:=fun s hs=>T8 l s hs hd2
  have M2:∀ q,q∉l.map (·.id)→μ' q=cond (mem (od++h.ids) q) (μ q) none:=fun q hq=>Og hq
  have ag:Ag (od++h.ids) μ σ.heap μ' H':=⟨fun i hi=>by rw[M2 i (inIds i hi),mem_iff.2 hi];rfl,fun i hi o ho hr=>by
   rw[F2 i (inIds i hi),mem_iff.2 hi] at hr
   exact HG ho hr⟩
  have cases_:∀ q l',μ' q=some l'→(∃ s∈l,s.id=q∧s.loc μ=some l')∨(q∈od++h.ids∧q∉l.map (·.id)∧μ q=some l'):=fun q l' hq=>by
   by_cases hm:q∈l.map (·.id)
   ·obtain⟨s,hs,rfl⟩:=cf.1 hm
    rw[M1 s hs] at hq
    exact .inl ⟨s,hs,rfl,hq⟩
   ·rw[M2 q hm] at hq
    cases hb:mem (od++h.ids) q with
    | true=>rw[hb] at hq;exact .inr ⟨mem_iff.1 hb,hm,hq⟩
    | false=>rw[hb] at hq;simp at hq
  have slR:∀ r∈h.rows,∀ v,VR μ S σ.heap (σ.qQ r.at') v→VR μ' S H' (.sl r.id 0) v:=by
   intro r hr v hv
   obtain⟨s,hs,e1,lc,e2,e3⟩:=s2 r hr
   have e3':=e3 v hv
   simp only[VR]
   refine⟨⟨_,_,_,e3'⟩,lc,by rw[← e1];exact (M1 s hs).trans e2,fun t1 e1' g1 xs1 hH=>?_⟩
   have hH2:H' r.id=some (.row t1 e1' g1 xs1):=hH
   rw[← e1,F1 s hs] at hH2
   injection hH2 with hH2
   injection hH2 with k1 k2 k3 k4
   refine⟨Nat.zero_le _,fun _=>?_⟩
   rw[e3']
   subst k2
   cases k4
   rfl
  refine⟨μ',⟨A.defers,A.size,fun t ht=>?_⟩,⟨R.below,R.size,R.st,fun q=>?_,fun q o hq=>?_,fun i j li lj b hij hi hj hb=>?_,fun q lq hq=>?_,R.pre⟩,⟨fun x v hv=>?_,Co.st,Co.sub⟩,fun q hq=>?_⟩
  ·refine OP (f:=fun t=>a.tmps.getD t undef) _ (fun p hp=>?_) t
   rcases bm.1 hp with hp|hp
   ·obtain⟨r,hr,hat,hpe⟩:=xy hp
    rw[hpe]
    refine slR r hr _ ?_
    rw[hat]
    exact A.val (.tmp p.1)
   ·obtain⟨t',ht',rfl⟩:=cf.1 hp
    exact E9 ag (A.val (.tmp t'))
  ·by_cases hm:q∈l.map (·.id)
   ·obtain⟨s,hs,rfl⟩:=cf.1 hm
    show (H' s.id).isSome=(μ' s.id).isSome
    rw[F1 s hs,M1 s hs,(s1 s hs).2];rfl
   ·show (H' q).isSome=(μ' q).isSome
    rw[F2 q hm,M2 q hm]
    cases mem (od++h.ids) q with
    | true=>simp only[cond_true,Option.isSome_map];exact R.dom q
    | false=>rfl
  ·by_cases hm:q∈l.map (·.id)
   ·obtain⟨s,hs,rfl⟩:=cf.1 hm
    have hq':H' s.id=some o:=hq
    rw[F1 s hs] at hq'
    cases hq'
    obtain⟨ok,hsome⟩:=s1 s hs
    cases hsrc:s.src with
    | none=>
     have hloc:s.loc μ=some ⟨none,0,aT⟩:=by unfold Src.loc;rw[hsrc]
     refine⟨_,(M1 s hs).trans hloc,?_,.inl ⟨rfl,rfl⟩⟩
     rw[ok.nil hsrc];exact⟨dd _,Nat.zero_le _⟩
    | some x=>
     obtain⟨g,hx⟩:=ok.row x hsrc
     obtain⟨lx,k1,k2⟩:=R.obj x _ hx
     have hloc:s.loc μ=some lx:=by unfold Src.loc;rw[hsrc];exact k1
     exact⟨lx,(M1 s hs).trans hloc,k2⟩
   ·have hq':H' q=some o:=hq
    rw[F2 q hm] at hq'
    cases hb:mem (od++h.ids) q with
    | false=>rw[hb] at hq';simp at hq'
    | true=>
     rw[hb] at hq'
     simp only[cond_true] at hq'
     cases ho:σ.heap q with
     | none=>rw[ho] at hq';simp at hq'
     | some o'=>
      rw[ho] at hq'
      simp only[Option.map_some,ba] at hq'
      subst hq'
      obtain⟨lq,k1,k2⟩:=R.obj q o' ho
      refine⟨lq,by show μ' q=_;rw[M2 q hm,hb];exact k1,?_⟩
      cases o' with
      | box t cs=>
       obtain⟨b,vs,a1,a2,a3,a4,a5⟩:=k2
       refine⟨b,vs,a1,a2,a3,a4,DJ h.rows (fun r hr off hat v hv=>slR r hr v ?_) (sK ag a5)⟩
       have:=Bb a5 off
       rw[hat]
       simp only[St.qQ,ho,Ju]
       rw[bj,hv] at this
       exact this
      | eP s pos=>exact k2
      | map es=>exact k2
      | cL es=>exact k2
      | loop k r st ts=>
       obtain⟨b,fn,ss,pe,vs,ps,asn,body,df,q1,q2,q3,q4,q5,q6,q7⟩:=k2
       exact⟨b,fn,ss,pe,vs,ps,asn,body,df,q1,q2,q3,q4,q5,q6,sK ag q7⟩
      | row t e g xs=>exact k2
      | aO t ti q xs st=>exact k2
  ·rcases cases_ i li hi with⟨s,hs,e1,e2⟩|⟨h1,h2,h3⟩<;>rcases cases_ j lj hj with⟨p,hp,f1,f2⟩|⟨k1,k2,k3⟩
   ·unfold Src.loc at e2 f2
    cases hs1:s.src with
    | none=>rw[hs1] at e2;cases e2;rw[Lc.fe rfl] at hb;simp at hb
    | some x=>
     rw[hs1] at e2
     cases hp1:p.src with
     | none=>rw[hp1] at f2;cases f2;rw[Lc.fe rfl];simp
     | some y=>
      rw[hp1] at f2
      by_cases exy:x=y
      ·subst exy
       exact absurd (FK hd1 hs hp hs1 hp1 hd2) (by rw[e1,f1];exact hij)
      ·exact R.sep x y li lj b exy e2 f2 hb
   ·unfold Src.loc at e2
    cases hs1:s.src with
    | none=>rw[hs1] at e2;cases e2;rw[Lc.fe rfl] at hb;simp at hb
    | some x=>
     rw[hs1] at e2
     exact R.sep x j li lj b (fun e=>srcNotL s hs x hs1 (e ▸ k1)) e2 k3 hb
   ·unfold Src.loc at f2
    cases hp1:p.src with
    | none=>rw[hp1] at f2;cases f2;rw[Lc.fe rfl];simp
    | some y=>
     rw[hp1] at f2
     exact R.sep i y li lj b (fun e=>srcNotL p hp y hp1 (e ▸ h1)) h3 f2 hb
   ·exact R.sep i j li lj b hij h3 k3 hb
  ·rcases cases_ q lq hq with⟨s,hs,e1,e2⟩|⟨h1,h2,h3⟩
   ·obtain⟨ok,hsome⟩:=s1 s hs
    unfold Src.loc at e2
    cases hsrc:s.src with
    | none=>rw[hsrc] at e2;cases e2;exact .inl rfl
    | some x=>
     rw[hsrc] at e2
     obtain⟨g,hx⟩:=ok.row x hsrc
     exact .inl (R.iX e2 hx)
   ·rcases R.cH q lq h3 with h|⟨t',ti',q',ys,st,h⟩
    ·exact .inl h
    ·refine .inr ⟨t',ti',q',ys,st,?_⟩
     show H' q=_
     rw[F2 q h2,mem_iff.2 h1,h];rfl
  ·have h1:=uE hod x v hv
   exact Jk ag x v (by
    have:=uE (L:=od++h.ids) (fun i hi=>bm.2 (.inl (hod i hi))) x v hv
    exact this) (Co.vr x v hv)
  ·by_cases hm:q∈l.map (·.id)
   ·exact bm.2 (.inr hm)
   ·have hq':H' q≠none:=hq
    rw[F2 q hm] at hq'
    cases hb:mem (od++h.ids) q with
    | true=>exact bm.2 (.inl (mem_iff.1 hb))
    | false=>rw[hb] at hq';simp at hq'
omit [aq] in
theorem Ep:∀ (l:List (Nat×Option aS)) (q:Nat),I7 l q≠none→q∈l.map (·.1)
 | [],q,h=>absurd rfl h
 | (i,o)::l,q,h=>by
  simp only[I7] at h
  cases hb:ap q i with
  | true=>rw[ae hb];simp
  | false=>
   rw[hb] at h
   have:=Ep l q h
   simp only[bi,be];exact .inr this
omit [aq] in
theorem nQ {od:List Nat}{h:Hint}(hh:head od h σ=some σ'):Bd σ':=by
 unfold head at hh
 split at hh
 ·simp at hh
 ·obtain⟨_,rfl⟩:=ai hh
  intro q hq
  have:=Ep _ q hq
  simp only[List.map_append,List.map_map,bm,cf,Function.comp_apply] at this ⊢
  rcases this with⟨s,h1,h2⟩|⟨i,h1,h2⟩|⟨i,h1,h2⟩
  ·exact .inr ⟨s,h1,h2⟩
  ·subst h2;exact .inl (.inl h1)
  ·subst h2;exact .inl (.inr h1)
end
def fh (S S':ar):Prop:=∀ a v,cellS S a=some v→cellS S' a=some v
theorem eO {S S':ar}(h:fh S S'):∀ (t:Ty) (x:t.T) (cs:List Value),Rd S t x cs→Rd S' t x cs
 | .int _,_,_,hr=>hr
 | .bool,_,_,hr=>hr
 | .str,_,_,hr=>hr
 | .row e,xs,cs,hr=>by
  obtain⟨a,cap,h1,h2,h3⟩:=hr
  refine⟨a,cap,h1,h2,fun j x hj=>?_⟩
  obtain⟨ad,c,e1,e2,e3⟩:=h3 j x hj
  exact⟨ad,c,e1,eO h e x c e2,fun m v hv=>h _ _ (e3 m v hv)⟩
 | .pair a b,x,cs,hr=>by
  obtain⟨c,d,h1,h2,h3⟩:=hr
  exact⟨c,d,h1,eO h a _ _ h2,eO h b _ _ h3⟩
 | .one a,x,cs,hr=>eO h a x cs hr
 | .CQ _,_,_,hr=>hr
 | .nil,_,_,hr=>hr
section
variable {μ:Mu}{S S':ar}{H:Heap}
mutual
theorem jA (h:fh S S'):∀ (a:AV) (v:Value),VR μ S H a v→VR μ S' H a v
 | .lit _,v,hr=>by simp only[VR] at hr ⊢;exact hr
 | .ptr i off,v,hr=>by simp only[VR] at hr ⊢;exact hr
 | .FI e x off,v,hr=>by
  simp only[VR] at hr ⊢
  obtain⟨ad,c,h1,h2,h3⟩:=hr
  exact⟨ad,c,eO h _ _ _ h1,fun m u hm=>h _ _ (h2 m u hm),h3⟩
 | .CY i g k off,v,hr=>by simp only[VR] at hr ⊢;exact hr
 | .cont e xs,v,hr=>by simp only[VR] at hr ⊢;exact eO h (.row e) xs [v] hr
 | .Ks i xs,v,hr=>by simp only[VR] at hr ⊢;exact eO h (.row (.int .u8)) xs [v] hr
 | .sl i g,v,hr=>by simp only[VR] at hr ⊢;exact hr
 | .sub i g lo hi,v,hr=>by simp only[VR] at hr ⊢;exact hr
 | .Rb i n,v,hr=>by simp only[VR] at hr ⊢;exact hr
 | .iK i,v,hr=>by simp only[VR] at hr ⊢;exact hr
 | .mp i,v,hr=>by simp only[VR] at hr ⊢;exact hr
 | .zR i,v,hr=>by simp only[VR] at hr ⊢;exact hr
 | .ur i k o,v,hr=>by simp only[VR] at hr ⊢;exact hr
 | .cH i q k lo h',v,hr=>by simp only[VR] at hr ⊢;exact hr
 | .Mp i q k p,v,hr=>by simp only[VR] at hr ⊢;exact hr
 | .fn f fi ca,v,hr=>by
  simp only[VR] at hr ⊢
  obtain⟨x,y,h1,h2,h3⟩:=hr
  exact⟨x,y,h1,fN h fi _ h2,fN h ca _ h3⟩
 | .agg cs,v,hr=>by
  simp only[VR] at hr ⊢
  obtain⟨x,h1,h2⟩:=hr
  exact⟨x,h1,fN h cs _ h2⟩
 | .uo cs,v,hr=>by
  simp only[VR] at hr ⊢
  obtain⟨x,h1,h2⟩:=hr
  exact⟨x,h1,fN h cs _ h2⟩
 | .AJ t a,v,hr=>by
  simp only[VR] at hr ⊢
  obtain⟨u,h1,h2⟩:=hr
  exact⟨u,h1,jA h a _ h2⟩
 | .fE _,_,hr=>by simp only[VR] at hr
 | .CS,_,hr=>by simpa only [VR] using hr
 | .ah,_,_=>by simp only[VR]
theorem fN (h:fh S S'):∀ (as:List AV) (vs:List Value),aH μ S H as vs→aH μ S' H as vs
 | [],vs,hr=>by simp only[aH] at hr ⊢;exact hr
 | a::as,vs,hr=>by
  simp only[aH] at hr ⊢
  obtain⟨v,r,h1,h2,h3⟩:=hr
  exact⟨v,r,h1,jA h a v h2,fN h as r h3⟩
end
end
section
variable [aq]{P:Program}{w w' w0:World}{μ μ' μo:Mu}{S S' So N:ar}{H H' Ho:Heap}{B:Nat}
def Dp (S:ar)(D:Nat):ar:=fun b=>cond (ap b D) none (S b)
omit [aq] in
theorem dG {S:ar}{D b:Nat}(h:b≠D):Dp S D b=S b:=by
 unfold Dp
 cases hb:ap b D with
 | true=>exact absurd (ae hb) h
 | false=>rfl
omit [aq] in
theorem Lo {S:ar}{D:Nat}:Dp S D D=none:=by simp[Dp]
omit [aq] in
theorem xD {S:ar}{D:Nat}{x:Option (List Deferred)}(h:S D=some (.deferred x)):fh S (Dp S D):=by
 intro a v hv
 unfold cellS at hv ⊢
 by_cases e:a.block=D
 ·rw[e,h] at hv;simp at hv
 ·rw[dG e];exact hv
omit [aq] in
theorem w8 {S':ar}{w':World}(hc:fh S S'){l:Lc}{t:TypeId}{e:Ty}{xs:List e.T}(hw:∀ b,l.blk=some b→w'.heap[b]? = w.heap[b]?)(hs:∀ b,l.blk=some b→S' b=S b)
  (h:iD S w B l t e xs):iD S' w' B l t e xs:=
 ⟨h.1,h.2.imp id fun⟨b,cs,a1,a2,a3,a4,a5,a6⟩=>⟨b,cs,a1,a2,by rw[hs b a1];exact a3,by rw[hw b a1];exact a4,a5,fun j x hj=>by
  obtain⟨c,k1,k2⟩:=a6 j x hj
  exact⟨c,eO hc _ _ _ k1,k2⟩⟩⟩
theorem Rel.take (R:Rel μ S H B w0 w){D:Nat}(hD:S D=some (.deferred (some [])))(hB:B≤D)(hN:∀ b o,N b=some o→S b=some o)(hND:N D=none)(hp:aq.pre N) :
  Rel μ (Dp S D) H B w0 (w.putObj D (.deferred none)):=by
 have hlt:=R.js hD
 have hsub:∀ b o,N b=some o→Dp S D b=some o:=fun b o h=>by
  have:b≠D:=fun e=>by subst e;rw[hND] at h;simp at h
  rw[dG this];exact hN b o h
 have hbl:Below B w (w.putObj D (.deferred none)):=nX hB _
 refine⟨R.below.trans hbl,by simpa using R.size,fun b o h=>?_,R.dom,fun i o hi=>?_,R.sep,R.cH,aq.mono _ _ hsub hp⟩
 ·have:b≠D:=fun e=>by subst e;rw[Lo] at h;simp at h
  rw[dG this] at h
  rw[aw this];exact R.st b o h
 ·obtain⟨l,h1,h2⟩:=R.obj i o hi
  refine⟨l,h1,?_⟩
  have hneH:∀ b,l.has b→b≠D:=fun b hb e=>by
   have:=(R.CR h1 hb).2
   rw[e,hD] at this;simp at this
  have hne:∀ b,l.blk=some b→b≠D:=fun b hb=>hneH b (.inl hb)
  have hc:=xD hD
  cases o with
  | box t cells=>
   obtain⟨b,cs,q1,q2,q3,q4,q5⟩:=h2
   exact⟨b,cs,q1,q2,by rw[dG (hne b q1)];exact q3,by rw[aw (hne b q1)];exact q4,fN hc _ _ q5⟩
  | eP s pos=>
   obtain⟨b,q1,q2,q3,q4⟩:=h2
   exact⟨b,q1,q2,by rw[dG (hne b q1)];exact q3,by rw[aw (hne b q1)];exact q4⟩
  | map es=>
   obtain⟨b,q1,q2,q3,q4⟩:=h2
   exact⟨b,q1,q2,by rw[dG (hne b q1)];exact q3,by rw[aw (hne b q1)];exact q4⟩
  | cL es=>
   obtain⟨b,ents,ck,q1,q2,q3,q4,q5⟩:=h2
   exact⟨b,ents,ck,q1,q2,by rw[dG (hne b q1)];exact q3,by rw[aw (hne b q1)];exact q4,q5⟩
  | loop k r st ts=>
   obtain⟨b,fn,ss,pe,vs,ps,asn,body,df,q1,q2,q3,q4,q5,q6,q7⟩:=h2
   exact⟨b,fn,ss,pe,vs,ps,asn,body,df,q1,q2,by rw[dG (hne b q1)];exact q3,q4,q5,by rw[aw (hne b q1)];exact q6,fN hc _ _ q7⟩
  | row t e g xs=>exact w8 hc (fun b hb=>aw (hne b hb)) (fun b hb=>dG (hne b hb)) h2
  | aO t ti q xs st=>
   have h2:cT S w B l t ti xs st:=h2
   exact⟨h2.len,h2.out,fun k x hx hm=>w8 hc (fun b hb=>aw (hneH b (Lc.ji hb))) (fun b hb=>dG (hneH b (Lc.ji hb))) (h2.row k x hx hm),h2.one,h2.off,
    h2.CS.imp id fun⟨b,cs,q1,q2,q3,q4,q5,q6⟩=>⟨b,cs,q1,q2,by rw[dG (hne b q1)];exact q3,by rw[aw (hne b q1)];exact q4,q5,fun k x hx=>by
     obtain⟨f0,f2,v,f1,f3,f4,f5⟩:=q6 k x hx
     exact⟨f0,f2,v,f1,f3,f4,fun h=>eO hc _ _ _ (f5 h)⟩⟩⟩
def xY (S:ar)(D:Nat)(o:Obj):ar:=fun b=>cond (ap b D) (some o) (S b)
omit [aq] in
theorem uQ {S:ar}{D b:Nat}{o:Obj}(h:b≠D):xY S D o b=S b:=by
 unfold xY
 cases hb:ap b D with
 | true=>exact absurd (ae hb) h
 | false=>rfl
omit [aq] in
theorem yP {S:ar}{D:Nat}{o:Obj}:xY S D o D=some o:=by simp[xY]
theorem Rel.mark (R:Rel μ S H B w0 w)(o:Obj):Rel μ (xY S w.heap.size o) H B w0 (w.alloc o)∧Carry B μ S H μ (xY S w.heap.size o) H:=by
 have hsub:∀ b o',S b=some o'→xY S w.heap.size o b=some o':=fun b o' h=>by
  rw[uQ (by have:=R.js h;omega)];exact h
 have E:Ext μ S H μ (xY S w.heap.size o) H:=⟨fun _ _ h=>.inl h,hsub,fun _ t _ g xs _ h=>⟨t,g,xs,h,dd _,fun _=>rfl⟩,fun _ t ti q xs st _ h=>⟨t,ti,q,xs,st,h,dd _,rfl,fun _ _ h=>h⟩⟩
 refine⟨⟨R.below.alloc R.size o,by have:=R.size;simp;omega,fun b o' h=>?_,R.dom,fun i o' hi=>?_,R.sep,R.cH,aq.mono _ _ hsub R.pre⟩,fun a v h=>dA E a v h,fun b hb=>?_,hsub⟩
 ·by_cases e:b=w.heap.size
  ·subst e;rw[yP] at h;cases h;exact alloc_heap_new w o
  ·rw[uQ e] at h
   rw[fT w o (R.js h)];exact R.st b o' h
 ·obtain⟨l,h1,h2⟩:=R.obj i o' hi
  exact⟨l,h1,bD E (fun b hb=>fT w o (R.p8 h1 hb)) (fun b hb=>by
   have:=R.p8 h1 hb
   rw[uQ (by omega)];exact (R.CR h1 hb).2) h2⟩
 ·by_cases e:b=w.heap.size
  ·subst e;exact .inr R.size
  ·rw[uQ e] at hb;exact .inl hb
omit [aq] in
theorem Ext.loop {i k r:Nat}{st:KO}{ts:List AV}:Ext μ S H μ S (aP H i (some (.loop k r st ts))):=Ext.still' rfl
theorem Rel.loop (R:Rel μ S H B w0 w){i k r b:Nat}{cp:Nat}{st:KO}{ts:List AV}(h:H i=some (.loop k r st ts))(hm:μ i=some ⟨some b,cp,aT⟩) :
  ∃ L:Loop,w.heap[b]? = some (.loop L)∧aq.fX k r=some (L.params,L.assign,L.body)∧st.Is L.state L.pending∧aH μ S H ts L.tmps.toList:=by
 obtain⟨l,h1,h2⟩:=R.obj i _ h
 rw[hm] at h1;cases h1
 obtain⟨b',fn,ss,pe,vs,ps,asn,body,df,q1,q2,q3,q4,q5,q6,q7⟩:=h2
 cases q1
 exact⟨⟨ss,pe,fn,vs,ps,asn,body,df⟩,q6,q4,q5,q7⟩
theorem Rel.ux (R:Rel μ S H B w0 w){i k r b:Nat}{cp:Nat}{st st':KO}{ts:List AV}(h:H i=some (.loop k r st ts))(hm:μ i=some ⟨some b,cp,aT⟩){L L':Loop}
  (hL:w.heap[b]? = some (.loop L)) (hc:L'.params=L.params∧L'.assign=L.assign∧L'.body=L.body∧L'.tmps=L.tmps) (hst:st'.Is L'.state L'.pending) :
  Rel μ S (aP H i (some (.loop k r st' ts))) B w0 (w.putObj b (.loop L'))∧Ext μ S H μ S (aP H i (some (.loop k r st' ts))):=by
 obtain⟨l,h1,h2⟩:=R.obj i _ h
 rw[hm] at h1;cases h1
 obtain⟨b',fn,ss,pe,vs,ps,asn,body,df,q1,q2,q3,q4,q5,q6,q7⟩:=h2
 cases q1
 rw[hL] at q6;cases q6
 obtain⟨c1,c2,c3,c4⟩:=hc
 obtain⟨ss',pe',fn',vs',ps',asn',body',df'⟩:=L'
 simp only at c1 c2 c3 c4 hst
 subst c1 c2 c3 c4
 have E:Ext μ S H μ S (aP H i (some (.loop k r st' ts))):=Ext.loop
 refine⟨R.wr hm (.inl rfl) _ (nX (dd _) _) (by simp) (fun k hk=>aw hk) E ?_ (.inl rfl),E⟩
 exact⟨b,fn',ss',pe',_,_,_,_,df',rfl,q2,q3,q4,hst,World.putObj_heap_same (R.lt hm rfl),dU E _ _ q7⟩
theorem k9 {F:Fence}{fn:Func}{tmps:Array Value}{Rs:Ending→World→Prop}{Dt:List Deferred}{u:FrameMode}(hu:u ≠ .run)(hN:aq.pre N):∀ (ms:List Nat) (S:ar) (w:World),Rel μ S H B w0 w→Mark S N ms→(∀ b o,N b=some o→S b=some o)→(∀ D∈ms,B≤D) →
  (∀ (S':ar) (w':World),Rel μ S' H B w0 w'→fh S S'→(∀ b o,N b=some o→S' b=some o)→(∀ b,S' b≠none→S b≠none)→LeavesInM F 0 P fn tmps Rs Dt u w') →
  LeavesInM F 0 P fn tmps Rs ((ms.map fun D=>⟨.collected D,#[]⟩)++Dt) u w
 | [],S,w,R,hm,hsub,hB,hK=>hK S w R (fun _ _ h=>h) hsub (fun _ h=>h)
 | D::ms,S,w,R,hm,hsub,hB,hK=>by
  obtain⟨hnd,hms⟩:=hm
  obtain⟨hND,hSD⟩:=hms D (by simp)
  have hw:=R.st _ _ hSD
  refine⟨hu,.inl ⟨D,_,rfl,run_takeDeferred hw,?_⟩⟩
  have R1:=R.take hSD (hB D (by simp)) hsub hND hN
  have hnd':=List.nodup_cons.1 hnd
  refine k9 hu hN ms _ _ R1 ⟨hnd'.2,fun D' hD'=>⟨(hms D' (by simp[hD'])).1,?_⟩⟩ (fun b o h=>?_) (fun D' hD'=>hB D' (by simp[hD'])) (fun S' w' R' hc h1 h2=>?_)
  ·rw[dG (fun e=>by subst e;exact hnd'.1 hD')];exact (hms D' (by simp[hD'])).2
  ·rw[dG (fun e=>by subst e;rw[hND] at h;simp at h)];exact hsub b o h
  ·refine hK S' w' R' (fun a v h=>hc _ _ (xD hSD _ _ h)) h1 (fun b hb=>?_)
   have:=h2 b hb
   unfold Dp at this
   intro hn
   rw[hn] at this
   apply this
   cases ap b D<;>rfl
omit [aq] in
theorem yV {f:Nat→AV}:∀ (vs:List Value) (k:Nat),(∀ t,t<vs.length→VR μ S H (f (k+t)) (vs.getD t undef))→aH μ S H ((List.range' k vs.length).map f) vs
 | [],k,h=>by simp[aH]
 | v::vs,k,h=>by
  simp only[List.length_cons,List.range'_succ,bi,aH]
  refine⟨v,vs,rfl,by simpa using h 0 (by simp),yV vs (k+1) fun t ht=>?_⟩
  have:=h (t+1) (by simp;omega)
  rw[show k+1+t=k+(t+1) by omega]
  simpa using this
def ni:List AV→List Tmp→List AV→List AV
 | ts,p::ps,a::as=>ni (ts.set p a) ps as
 | ts,_,_=>ts
omit [aq] in
theorem zn:∀ {ts:List AV} {vs:Array Value} {ps:List Tmp} {as:List AV} {us:List Value},aH μ S H ts vs.toList→aH μ S H as us →
  aH μ S H (ni ts ps as) ((ps.zip us).foldl (fun tmps (t,a)=>tmps.setIfInBounds t a) vs).toList
 | ts,vs,[],as,us,h,h'=>by simpa [ni] using h
 | ts,vs,p::ps,[],us,h,h'=>by
  simp only[aH] at h';subst h'
  simpa [ni] using h
 | ts,vs,p::ps,a::as,us,h,h'=>by
  simp only[aH] at h'
  obtain⟨v,r,rfl,h2,h3⟩:=h'
  simp only[ni,List.zip_cons_cons,List.foldl_cons]
  refine zn ?_ h3
  rw[Array.toList_setIfInBounds]
  exact Ci h p a v h2
end
section
variable {P:Program}{b:Frame}{a:Act}{k:List Item}{cs:List Frame}{w:World}
theorem dl {c:Code}:step P (lone (b.atR a (.code (.scope c)::k)) cs w) = .next (lone (b.atR a (.code c :: .inScope c::k)) cs w):=
 step_lone_go (by simp[stepG,stepG.exec,Frame.atR])
theorem oq {c:Code}:step P (lone (b.atR a (.inScope c::k)) cs w) = .next (lone (b.atR a k) cs w):=
 step_lone_go (by simp[stepG,stepG.exec,Frame.atR])
end
def tY (l:Nat)(J:Act→World→Prop)(Q:Exit→Act→World→Prop):Exit→Act→World→Prop
 | .goto l',a,w=>l'=l∧J a w
 | e,a,w=>Q e a w
def kx (F:Fence)(n:Nat)(P:Program)(l:Nat)(r:Code)(Q:Exit→Act→World→Prop):Nat→Act→World→Prop
 | 0,_,_=>False
 | m+1,a,w=>r.wpIn F n P (tY l (kx F n P l r Q m) Q) a w
theorem iZ {F:Fence}{n:Nat}{P:Program}{Q:Exit→Act→World→Prop}{a:Act}{w:World}{c r:Code}{l:Nat}(m:Nat)(hf:0<m→findLabel c l=some r)
  (h:c.wpIn F n P (tY l (kx F n P l r Q m) Q) a w):(Code.scope c).wpIn F n P Q a w:=by
 intro b k cs hro hb hr
 have hx:∀ i,exitTo i (.inScope c::k)=exitTo i k:=fun i=>by simp[exitTo]
 have key:∀ m a w,(0<m→findLabel c l=some r)→kx F n P l r Q m a w →
   ∃ e a' w',Q e a' w'∧ArrivesIn (Machine.fenced P F) P (lone (b.atR a (.code r :: .inScope c::k)) cs w) b k cs e a' w':=by
  intro m
  induction m with
  | zero=>intro a w _ h;exact h.elim
  | succ m ih=>
   intro a w hf h
   obtain⟨e,a₁,w₁,hq,harr⟩:=h b (.inScope c::k) cs hro hb hr
   cases e with
   | normal=>exact⟨.normal,a₁,w₁,hq,StepsIn.trans harr (.one (fenced_calm hb hr rfl) oq)⟩
   | exit i=>exact⟨.exit i,a₁,w₁,hq,fun k' hk=>harr.1 k' (by rw[hx];exact hk),fun hr' hk=>harr.2 hr' (by rw[hx];exact hk)⟩
   | goto l'=>
    obtain⟨rfl,hJ⟩:=hq
    obtain⟨e₂,a₂,w₂,hq₂,harr₂⟩:=ih a₁ w₁ (fun _=>hf (eI _)) hJ
    have hg:gotoIn l' (.inScope c::k)=some (.code r :: .inScope c::k):=by simp[gotoIn,hf (eI _)]
    exact⟨e₂,a₂,w₂,hq₂,.of_steps (harr.1 _ hg) harr₂⟩
   | ret=>exact⟨_,a₁,w₁,hq,harr⟩
   | panic ch=>exact⟨_,a₁,w₁,hq,harr⟩
   | outgrown=>exact⟨_,a₁,w₁,hq,harr⟩
 have h0:(lone (b.atR a (.code (.scope c)::k)) cs w).fenced P F:=fenced_calm hb hr rfl
 obtain⟨e,a₁,w₁,hq,harr⟩:=h b (.inScope c::k) cs hro hb hr
 cases e with
 | normal=>exact⟨.normal,a₁,w₁,hq,.head h0 dl (StepsIn.trans harr (.one (fenced_calm hb hr rfl) oq))⟩
 | exit i=>exact⟨.exit i,a₁,w₁,hq,fun k' hk=>.head h0 dl (harr.1 k' (by rw[hx];exact hk)),fun hr' hk=>let ⟨k₁,h1,h2⟩:=harr.2 hr' (by rw[hx];exact hk);⟨k₁,h1,.head h0 dl h2⟩⟩
 | goto l'=>
  obtain⟨rfl,hJ⟩:=hq
  cases m with
  | zero=>exact hJ.elim
  | succ m=>
   obtain⟨e₂,a₂,w₂,hq₂,harr₂⟩:=key (m+1) a₁ w₁ hf hJ
   have hg:gotoIn l' (.inScope c::k)=some (.code r :: .inScope c::k):=by simp[gotoIn,hf (eI _)]
   exact⟨e₂,a₂,w₂,hq₂,.of_steps (.head h0 dl (harr.1 _ hg)) harr₂⟩
 | ret=>exact⟨_,a₁,w₁,hq,.of_steps (.one h0 dl) harr⟩
 | panic ch=>exact⟨_,a₁,w₁,hq,.of_steps (.one h0 dl) harr⟩
 | outgrown=>exact⟨_,a₁,w₁,hq,.of_steps (.one h0 dl) harr⟩
def yC:Code→Bool
 | .seq x y=>yC x&&yC y
 | .label _=>false
 | _=>true
theorem oT {l:Nat}:∀ {c:Code},yC c=true→findLabel c l=none
 | .seq x y,h=>by
  simp only[yC,al] at h
  simp[findLabel,oT h.1,oT h.2]
 | .label _,h=>by simp[yC] at h
 | .skip,_=>rfl
 | .region _ _ _,_=>rfl
 | .cond _ _ _,_=>rfl
 | .block _ _,_=>rfl
 | .loop _,_=>rfl
 | .exit _,_=>rfl
 | .ret,_=>rfl
 | .rangeFunc _ _ _ _,_=>rfl
 | .scope _,_=>rfl
 | .goto _,_=>rfl
 | .refuse _,_=>rfl
def qB:Code→Option Nat
 | .label l=>some l
 | _=>none
theorem wA {c:Code}{l:Nat}(h:qB c=some l):c = .label l:=by
 cases c<;>simp_all [qB]
def iY:Code→Bool
 | .seq x y=>match qB x with
  | some _=>true
  | none=>yC x&&iY y
 | .label _=>false
 | _=>true
def bq:Code→Option (Nat×Code)
 | .seq x y=>match qB x with
  | some l=>some (l,.seq .skip y)
  | none=>bq y
 | _=>none
theorem ve:∀ {c:Code} {l:Nat} {r:Code},iY c=true→bq c=some (l,r)→findLabel c l=some r
 | .seq x y,l,r,h,hs=>by
  simp only[iY,bq] at h hs
  cases hl:qB x with
  | some l'=>
   rw[hl] at hs
   simp only[ba,dp] at hs
   obtain⟨rfl,rfl⟩:=hs
   have:=wA hl
   subst this
   simp[findLabel]
  | none=>
   rw[hl] at h hs
   simp only[al] at h
   simp only at hs
   simp[findLabel,oT h.1,ve h.2 hs]
 | .skip,_,_,_,hs=>by simp[bq] at hs
 | .region _ _ _,_,_,_,hs=>by simp[bq] at hs
 | .cond _ _ _,_,_,_,hs=>by simp[bq] at hs
 | .block _ _,_,_,_,hs=>by simp[bq] at hs
 | .loop _,_,_,_,hs=>by simp[bq] at hs
 | .exit _,_,_,_,hs=>by simp[bq] at hs
 | .label _,_,_,_,hs=>by simp[bq] at hs
 | .ret,_,_,_,hs=>by simp[bq] at hs
 | .rangeFunc _ _ _ _,_,_,_,hs=>by simp[bq] at hs
 | .scope _,_,_,_,hs=>by simp[bq] at hs
 | .goto _,_,_,_,hs=>by simp[bq] at hs
 | .refuse _,_,_,_,hs=>by simp[bq] at hs
def Xz.ex:Xz→Ex
 | .ret=>.ret
 | .exit i=>.exit i
 | .goto l=>.goto l
def cj:Nat→(St→Option (Ex×St))→St→Option (Ex×St)
 | 0,_,_=>none
 | n+1,f,σ=>match f σ with
  | some (.dS,σ')=>cj n f σ'
  | some (.exit i,σ')=>some (.exit i,σ')
  | some (.goto i,σ')=>some (.goto i,σ')
  | some (.ret,σ')=>some (.ret,σ')
  | some (.fE _,_)=>none
  | none=>none
def oe (base id:Nat):Nat:=base+id * 4096
abbrev Hints:=Nat→Nat→St→Option qE
def hintOf (Hn:Hints)(base:Nat)(x:Code)(σ:St):Option qE:=
 match bK x with
 | some r=>Hn base r σ
 | none=>none
def GL:Option qE→St→St
 | none,σ=>σ
 | some h,σ=>σ.fD h.fD
theorem Jl {h:Option qE}{σ:St}(hB:Bd σ):Bd (GL h σ):=by
 cases h with
 | none=>exact hB
 | some h=>exact Dk _ hB
theorem Sa [aq]{N:ar}{Dt:Bool×List Deferred}{σ:St}{a:Act}{μ μo:Mu}{S So:ar}{Ho:Heap}{B:Nat}{w0 w:World}{h:Option qE}(A:AR N Dt μ S σ a)(R:Rel μ S σ.heap B w0 w)(Co:Carry B μo So Ho μ S σ.heap) :
  ∃ μ',AR N Dt μ' S (GL h σ) a∧Rel μ' S (GL h σ).heap B w0 w∧Carry B μo So Ho μ' S (GL h σ).heap:=by
 cases h with
 | none=>exact⟨μ,A,R,Co⟩
 | some h=>exact D3 _ A R Co
def cQ (od:List Nat)(h:Option qE)(f:St→Option (Ex×St))(σ:St):Option (Ex×St):=
 match h with
 | none=>f σ
 | some h=>match head od h.top σ with
  | some σ'=>f σ'
  | none=>none
def mP (od:List Nat)(h:Option qE):Option (Ex×St)→Option (Ex×St)
 | some (e,σ)=>match h with
  | none=>some (e,σ)
  | some h=>match e with
   | .exit i=>match h.out with
    | some h'=>match head od h' σ with
     | some σ'=>some (.exit i,σ')
     | none=>none
    | none=>some (.exit i,σ)
   | .ret=>match h.ret with
    | some h'=>match head od h' σ with
     | some σ'=>some (.ret,σ')
     | none=>none
    | none=>some (.ret,σ)
   | e=>some (e,σ)
 | none=>none
def Yn (ops:Array Oper):List Nat:=ops.toList.flatMap fun o=>o.op.operands.toList.flatMap fun x=>match x with
 | .tmp t=>[t]
 | _=>[]
def jl:Code→List Nat
 | .region _ ops _=>Yn ops
 | .seq x y=>jl x++jl y
 | .cond c x y=>(match c with
  | .tmp t=>[t]
  | _=>[])++(jl x++jl y)
 | .block _ x=>jl x
 | .loop x=>jl x
 | _=>[]
def jv (P:Program)(k:Nat):Bool:=match P.funcs[k]? with
 | some fn=>match fn.body with
  | some _=>!(fn.name == "runtime.NumGoroutine")
  | none=>false
 | none=>false
def oB (σ:St)(x:cE):List AV:=(List.range' 0 σ.nt).map fun t=>cond (mem (jl x.2.1++jl x.2.2) t) (σ.tmps t) .ah
def Rw (σ:St)(base fid r:Nat)(x:cE):Option (St×Nat):=
 cond ((σ.heap (oe base r)).isNone) (some (⟨σ.nt,σ.tmps,aP σ.heap (oe base r) (some (.loop fid r .ready (oB σ x))),σ.ids++[oe base r]⟩,oe base r)) none
def mW (σ:St)(i:Nat)(H:Heap)(L:List Nat):Option (Ex×St):=
 match H i with
 | some (.loop k r .ready ts)=>some (.dS,⟨σ.nt,σ.tmps,aP H i (some (.loop k r .over ts)),L⟩)
 | some (.loop k r (.done j) ts)=>some (j.ex,⟨σ.nt,σ.tmps,aP H i (some (.loop k r .over ts)),L⟩)
 | _=>none
def gC (P:Program)(F:jy)(base:Nat)(rf:Option Nat)(g:Operand)(body:Code)(σ:St):Option (Ex×St):=
 match rf,σ.val g,bK body with
 | some fid,.fn (.func k) first caps,some r=>match dB P fid r with
  | some x=>match Rw σ base fid r x with
   | some (σ1,i)=>match jv P k,F (i+1) (.fn k) (first++[.iK i]++caps) σ1.heap σ1.ids with
    | true,some (v,H,L)=>cond v.ep none (mW σ i H L)
    | _,_=>none
   | none=>none
  | none=>none
 | _,_,_=>none
def Bw:Nat:=1000000007
def ix (l:Nat):Ex→Option Ex
 | .dS=>some (.exit Bw)
 | .goto i=>cond (ap i l) (some .dS) none
 | .exit i=>cond (ap i Bw) none (some (.exit i))
 | .ret=>some .ret
 | .fE _=>none
def iO (l:Nat):Option (Ex×St)→Option (Ex×St)
 | some (e,σ)=>match ix l e with
  | some e'=>some (e',σ)
  | none=>none
 | none=>none
def Mw:Ex→Option Ex
 | .exit i=>cond (ap i Bw) (some .dS) (some (.exit i))
 | .ret=>some .ret
 | _=>none
def vh:Option (Ex×St)→Option (Ex×St)
 | some (e,σ)=>match Mw e with
  | some e'=>some (e',σ)
  | none=>none
 | none=>none
def noGoto:Option (Ex×St)→Option (Ex×St)
 | some (.goto _,_)=>none
 | r=>r
def aC (P:Program)(C:Cons)(Hn:Hints)(F:jy)(lf base:Nat)(od:List Nat)(rf:Option Nat):Bool→Code→St→Option (Ex×St)
 | _,.skip,σ=>some (.dS,σ)
 | _,.region id ops draw,σ=>
  cond draw (iN P C F ops (oe base id) σ) (oo P C F ops (oe base id) (List.range ops.size) σ)
 | false,.seq x y,σ=>match aC P C Hn F lf base od rf false x σ with
  | some (.dS,σ')=>aC P C Hn F lf base od rf false y σ'
  | some (.exit i,σ')=>some (.exit i,σ')
  | some (.goto i,σ')=>some (.goto i,σ')
  | some (.ret,σ')=>some (.ret,σ')
  | some (.fE v,σ')=>some (.fE v,σ')
  | none=>none
 | true,.seq x y,σ=>match qB x with
  | some l=>vh (mP od (hintOf Hn base y σ) (cj lf (cQ od (hintOf Hn base y σ) fun σ=>iO l (aC P C Hn F lf base od rf false y σ)) σ))
  | none=>match aC P C Hn F lf base od rf false x σ with
   | some (.dS,σ')=>aC P C Hn F lf base od rf true y σ'
   | some (.exit i,σ')=>some (.exit i,σ')
   | some (.ret,σ')=>some (.ret,σ')
   | some (.fE v,σ')=>some (.fE v,σ')
   | _=>none
 | _,.cond c x y,σ=>match σ.val c with
  | .lit (.bool b)=>cond b (aC P C Hn F lf base od rf false x σ) (aC P C Hn F lf base od rf false y σ)
  | _=>none
 | _,.block id x,σ=>match aC P C Hn F lf base od rf false x σ with
  | some (.exit i,σ')=>cond (ap i id) (some (.dS,σ')) (some (.exit i,σ'))
  | r=>r
 | _,.loop x,σ=>mP od (hintOf Hn base x σ) (cj lf (cQ od (hintOf Hn base x σ) (aC P C Hn F lf base od rf false x)) (GL (hintOf Hn base x σ) σ))
 | _,.exit id,σ=>some (.exit id,σ)
 | _,.label _,σ=>some (.dS,σ)
 | _,.ret,σ=>some (.ret,σ)
 | _,.rangeFunc g _ _ body,σ=>gC P F base rf g body σ
 | _,.scope x,σ=>cond (iY x) (noGoto (aC P C Hn F lf base od rf true x σ)) none
 | _,.goto l,σ=>some (.goto l,σ)
 | _,_,_=>none
def QN (P:Program)(σ:St):ResultVar→Option AV
 | .tmp t=>cond (ol t σ.nt) (some (σ.tmps t)) none
 | .cell a t=>match σ.val (.tmp a) with
  | .ptr i off=>match σ.heap i with
   | some (.box _ cs)=>cut P t cs off
   | _=>none
  | _=>none
def eU (P:Program)(σ:St):List ResultVar→Option (List AV)
 | []=>some []
 | r::rs=>match QN P σ r,eU P σ rs with
  | some v,some vs=>some (v::vs)
  | _,_=>none
def fy:List AV→Nat→AV
 | [],_=>.lit undef
 | a::_,0=>a
 | _::l,n+1=>fy l n
def pY (P:Program)(rs:List ResultVar):Option (Ex×St)→Option (AV×Heap×List Nat)
 | some (.dS,σ)=>match eU P σ rs with
  | some vs=>some (gw vs,σ.heap,σ.ids)
  | none=>none
 | some (.ret,σ)=>match eU P σ rs with
  | some vs=>some (gw vs,σ.heap,σ.ids)
  | none=>none
 | some (.fE v,σ)=>some (.fE v,σ.heap,σ.ids)
 | _=>none
def vU (P:Program)(i:Nat)(as:List AV)(H:Heap)(L:List Nat):Option (Nat×Nat×cE×St):=
 match H i with
 | some (.loop k r .ready ts)=>match dB P k r with
  | some x=>cond (ap x.1.size as.length) (some (k,r,x,⟨ts.length,fy (ni ts x.1.toList as),H,L⟩)) none
  | none=>none
 | _=>none
def qu (i k r:Nat)(σ:St):Option St:=
 match σ.heap i with
 | some (.loop k' r' .ready ts)=>cond (ap k' k&&ap r' r) (some ⟨σ.nt,σ.tmps,aP σ.heap i (some (.loop k r .busy ts)),σ.ids⟩) none
 | _=>none
def Ex.st:Ex→KO
 | .dS=>.ready
 | .ret=>.done .ret
 | .exit i=>.done (.exit i)
 | .goto l=>.done (.goto l)
 | .fE _=>.ready
def Ex.ep:Ex→Bool
 | .fE _=>true
 | _=>false
def Ex.on:Ex→Bool
 | .dS=>true
 | _=>false
def xa (i k r:Nat)(e:Ex)(σ:St):Option (AV×Heap×List Nat):=
 match σ.heap i with
 | some (.loop k' r' .busy ts)=>cond (ap k' k&&ap r' r && !e.ep) (some (.lit (.bool e.on),aP σ.heap i (some (.loop k r e.st ts)),σ.ids)) none
 | _=>none
def yB (i k r:Nat)(asn body:St→Option (Ex×St))(σ:St):Option (AV×Heap×List Nat):=
 match asn σ with
 | some (.dS,σ1)=>match qu i k r σ1 with
  | some σ2=>match body σ2 with
   | some (e,σ3)=>xa i k r e σ3
   | none=>none
  | none=>none
 | _=>none
def bA (P:Program)(C:Cons)(Hn:Hints)(lf:Nat):Nat→jy
 | 0=>fun _ _ _ _ _=>none
 | n+1=>fun base c as H L=>match c with
  | .fn k=>match P.funcs[k]? with
   | some fn=>match fn.body with
    | some c=>cond (eh as.length fn.ntmps) (pY P fn.results.toList (aC P C Hn (bA P C Hn lf n) lf (eJ base * 4294967296) L (some k) false c ⟨fn.ntmps,fy as,H,L⟩)) none
    | none=>none
   | none=>none
  | .iK i=>match vU P i as H L with
   | some (k,r,x,σ)=>yB i k r (aC P C Hn (bA P C Hn lf n) lf (eJ base * 4294967296) L none false x.2.1) (aC P C Hn (bA P C Hn lf n) lf (eJ base * 4294967296) L none false x.2.2) σ
   | none=>none
section
variable [aq]{P:Program}{C:Cons}{F:jy}{rd:Option Nat}{N:ar}{Dt:Bool×List Deferred}{B lf base:Nat}{w0:World}
omit [aq] in
theorem sD {f:St→Option (Ex×St)}(hf:∀ σ e σ',f σ=some (e,σ')→Bd σ→Bd σ'):∀ (n:Nat) (σ:St) (e:Ex) (σ':St),cj n f σ=some (e,σ')→Bd σ→Bd σ'
 | 0,σ,e,σ',h,_=>by simp[cj] at h
 | n+1,σ,e,σ',h,hB=>by
  simp only[cj] at h
  split at h
  ·rename_i σ1 h1;exact sD hf n σ1 e σ' h (hf _ _ _ h1 hB)
  ·rename_i h1;cases h;exact hf _ _ _ h1 hB
  ·rename_i h1;cases h;exact hf _ _ _ h1 hB
  ·rename_i h1;cases h;exact hf _ _ _ h1 hB
  ·simp at h
  ·simp at h
omit [aq] in
theorem iT {od:List Nat}{h:Option qE}{r:Option (Ex×St)}{e:Ex}{σ':St}(hr:mP od h r=some (e,σ')) :
  r=some (e,σ')∨∃ σ h',r=some (e,σ)∧head od h' σ=some σ':=by
 unfold mP at hr
 split at hr
 ·rename_i e0 σ
  split at hr
  ·exact .inl hr
  ·split at hr
   ·split at hr
    ·rename_i h' _
     split at hr
     ·rename_i σ1 h1;cases hr;exact .inr ⟨σ,h',rfl,h1⟩
     ·simp at hr
    ·exact .inl hr
   ·split at hr
    ·rename_i h' _
     split at hr
     ·rename_i σ1 h1;cases hr;exact .inr ⟨σ,h',rfl,h1⟩
     ·simp at hr
    ·exact .inl hr
   ·exact .inl hr
 ·simp at hr
omit [aq] in
theorem Li {σ σ':St}{i:Nat}{H:Heap}{L:List Nat}{e:Ex}(h:mW σ i H L=some (e,σ'))(hb:∀ q,H q≠none→q∈L):Bd σ':=by
 have key:∀ o,H i≠none→∀ q,aP H i o q≠none→q∈L:=by
  intro o hi q hq
  by_cases eq:q=i
  ·subst eq;exact hb q hi
  ·rw[ax _ _ eq] at hq;exact hb q hq
 unfold mW at h
 split at h
 ·rename_i hH;cases h;exact key _ (by rw[hH];simp)
 ·rename_i hH;cases h;exact key _ (by rw[hH];simp)
 ·simp at h
theorem IY {g:Operand}{body:Code}{rf:Option Nat}{σ σ':St}{e:Ex}(hF:cV P F)(h:gC P F base rf g body σ=some (e,σ'))(hB:Bd σ):Bd σ':=by
 unfold gC at h
 split at h
 ·rename_i fid k first caps r hg hr
  split at h
  ·rename_i x hx
   split at h
   ·rename_i σ1 i hin
    split at h
    ·rename_i v H L hc hcall
     obtain⟨hi,e1⟩:=ai hin
     cases e1
     have:=(hF _ _ _ _ _ _ _ _ hcall (fun q hq=>by
      show q∈σ.ids++[oe base r]
      by_cases eq:q=oe base r
      ·subst eq;simp
      ·simp only at hq;rw[ax _ _ eq] at hq;simp[hB q hq])).1
     exact Li (cu h).2 this
    ·simp at h
   ·simp at h
  ·simp at h
 ·simp at h
theorem aJ {Hn:Hints}{od:List Nat}{rf:Option Nat}(hF:cV P F):∀ (sc:Bool) (c:Code) (σ:St) (e:Ex) (σ':St),aC P C Hn F lf base od rf sc c σ=some (e,σ')→Bd σ→Bd σ'
 | sc,.skip,σ,e,σ',h,hB=>by simp only[aC] at h;cases h;exact hB
 | sc,.region id ops draw,σ,e,σ',h,hB=>by
  simp only[aC] at h
  cases draw with
  | true=>exact Gj hF h hB
  | false=>exact Ds hF _ _ _ _ h hB
 | false,.seq x y,σ,e,σ',h,hB=>by
  simp only[aC] at h
  split at h
  ·rename_i σ1 h1;exact aJ hF false y σ1 e σ' h (aJ hF false x σ _ σ1 h1 hB)
  ·rename_i h1;cases h;exact aJ hF false x σ _ _ h1 hB
  ·rename_i h1;cases h;exact aJ hF false x σ _ _ h1 hB
  ·rename_i h1;cases h;exact aJ hF false x σ _ _ h1 hB
  ·rename_i h1;cases h;exact aJ hF false x σ _ _ h1 hB
  ·simp at h
 | true,.seq x y,σ,e,σ',h,hB=>by
  simp only[aC] at h
  split at h
  ·rename_i l hl
   have fl:∀ σ e σ',iO l (aC P C Hn F lf base od rf false y σ)=some (e,σ')→Bd σ→Bd σ':=by
    intro σ e σ' h hB
    unfold iO at h
    split at h
    ·rename_i e1 σ1 h1
     split at h
     ·cases h;exact aJ hF false y σ _ _ h1 hB
     ·simp at h
    ·simp at h
   unfold vh at h
   split at h
   ·rename_i e1 σ1 h1
    split at h
    ·cases h
     rcases iT h1 with h|⟨σ2,h',h,hh⟩
     ·refine sD (fun σ e σ' h hB=>?_) lf σ _ _ h hB
      unfold cQ at h
      split at h
      ·exact fl σ e σ' h hB
      ·split at h
       ·rename_i σ1 h1;exact fl σ1 e σ' h (nQ h1)
       ·simp at h
     ·exact nQ hh
    ·simp at h
   ·simp at h
  ·split at h
   ·rename_i σ1 h1;exact aJ hF true y σ1 e σ' h (aJ hF false x σ _ σ1 h1 hB)
   ·rename_i h1;cases h;exact aJ hF false x σ _ _ h1 hB
   ·rename_i h1;cases h;exact aJ hF false x σ _ _ h1 hB
   ·rename_i h1;cases h;exact aJ hF false x σ _ _ h1 hB
   ·simp at h
 | sc,.cond c x y,σ,e,σ',h,hB=>by
  simp only[aC] at h
  split at h
  ·rename_i b hb
   cases b with
   | true=>exact aJ hF false x σ e σ' h hB
   | false=>exact aJ hF false y σ e σ' h hB
  ·simp at h
 | sc,.block id x,σ,e,σ',h,hB=>by
  simp only[aC] at h
  split at h
  ·rename_i i σ1 h1
   have:=aJ hF false x σ _ σ1 h1 hB
   cases hb:ap i id<;>rw[hb] at h<;>cases h<;>exact this
  ·exact aJ hF false x σ e σ' h hB
 | sc,.loop x,σ,e,σ',h,hB=>by
  simp only[aC] at h
  rcases iT h with h|⟨σ1,h',h,hh⟩
  ·refine sD (fun σ e σ' h hB=>?_) lf _ e σ' h (Jl hB)
   unfold cQ at h
   split at h
   ·exact aJ hF false x σ e σ' h hB
   ·split at h
    ·rename_i σ1 h1;exact aJ hF false x σ1 e σ' h (nQ h1)
    ·simp at h
  ·exact nQ hh
 | sc,.exit id,σ,e,σ',h,hB=>by simp only[aC] at h;cases h;exact hB
 | sc,.label l,σ,e,σ',h,hB=>by simp only[aC] at h;cases h;exact hB
 | sc,.ret,σ,e,σ',h,hB=>by simp only[aC] at h;cases h;exact hB
 | sc,.rangeFunc g ps asn body,σ,e,σ',h,hB=>by simp only[aC] at h;exact IY hF h hB
 | sc,.scope x,σ,e,σ',h,hB=>by
  simp only[aC] at h
  cases hs:iY x with
  | false=>rw[hs] at h;simp at h
  | true=>
   rw[hs] at h
   simp only[cond_true] at h
   unfold noGoto at h
   split at h
   ·simp at h
   ·exact aJ hF true x σ e σ' h hB
 | sc,.goto l,σ,e,σ',h,hB=>by simp only[aC] at h;cases h;exact hB
 | sc,.refuse _,σ,e,σ',h,hB=>by simp[aC] at h
section
variable {μo:Mu}{So:ar}{Ho:Heap}
omit [aq] in
theorem j9 {next:Act→World→Prop}{Q:Exit→Act→World→Prop}{μ:Mu}{S:ar}{H:Heap}{e:Ex}{xe:Exit}(hn:e ≠ .dS)(hx:e.Is μ S H xe){a:Act}{w:World}(h:Q xe a w):Exit.then next Q xe a w:=by
 cases e with
 | dS=>exact absurd rfl hn
 | fE v=>obtain⟨u,rfl,_⟩:=hx;exact h
 | ret=>cases (show xe = .ret from hx);exact h
 | exit i=>cases (show xe = .exit i from hx);exact h
 | goto i=>cases (show xe = .goto i from hx);exact h
omit [aq] in
theorem O5 {id:Nat}{Q:Exit→Act→World→Prop}{μ:Mu}{S:ar}{H:Heap}{e:Ex}{xe:Exit}(hn:∀ i,e ≠ .exit i)(hx:e.Is μ S H xe){a:Act}{w:World}(h:Q xe a w):Exit.inBlock id Q xe a w:=by
 cases e with
 | dS=>cases (show xe = .normal from hx);exact h
 | fE v=>obtain⟨u,rfl,_⟩:=hx;exact h
 | ret=>cases (show xe = .ret from hx);exact h
 | exit i=>exact absurd rfl (hn i)
 | goto i=>cases (show xe = .goto i from hx);exact h
omit [aq] in
theorem qI {f:St→Option (Ex×St)}:∀ (n:Nat) (σ:St) (e:Ex) (σ':St),cj n f σ=some (e,σ')→e.ep=false
 | 0,σ,e,σ',h=>by simp[cj] at h
 | n+1,σ,e,σ',h=>by
  simp only[cj] at h
  split at h
  ·exact qI n _ e σ' h
  ·cases h;rfl
  ·cases h;rfl
  ·cases h;rfl
  ·simp at h
  ·simp at h
omit [aq] in
theorem Ex.Is.of {μ μ':Mu}{S S':ar}{H H':Heap}{e:Ex}{xe:Exit}(hp:e.ep=false)(hx:e.Is μ S H xe):e.Is μ' S' H' xe:=by
 cases e<;>first|exact hx|(simp[Ex.ep] at hp)
omit [aq] in
theorem Ex.Is.self {μ:Mu}{S:ar}{H:Heap}{e:Ex}(hp:e.ep=false):e.Is μ S H e.to:=by
 cases e<;>first|rfl|(simp[Ex.ep] at hp)
theorem KV {f:St→Option (Ex×St)}{x:Code}(hf:∀ σ e σ',f σ=some (e,σ')→Bd σ→Bd σ')
  (ih:∀ (σ:St) (e:Ex) (σ':St) (a:Act) (w:World) (μ:Mu) (S:ar) (Q:Exit→Act→World→Prop),f σ=some (e,σ')→Bd σ→AR So Dt μ S σ a→Rel μ S σ.heap B w0 w→Carry B μo So Ho μ S σ.heap →
   (∀ a' w' μ' S' xe,AR So Dt μ' S' σ' a'→Rel μ' S' σ'.heap B w0 w'→Carry B μo So Ho μ' S' σ'.heap→e.Is μ' S' σ'.heap xe→Q xe a' w')→x.wpIn (WF rd) 0 P Q a w) :
  ∀ (n:Nat) (σ:St) (e:Ex) (σ':St) (a:Act) (w:World) (μ:Mu) (S:ar) (Q:Exit→Act→World→Prop),cj n f σ=some (e,σ')→Bd σ→AR So Dt μ S σ a→Rel μ S σ.heap B w0 w→Carry B μo So Ho μ S σ.heap →
   (∀ a' w' μ' S' xe,AR So Dt μ' S' σ' a'→Rel μ' S' σ'.heap B w0 w'→Carry B μo So Ho μ' S' σ'.heap→e.Is μ' S' σ'.heap xe→Q xe a' w')→Code.roundsIn (WF rd) 0 P x Q n a w:=by
 intro n
 induction n with
 | zero=>intro σ e σ' a w μ S Q h;simp[cj] at h
 | succ n ihn=>
  intro σ e σ' a w μ S Q h hB A R Co hK
  rw[roundsIn_succ]
  simp only[cj] at h
  split at h
  ·rename_i σ1 h1
   refine ih σ .dS σ1 a w μ S _ h1 hB A R Co fun a1 w1 μ1 S1 xe A1 R1 C1 hx=>?_
   cases (show xe = .normal from hx)
   exact ihn σ1 e σ' a1 w1 μ1 S1 Q h (hf _ _ _ h1 hB) A1 R1 C1 hK
  ·rename_i i σ1 h1;cases h;exact ih σ (.exit i) _ a w μ S _ h1 hB A R Co fun a1 w1 μ1 S1 xe A1 R1 C1 hx=>by cases (show xe = .exit i from hx);exact hK a1 w1 μ1 S1 _ A1 R1 C1 rfl
  ·rename_i i σ1 h1;cases h;exact ih σ (.goto i) _ a w μ S _ h1 hB A R Co fun a1 w1 μ1 S1 xe A1 R1 C1 hx=>by cases (show xe = .goto i from hx);exact hK a1 w1 μ1 S1 _ A1 R1 C1 rfl
  ·rename_i σ1 h1;cases h;exact ih σ .ret _ a w μ S _ h1 hB A R Co fun a1 w1 μ1 S1 xe A1 R1 C1 hx=>by cases (show xe = .ret from hx);exact hK a1 w1 μ1 S1 _ A1 R1 C1 rfl
  ·simp at h
  ·simp at h
def cr (P:Program)(rf:Option Nat)(c:Code):Prop:=∀ fid,rf=some fid→∀ x∈aY c,∀ r y,cE.is x r=true→dB P fid r=some y→y=x
omit [aq] in
theorem cr.left {rf:Option Nat}{x y:Code}(h:cr P rf (.seq x y)):cr P rf x:=fun fid hf z hz=>h fid hf z (by simp[aY,hz])
omit [aq] in
theorem cr.right {rf:Option Nat}{x y:Code}(h:cr P rf (.seq x y)):cr P rf y:=fun fid hf z hz=>h fid hf z (by simp[aY,hz])
omit [aq] in
theorem cr.abX {rf:Option Nat}{c:Operand}{x y:Code}(h:cr P rf (.cond c x y)):cr P rf x:=fun fid hf z hz=>h fid hf z (by simp[aY,hz])
omit [aq] in
theorem cr.W8 {rf:Option Nat}{c:Operand}{x y:Code}(h:cr P rf (.cond c x y)):cr P rf y:=fun fid hf z hz=>h fid hf z (by simp[aY,hz])
omit [aq] in
theorem cr.block {rf:Option Nat}{id:Nat}{x:Code}(h:cr P rf (.block id x)):cr P rf x:=h
omit [aq] in
theorem cr.scope {rf:Option Nat}{x:Code}(h:cr P rf (.scope x)):cr P rf x:=h
omit [aq] in
theorem cr.loop {rf:Option Nat}{x:Code}(h:cr P rf (.loop x)):cr P rf x:=h
omit [aq] in
theorem cr.none {c:Code}:cr P none c:=fun _ h=>by simp at h
omit [aq] in
theorem cr.top {k:Nat}{fn:Func}{c:Code}(hfn:P.funcs[k]? = some fn)(hc:fn.body=some c):cr P (some k) c:=by
 intro fid hf x hx r y hr hy
 cases hf
 unfold dB at hy
 rw[hfn] at hy
 simp only[hc] at hy
 exact ze hy hx hr
omit [aq] in
theorem L4 {σ:St}{x:cE}{tmps:Array Value}{μ:Mu}{S:ar}{H:Heap}(hs:tmps.size=σ.nt)(h:∀ t,t<σ.nt→VR μ S H (σ.tmps t) (tmps.getD t undef)):aH μ S H (oB σ x) tmps.toList:=by
 unfold oB
 rw[show σ.nt=tmps.toList.length by simp[hs]]
 refine yV _ 0 fun t ht=>?_
 have ht:t<σ.nt:=by rw[← hs];simpa using ht
 rw[eK]
 cases mem (jl x.2.1++jl x.2.2) t with
 | false=>simp only[cond_false,VR]
 | true=>
  simp only[cond_true]
  have:=h t ht
  rw[cn] at this
  rw[bj,dE]
  exact this
theorem Sc (hC:bX P C){σ:St}{a:Act}{w:World}{μ:Mu}{S:ar}{fid r i:Nat}{ps:Array Tmp}{asn body:Code}(hx:dB P fid r=some (ps,asn,body))(hi0:σ.heap i=none)
  (A:AR N Dt μ S σ a) (R:Rel μ S σ.heap B w0 w) (fnid:FuncId) :
  ∃ μ1 S1,Rel μ1 S1 (aP σ.heap i (some (.loop fid r .ready (oB σ (ps,asn,body))))) B w0
    ((w.alloc (.deferred (some []))).alloc (.loop { state:=.ready,pending:=none,fn:=fnid,tmps:=a.tmps,params:=ps,assign:=asn,body:=body,defers:=w.heap.size })) ∧
   Carry B μ S σ.heap μ1 S1 (aP σ.heap i (some (.loop fid r .ready (oB σ (ps,asn,body))))) ∧
   VR μ1 S1 (aP σ.heap i (some (.loop fid r .ready (oB σ (ps,asn,body))))) (.iK i) (.func (.yield (w.heap.size+1)) #[] #[])∧S1 w.heap.size=some (.deferred (some [])):=by
 obtain⟨RD,CD⟩:=R.mark (.deferred (some []))
 have hm:μ i=none:=by
  have:=R.dom i
  rw[hi0] at this
  cases hm:μ i with
  | none=>rfl
  | some _=>rw[hm] at this;simp at this
 have E0:Ext μ (xY S w.heap.size (.deferred (some []))) σ.heap (aP μ i (some ⟨some (w.alloc (.deferred (some []))).heap.size,0,aT⟩)) (xY S w.heap.size (.deferred (some []))) (aP σ.heap i (some (.loop fid r .ready (oB σ (ps,asn,body))))):=Ext.new hm
 obtain⟨R1,E1⟩:=RD.new hi0 (.loop { state:=.ready,pending:=none,fn:=fnid,tmps:=a.tmps,params:=ps,assign:=asn,body:=body,defers:=w.heap.size })
  (.loop fid r .ready (oB σ (ps,asn,body))) ⟨some (w.alloc (.deferred (some []))).heap.size,0,aT⟩ rfl ⟨_,fnid,.ready,none,a.tmps,ps,asn,body,w.heap.size,rfl,RD.size,r8 RD,by rw[hC.2.2];exact hx,⟨rfl,rfl⟩,alloc_heap_new _ _,
   L4 A.size fun t ht=>dA E0 _ _ (CD.vr _ _ (A.tmp t ht))⟩
 refine⟨_,_,R1,CD.trans (Carry.of (B:=B) E1),?_,yP⟩
 simp only[VR]
 exact⟨_,_,au _ _ _,fun o h=>by rw[au] at h;cases h;rfl,by simp⟩
omit [aq] in
theorem Carry.vrs {μ μ':Mu}{S S':ar}{H H':Heap}(h:Carry B μ S H μ' S' H'){as:List AV}{us:Array Value}(hv:aH μ S H as us.toList):aH μ' S' H' as us.toList:=by
 have:=h.vr (.uo as) (.tuple us) (by simp only[VR];exact⟨us,rfl,hv⟩)
 simp only[VR] at this
 obtain⟨x,h1,h2⟩:=this
 cases h1
 exact h2
omit [aq] in
theorem x8 {a:Act}{g:Operand}{k l:Nat}{x y:Array Value}{w:World}(h:a.eval g = .func (.func k) x y) :
  (resolve a.eval (rangeCall g l) 0).run P w = .ok { target:=.fn (.func k) y,args:=x ++ #[.func (.yield l) #[] #[]] } w:=by
 show (Deferred.ofValue (a.eval g) _).run P w=_
 rw[h]
 simp[Deferred.ofValue,rangeCall,Act.eval]
theorem Se {σ σ':St}{e:Ex}{a:Act}{w3:World}{μ μ2:Mu}{S S2:ar}{i b cp:Nat}{H2:Heap}{L2:List Nat}{Q:Exit→Act→World→Prop}(h:mW σ i H2 L2=some (e,σ'))
  (hm2:μ2 i=some ⟨some b,cp,aT⟩) (R2:Rel μ2 S2 H2 B w0 w3) (AD:∀ {H3:Heap} (E:Ext μ2 S2 H2 μ2 S2 H3),AR N Dt μ2 S2 ⟨σ.nt,σ.tmps,H3,L2⟩ a) (CT:Carry B μ S σ.heap μ2 S2 H2)
  (hK:∀ w' μ' S',AR N Dt μ' S' σ' a→Rel μ' S' σ'.heap B w0 w'→Carry B μ S σ.heap μ' S' σ'.heap→Q e.to a w') (u:Value):rangePost (WF none) 0 P b Q a (.returned u) w3:=by
 unfold mW at h
 split at h
 ·rename_i k' r' ts hH
  cases h
  obtain⟨L,hL,hr1,hst,hvs⟩:=R2.loop hH hm2
  obtain⟨R4,E4⟩:=R2.ux (st':=.over) (L':={ L with state:=.exhausted }) hH hm2 hL ⟨rfl,rfl,rfl,rfl⟩ trivial
  refine⟨none,_,?_,hK _ μ2 S2 (AD E4) R4 (CT.trans (Carry.of E4))⟩
  rw[← hst.2]
  exact run_endLoop hL (by rw[hst.1];simp)
 ·rename_i k' r' j ts hH
  cases h
  obtain⟨L,hL,hr1,hst,hvs⟩:=R2.loop hH hm2
  obtain⟨R4,E4⟩:=R2.ux (st':=.over) (L':={ L with state:=.exhausted }) hH hm2 hL ⟨rfl,rfl,rfl,rfl⟩ trivial
  refine⟨some j.code,_,by rw[← hst.2];exact run_endLoop hL (by rw[hst.1];simp),?_⟩
  have fin:=hK _ μ2 S2 (AD E4) R4 (CT.trans (Carry.of E4))
  cases j with
  | ret=>exact wpIn_ret fin
  | exit i=>exact wpIn_exit fin
  | goto l=>exact wpIn_goto fin
 ·simp at h
omit [aq] in
theorem DS {k:Nat}(hcb:jv P k=true):∃ fn c,P.funcs[k]? = some fn∧fn.body=some c∧(fn.name == "runtime.NumGoroutine")=false:=by
 unfold jv at hcb
 split at hcb
 ·rename_i fn hfn
  split at hcb
  ·rename_i c hc;exact⟨fn,c,hfn,hc,by simpa using hcb⟩
  ·simp at hcb
 ·simp at hcb
omit [aq] in
theorem Ml {k:Nat}(hcb:jv P k=true)(x y:Array Value)(w:World):(invoke (.fn (.func k) y) x).run P w = .ok (.enter k (x++y)) w:=by
 obtain⟨fn,cb,hfn,hbody,hname⟩:=DS hcb
 simp only[invoke,callFunc,dt,du,db,run_program,hfn,hname,Bool.false_eq_true,if_false,hbody,Option.isNone_some]
theorem IJ {g:Operand}{ps:Array Tmp}{asn body:Code}{rf:Option Nat}{σ σ':St}{e:Ex}{a:Act}{w:World}{μ:Mu}{S:ar}{Q:Exit→Act→World→Prop}(hrf:rf≠none→rd=none∧Dt.1=false)(hC:bX P C)(hF:cV P F)
  (hg:cr P rf (.rangeFunc g ps asn body)) (h:gC P F base rf g body σ=some (e,σ')) (hB:Bd σ) (A:AR N Dt μ S σ a) (R:Rel μ S σ.heap B w0 w) (hsub:∀ b o,N b=some o→S b=some o)
  (hK:∀ a' w' μ' S',AR N Dt μ' S' σ' a'→Rel μ' S' σ'.heap B w0 w'→Carry B μ S σ.heap μ' S' σ'.heap→Q e.to a' w'):(Code.rangeFunc g ps asn body).wpIn (WF rd) 0 P Q a w:=by
 unfold gC at h
 split at h
 case h_2=>simp at h
 rename_i fid k first caps r hgv hfr
 split at h
 case h_2=>simp at h
 rename_i x hx
 have hxe:x=(ps,asn,body):=hg fid rfl (ps,asn,body) (by simp[aY]) r x (by simp[cE.is,hfr]) hx
 subst hxe
 split at h
 case h_2=>simp at h
 rename_i σ1 i hin
 obtain⟨hi0,e1⟩:=ai hin
 cases e1
 split at h
 case h_2=>simp at h
 rename_i v H2 L2 hcb hcall
 obtain⟨hnp,h⟩:=cu h
 have hrd:rd=none:=(hrf (by simp)).1
 have hfl:Dt.1=false:=(hrf (by simp)).2
 subst hrd
 have hv:=A.val g
 rw[hgv] at hv
 simp only[VR] at hv
 obtain⟨x1,y1,hge,hf1,hf2⟩:=hv
 have hi0:σ.heap (oe base r)=none:=by simpa using hi0
 refine wpIn_rangeFunc fun fnid _=>?_
 obtain⟨μ1,S1,R1,CT1,hyv,hSD⟩:=Sc hC hx hi0 A R fnid
 refine⟨w.heap.size+1,_,_,_,_,k,_,_,run_enterLoop_outer fnid a.tmps ps asn body,x8 hge,fun _ _=>trivial,Ml hcb _ _ _,fun h=>(by cases h),iE.2 ?_⟩
 have hB1:∀ q,aP σ.heap (oe base r) (some (.loop fid r .ready (oB σ (ps,asn,body)))) q≠none→q∈σ.ids++[oe base r]:=by
  intro q hq
  by_cases eq:q=oe base r
  ·subst eq;simp
  ·rw[ax _ _ eq] at hq;simp[hB q hq]
 have hvs:aH μ1 S1 (aP σ.heap (oe base r) (some (.loop fid r .ready (oB σ (ps,asn,body))))) (first++[.iK (oe base r)]++caps) (x1 ++ #[Value.func (.yield (w.heap.size+1)) #[] #[]]++y1).toList:=by
  simp only[Array.toList_append]
  exact cl (cl (CT1.vrs hf1) (by simp only[aH];exact⟨_,[],rfl,hyv,rfl⟩)) (CT1.vrs hf2)
 have hrun:=(hF _ _ _ _ _ _ _ _ hcall hB1).2 μ1 S1 B w0 _ _ R1 hvs
 clear hB1 hcall hF
 show ul P μ1 (.fn k) _ _ _
 refine ul.mono hrun ?_
 rintro e' w3 ⟨μ2,S2,q0,R2,C2⟩
 obtain⟨u,rfl,q1⟩:=q0.val hnp
 have hm2:=C2.vr _ _ hyv
 simp only[VR] at hm2
 obtain⟨b,cp,hm2,_,heq⟩:=hm2
 injection heq with heq;injection heq with heq
 subst heq
 have CT:=CT1.trans C2
 refine Se h hm2 R2 (fun {H3} E=>?_) CT (fun w' μ' S'=>hK _ w' μ' S') u
 obtain⟨ms,hms,⟨hnd,hmk⟩,_⟩:=A.defers
 refine⟨⟨w.heap.size::ms,by rw[hms];rfl,⟨List.nodup_cons.2 ⟨fun hD=>?_,hnd⟩,fun D hD=>?_⟩,fun h=>by rw[hfl] at h;simp at h⟩,A.size,fun t ht=>dA E _ _ (CT.vr _ _ (A.tmp t ht))⟩
 ·have:=R.js (hmk _ hD).2;omega
 ·rcases be.1 hD with rfl|hD
  ·refine⟨?_,C2.sub _ _ hSD⟩
   cases hn:N w.heap.size with
   | none=>rfl
   | some o=>have:=R.js (hsub _ _ hn);omega
  ·exact⟨(hmk _ hD).1,C2.sub _ _ (CT1.sub _ _ (hmk _ hD).2)⟩
omit [aq] in
theorem x7 {g:Operand}{body:Code}{rf:Option Nat}{σ σ':St}{e:Ex}(h:gC P F base rf g body σ=some (e,σ')):e.ep=false:=by
 unfold gC at h
 split at h
 case h_2=>simp at h
 split at h
 case h_2=>simp at h
 split at h
 case h_2=>simp at h
 split at h
 case h_2=>simp at h
 have h:=(cu h).2
 unfold mW at h
 split at h
 ·cases h;rfl
 ·rename_i j _ _;cases h;cases j<;>rfl
 ·simp at h
def mm (F:Fence)(P:Program)(lf:Nat)(c:Code)(Q:Exit→Act→World→Prop):Exit→Act→World→Prop:=
 match bq c with
 | some (l,r)=>tY l (kx F 0 P l r Q lf) Q
 | none=>tY 0 (kx F 0 P 0 .skip Q 0) Q
omit [aq] in
theorem bE {F:Fence}{c:Code}{Q:Exit→Act→World→Prop}{μ:Mu}{S:ar}{H:Heap}(e:Ex)(xe:Exit)(hx:e.Is μ S H xe)(hne:∀ l,e ≠ .goto l)(a:Act)(w:World)(h:Q xe a w):mm F P lf c Q xe a w:=by
 unfold mm
 cases e with
 | goto l=>exact absurd rfl (hne l)
 | fE v=>
  obtain⟨u,rfl,_⟩:=hx
  cases bq c<;>exact h
 | dS=>cases (show xe = .normal from hx);cases bq c<;>exact h
 | ret=>cases (show xe = .ret from hx);cases bq c<;>exact h
 | exit i=>cases (show xe = .exit i from hx);cases bq c<;>exact h
def Code.VN:Code→Bool
 | .seq _ _=>true
 | _=>false
omit [aq] in
theorem dX {Hn:Hints}{od:List Nat}{rf:Option Nat}{c:Code}{σ:St}(h:Code.VN c=false):aC P C Hn F lf base od rf true c σ=aC P C Hn F lf base od rf false c σ:=by
 cases c<;>first|rfl|(simp[Code.VN] at h)
omit [aq] in
theorem Jc {l:Nat}{f:St→Option (Ex×St)}(hf:∀ σ e σ',f σ=some (e,σ')→Bd σ→Bd σ'){σ:St}{e:Ex}{σ':St}(h:iO l (f σ)=some (e,σ'))(hB:Bd σ):Bd σ':=by
 unfold iO at h
 split at h
 ·rename_i e1 σ1 h1
  split at h
  ·cases h;exact hf _ _ _ h1 hB
  ·simp at h
 ·simp at h
omit [aq] in
theorem yZ {e e':Ex}(h:Mw e=some e'):e'.ep=false:=by
 cases e with
 | exit i=>simp only[Mw] at h;cases hb:ap i Bw<;>rw[hb] at h<;>cases h<;>rfl
 | ret=>simp only[Mw,ba] at h;subst h;rfl
 | dS=>simp[Mw] at h
 | goto i=>simp[Mw] at h
 | fE v=>simp[Mw] at h
theorem Ir {f:St→Option (Ex×St)}{y:Code}{l:Nat}(hf:∀ σ e σ',f σ=some (e,σ')→Bd σ→Bd σ')
  (ih:∀ (σ:St) (e:Ex) (σ':St) (a:Act) (w:World) (μ:Mu) (S:ar) (Q:Exit→Act→World→Prop),f σ=some (e,σ')→Bd σ→AR So Dt μ S σ a→Rel μ S σ.heap B w0 w→Carry B μo So Ho μ S σ.heap →
   (∀ e1,ix l e1=some e→∀ a' w' μ' S',AR So Dt μ' S' σ' a'→Rel μ' S' σ'.heap B w0 w'→Carry B μo So Ho μ' S' σ'.heap→Q e1.to a' w')→y.wpIn (WF rd) 0 P Q a w) {Q:Exit→Act→World→Prop} :
  ∀ (n:Nat) (σ:St) (e:Ex) (σ':St) (a:Act) (w:World) (μ:Mu) (S:ar),cj n f σ=some (e,σ')→Bd σ→AR So Dt μ S σ a→Rel μ S σ.heap B w0 w→Carry B μo So Ho μ S σ.heap →
   (∀ e3,Mw e=some e3→∀ a' w' μ' S',AR So Dt μ' S' σ' a'→Rel μ' S' σ'.heap B w0 w'→Carry B μo So Ho μ' S' σ'.heap→Q e3.to a' w')→y.wpIn (WF rd) 0 P (tY l (kx (WF rd) 0 P l (.seq .skip y) Q n) Q) a w:=by
 intro n
 induction n with
 | zero=>intro σ e σ' a w μ S h;simp[cj] at h
 | succ n ihn=>
  intro σ e σ' a w μ S h hB A R Co hK
  simp only[cj] at h
  have last:∀ {e0:Ex} {σ0:St},f σ=some (e0,σ0)→e0=e→σ0=σ'→e0 ≠ .dS→y.wpIn (WF rd) 0 P (tY l (kx (WF rd) 0 P l (.seq .skip y) Q (n+1)) Q) a w:=by
   intro e0 σ0 h1 he hσ hn
   subst he hσ
   refine ih σ _ _ a w μ S _ h1 hB A R Co fun e1 h1 a1 w1 μ1 S1 A1 R1 C1=>?_
   cases e1 with
   | dS=>
    simp only[ix,ba] at h1
    subst h1
    exact hK .dS (by simp[Mw]) a1 w1 μ1 S1 A1 R1 C1
   | goto i=>
    simp only[ix] at h1
    obtain⟨_,h1⟩:=ai h1
    exact absurd h1.symm hn
   | exit i=>
    simp only[ix] at h1
    obtain⟨hi,h1⟩:=cu h1
    cases h1
    exact hK (.exit i) (by simp only[Mw,hi,cond_false]) a1 w1 μ1 S1 A1 R1 C1
   | ret=>
    simp only[ix,ba] at h1
    subst h1
    exact hK .ret rfl a1 w1 μ1 S1 A1 R1 C1
   | fE v=>simp[ix] at h1
  split at h
  ·rename_i σ1 h1
   refine ih σ .dS σ1 a w μ S _ h1 hB A R Co fun e1 h2 a1 w1 μ1 S1 A1 R1 C1=>?_
   cases e1 with
   | goto i=>
    simp only[ix] at h2
    obtain⟨hi,_⟩:=ai h2
    refine⟨ae hi,?_⟩
    show (Code.seq .skip y).wpIn (WF rd) 0 P _ a1 w1
    refine wpIn_seq (wpIn_skip ?_)
    exact ihn σ1 e σ' a1 w1 μ1 S1 h (hf _ _ _ h1 hB) A1 R1 C1 hK
   | dS=>simp[ix] at h2
   | exit i=>
    simp only[ix] at h2
    obtain⟨_,h2⟩:=cu h2
    simp at h2
   | ret=>simp[ix] at h2
   | fE v=>simp[ix] at h2
  ·rename_i i σ1 h1;cases h;exact last h1 rfl rfl (by simp)
  ·rename_i i σ1 h1;cases h;exact last h1 rfl rfl (by simp)
  ·rename_i σ1 h1;cases h;exact last h1 rfl rfl (by simp)
  ·simp at h
  ·simp at h
set_option maxHeartbeats 4000000 in
mutual
theorem aF {Hn:Hints}{od:List Nat}{rf:Option Nat}(hrf:rf≠none→rd=none∧Dt.1=false)(hC:bX P C)(hF:cV P F)(hod:∀ i,μo i≠none→i∈od) :
  ∀ (c:Code),cr P rf c→∀ (σ:St) (e:Ex) (σ':St) (a:Act) (w:World) (μ:Mu) (S:ar) (Q:Exit→Act→World→Prop),
  aC P C Hn F lf base od rf false c σ=some (e,σ')→Bd σ→AR So Dt μ S σ a→Rel μ S σ.heap B w0 w→Carry B μo So Ho μ S σ.heap →
  (∀ a' w' μ' S' xe,AR So Dt μ' S' σ' a'→Rel μ' S' σ'.heap B w0 w'→Carry B μo So Ho μ' S' σ'.heap→e.Is μ' S' σ'.heap xe→Q xe a' w')→c.wpIn (WF rd) 0 P Q a w
 | .skip,hg,σ,e,σ',a,w,μ,S,Q,h,hB,A,R,Co,hK=>by
  simp only[aC] at h;cases h;exact wpIn_skip (hK a w μ S _ A R Co rfl)
 | .region id ops draw,hg,σ,e,σ',a,w,μ,S,Q,h,hB,A,R,Co,hK=>by
  simp only[aC] at h
  cases draw with
  | true=>exact Gz hC hF h hB A R fun a' w' μ' S' x A' R' C' hx=>hK a' w' μ' S' x A' R' (Co.trans C') hx
  | false=>exact wpIn_region (EL hC hF _ _ _ _ a w μ S h hB A R fun a' w' μ' S' x A' R' C' hx=>hK a' w' μ' S' x A' R' (Co.trans C') hx)
 | .seq x y,hg,σ,e,σ',a,w,μ,S,Q,h,hB,A,R,Co,hK=>by
  simp only[aC] at h
  refine wpIn_seq ?_
  split at h
  ·rename_i σ1 h1
   refine aF hrf hC hF hod x hg.left σ .dS σ1 a w μ S _ h1 hB A R Co fun a1 w1 μ1 S1 xe A1 R1 C1 hx=>?_
   cases (show xe = .normal from hx)
   exact aF hrf hC hF hod y hg.right σ1 e σ' a1 w1 μ1 S1 Q h (aJ hF false x σ _ σ1 h1 hB) A1 R1 C1 hK
  ·rename_i i σ1 h1;cases h;exact aF hrf hC hF hod x hg.left σ (.exit i) _ a w μ S _ h1 hB A R Co fun a1 w1 μ1 S1 xe A1 R1 C1 hx=>j9 (by simp) hx (hK a1 w1 μ1 S1 xe A1 R1 C1 hx)
  ·rename_i i σ1 h1;cases h;exact aF hrf hC hF hod x hg.left σ (.goto i) _ a w μ S _ h1 hB A R Co fun a1 w1 μ1 S1 xe A1 R1 C1 hx=>j9 (by simp) hx (hK a1 w1 μ1 S1 xe A1 R1 C1 hx)
  ·rename_i σ1 h1;cases h;exact aF hrf hC hF hod x hg.left σ .ret _ a w μ S _ h1 hB A R Co fun a1 w1 μ1 S1 xe A1 R1 C1 hx=>j9 (by simp) hx (hK a1 w1 μ1 S1 xe A1 R1 C1 hx)
  ·rename_i v σ1 h1;cases h;exact aF hrf hC hF hod x hg.left σ (.fE v) _ a w μ S _ h1 hB A R Co fun a1 w1 μ1 S1 xe A1 R1 C1 hx=>j9 (by simp) hx (hK a1 w1 μ1 S1 xe A1 R1 C1 hx)
  ·simp at h
 | .cond c x y,hg,σ,e,σ',a,w,μ,S,Q,h,hB,A,R,Co,hK=>by
  simp only[aC] at h
  split at h
  ·rename_i b hb
   have hv:=A.val c
   rw[hb] at hv
   simp only[VR] at hv
   refine wpIn_cond hv ?_
   cases b with
   | true=>exact aF hrf hC hF hod x hg.abX σ e σ' a w μ S Q h hB A R Co hK
   | false=>exact aF hrf hC hF hod y hg.W8 σ e σ' a w μ S Q h hB A R Co hK
  ·simp at h
 | .block id x,hg,σ,e,σ',a,w,μ,S,Q,h,hB,A,R,Co,hK=>by
  simp only[aC] at h
  refine wpIn_block ?_
  split at h
  ·rename_i i σ1 h1
   refine aF hrf hC hF hod x hg.block σ (.exit i) σ1 a w μ S _ h1 hB A R Co fun a1 w1 μ1 S1 xe A1 R1 C1 hx=>?_
   cases (show xe = .exit i from hx)
   simp only[Exit.inBlock]
   cases hb:ap i id with
   | true=>
    rw[hb] at h;simp only[cond_true,ba,dp] at h
    obtain⟨rfl,rfl⟩:=h
    rw[if_pos (ae hb)]
    exact hK a1 w1 μ1 S1 _ A1 R1 C1 rfl
   | false=>
    rw[hb] at h;simp only[cond_false,ba,dp] at h
    obtain⟨rfl,rfl⟩:=h
    rw[if_neg (fun e=>by subst e;simp at hb)]
    exact hK a1 w1 μ1 S1 _ A1 R1 C1 rfl
  ·rename_i r hne
   refine aF hrf hC hF hod x hg.block σ e σ' a w μ S _ h hB A R Co fun a1 w1 μ1 S1 xe A1 R1 C1 hx=>?_
   exact O5 (fun i he=>hne i σ' (he ▸ h)) hx (hK a1 w1 μ1 S1 xe A1 R1 C1 hx)
 | .loop x,hg,σ,e,σ',a,w,μ,S,Q,h,hB,A,R,Co,hK=>by
  simp only[aC] at h
  have main:∀ (σ2:St),cj lf (cQ od (hintOf Hn base x σ) (aC P C Hn F lf base od rf false x)) (GL (hintOf Hn base x σ) σ)=some (e,σ2) →
    (∀ a' w' μ' S' xe,AR So Dt μ' S' σ2 a'→Rel μ' S' σ2.heap B w0 w'→Carry B μo So Ho μ' S' σ2.heap→e.Is μ' S' σ2.heap xe→Q xe a' w')→(Code.loop x).wpIn (WF rd) 0 P Q a w:=by
   intro σ2 h hK
   obtain⟨μ0,A0,R0,C0⟩:=Sa (h:=hintOf Hn base x σ) A R Co
   refine wpIn_loop_rounds lf (KV (μo:=μo) (So:=So) (Ho:=Ho) (fun σ e σ' h hB=>?_) (fun σ e σ' a w μ S Q h hB A R Co hK=>?_) lf _ e σ2 a w μ0 S Q h (Jl hB) A0 R0 C0 hK)
   ·unfold cQ at h
    split at h
    ·exact aJ hF false x σ e σ' h hB
    ·split at h
     ·rename_i σ1 h1;exact aJ hF false x σ1 e σ' h (nQ h1)
     ·simp at h
   ·unfold cQ at h
    split at h
    ·exact aF hrf hC hF hod x hg.loop σ e σ' a w μ S Q h hB A R Co hK
    ·split at h
     ·rename_i σ1 h1
      obtain⟨μ1,A1,R1,C1,B1⟩:=uZ h1 A R hod Co
      exact aF hrf hC hF hod x hg.loop σ1 e σ' a w μ1 S Q h B1 A1 R1 C1 hK
     ·simp at h
  rcases iT h with h|⟨σ2,h',h,hh⟩
  ·exact main σ' h hK
  ·refine main σ2 h fun a' w' μ' S' xe A' R' C' hx=>?_
   obtain⟨μ1,A1,R1,C1,B1⟩:=uZ hh A' R' hod C'
   exact hK a' w' μ1 S' xe A1 R1 C1 (hx.of (qI _ _ _ _ h))
 | .exit id,hg,σ,e,σ',a,w,μ,S,Q,h,hB,A,R,Co,hK=>by
  simp only[aC] at h;cases h;exact wpIn_exit (hK a w μ S _ A R Co rfl)
 | .label l,hg,σ,e,σ',a,w,μ,S,Q,h,hB,A,R,Co,hK=>by
  simp only[aC] at h;cases h;exact wpIn_label (hK a w μ S _ A R Co rfl)
 | .ret,hg,σ,e,σ',a,w,μ,S,Q,h,hB,A,R,Co,hK=>by
  simp only[aC] at h;cases h;exact wpIn_ret (hK a w μ S _ A R Co rfl)
 | .rangeFunc g ps asn body,hg,σ,e,σ',a,w,μ,S,Q,h,hB,A,R,Co,hK=>by
  simp only[aC] at h
  exact IJ hrf hC hF hg h hB A R Co.sub fun a' w' μ' S' A' R' C'=>hK a' w' μ' S' _ A' R' (Co.trans C') (Ex.Is.self (x7 h))
 | .scope x,hg,σ,e,σ',a,w,μ,S,Q,h,hB,A,R,Co,hK=>by
  simp only[aC] at h
  cases hs:iY x with
  | false=>rw[hs] at h;simp at h
  | true=>
  rw[hs] at h
  simp only[cond_true] at h
  unfold noGoto at h
  split at h
  ·simp at h
  ·rename_i hne
   have:=xh hrf hC hF hod x hg.scope σ e σ' a w μ S Q h (fun l he=>by subst he;exact hne _ _ h) hB A R Co hK
   unfold mm at this
   split at this
   ·rename_i l r hl
    exact iZ lf (fun _=>ve hs hl) this
   ·exact iZ (l:=0) (r:=.skip) 0 (fun h=>absurd h (by omega)) this
 | .goto l,hg,σ,e,σ',a,w,μ,S,Q,h,hB,A,R,Co,hK=>by
  simp only[aC] at h;cases h;exact wpIn_goto (hK a w μ S _ A R Co rfl)
 | .refuse _,hg,σ,e,σ',a,w,μ,S,Q,h,hB,A,R,Co,hK=>by simp[aC] at h
theorem xh {Hn:Hints}{od:List Nat}{rf:Option Nat}(hrf:rf≠none→rd=none∧Dt.1=false)(hC:bX P C)(hF:cV P F)(hod:∀ i,μo i≠none→i∈od) :
  ∀ (c:Code),cr P rf c→∀ (σ:St) (e:Ex) (σ':St) (a:Act) (w:World) (μ:Mu) (S:ar) (Q:Exit→Act→World→Prop),
  aC P C Hn F lf base od rf true c σ=some (e,σ')→(∀ l,e ≠ .goto l)→Bd σ→AR So Dt μ S σ a→Rel μ S σ.heap B w0 w→Carry B μo So Ho μ S σ.heap →
  (∀ a' w' μ' S' xe,AR So Dt μ' S' σ' a'→Rel μ' S' σ'.heap B w0 w'→Carry B μo So Ho μ' S' σ'.heap→e.Is μ' S' σ'.heap xe→Q xe a' w')→c.wpIn (WF rd) 0 P (mm (WF rd) P lf c Q) a w
 | .seq x y,hg,σ,e,σ',a,w,μ,S,Q,h,hne,hB,A,R,Co,hK=>by
  simp only[aC] at h
  cases hl:qB x with
  | some l=>
   rw[hl] at h
   have hx:=wA hl
   subst hx
   have hJ:mm (WF rd) P lf (.seq (.label l) y) Q=tY l (kx (WF rd) 0 P l (.seq .skip y) Q lf) Q:=rfl
   rw[hJ]
   refine wpIn_seq (wpIn_label ?_)
   simp only at h
   show y.wpIn (WF rd) 0 P _ a w
   have main:∀ (σ2:St) (e2:Ex),cj lf (cQ od (hintOf Hn base y σ) fun σ=>iO l (aC P C Hn F lf base od rf false y σ)) σ=some (e2,σ2) →
     (∀ e3,Mw e2=some e3→∀ a' w' μ' S',AR So Dt μ' S' σ2 a'→Rel μ' S' σ2.heap B w0 w'→Carry B μo So Ho μ' S' σ2.heap→Q e3.to a' w')→y.wpIn (WF rd) 0 P (tY l (kx (WF rd) 0 P l (.seq .skip y) Q lf) Q) a w:=by
    intro σ2 e2 h hK
    refine Ir (μo:=μo) (So:=So) (Ho:=Ho) (f:=cQ od (hintOf Hn base y σ) fun σ=>iO l (aC P C Hn F lf base od rf false y σ)) (fun σ e σ' h hB=>?_) (fun σ e σ' a w μ S Q h hB A R Co hK=>?_) lf σ e2 σ2 a w μ S h hB A R Co hK
    ·unfold cQ at h
     split at h
     ·exact Jc (fun σ e σ'=>aJ hF false y σ e σ') h hB
     ·split at h
      ·rename_i σ1 h1;exact Jc (fun σ e σ'=>aJ hF false y σ e σ') h (nQ h1)
      ·simp at h
    ·have go:∀ (σ:St) (μ:Mu),iO l (aC P C Hn F lf base od rf false y σ)=some (e,σ')→Bd σ→AR So Dt μ S σ a→Rel μ S σ.heap B w0 w→Carry B μo So Ho μ S σ.heap→y.wpIn (WF rd) 0 P Q a w:=by
      intro σ μ h hB A R Co
      unfold iO at h
      split at h
      ·rename_i e1 σ1 h1
       split at h
       ·rename_i e4 h4
        cases h
        refine aF hrf hC hF hod y hg.right σ e1 _ a w μ S Q h1 hB A R Co fun a' w' μ' S' xe A' R' C' hx=>?_
        have he1:e1.ep=false:=by cases e1<;>first|rfl|(simp[ix] at h4)
        have hxe:xe=e1.to:=by cases e1<;>first|exact hx|(simp[Ex.ep] at he1)
        subst hxe
        exact hK e1 h4 a' w' μ' S' A' R' C'
       ·simp at h
      ·simp at h
     unfold cQ at h
     split at h
     ·exact go σ μ h hB A R Co
     ·split at h
      ·rename_i σ1 h1
       obtain⟨μ1,A1,R1,C1,B1⟩:=uZ h1 A R hod Co
       exact go σ1 μ1 h B1 A1 R1 C1
      ·simp at h
   unfold vh at h
   split at h
   ·rename_i e1 σ1 h1
    split at h
    ·rename_i e2 h2
     cases h
     rcases iT h1 with h|⟨σ2,h',h,hh⟩
     ·exact main _ _ h fun e3 h3 a' w' μ' S' A' R' C'=>by rw[h2] at h3;cases h3;exact hK a' w' μ' S' _ A' R' C' (Ex.Is.self (yZ h2))
     ·refine main σ2 _ h fun e3 h3 a' w' μ' S' A' R' C'=>?_
      rw[h2] at h3;cases h3
      obtain⟨μ1,A1,R1,C1,B1⟩:=uZ hh A' R' hod C'
      exact hK a' w' μ1 S' _ A1 R1 C1 (Ex.Is.self (yZ h2))
    ·simp at h
   ·simp at h
  | none=>
   rw[hl] at h
   simp only at h
   have hJ:mm (WF rd) P lf (.seq x y) Q=mm (WF rd) P lf y Q:=by unfold mm;simp only[bq,hl]
   rw[hJ]
   refine wpIn_seq ?_
   split at h
   ·rename_i σ1 h1
    refine aF hrf hC hF hod x hg.left σ .dS σ1 a w μ S _ h1 hB A R Co fun a1 w1 μ1 S1 xe A1 R1 C1 hx=>?_
    cases (show xe = .normal from hx)
    exact xh hrf hC hF hod y hg.right σ1 e σ' a1 w1 μ1 S1 Q h hne (aJ hF false x σ _ σ1 h1 hB) A1 R1 C1 hK
   ·rename_i i σ1 h1;cases h;exact aF hrf hC hF hod x hg.left σ (.exit i) _ a w μ S _ h1 hB A R Co fun a' w' μ' S' xe A' R' C' hx=>j9 (by simp) hx (bE _ xe hx hne _ _ (hK a' w' μ' S' xe A' R' C' hx))
   ·rename_i σ1 h1;cases h;exact aF hrf hC hF hod x hg.left σ .ret _ a w μ S _ h1 hB A R Co fun a' w' μ' S' xe A' R' C' hx=>j9 (by simp) hx (bE _ xe hx hne _ _ (hK a' w' μ' S' xe A' R' C' hx))
   ·rename_i v σ1 h1;cases h;exact aF hrf hC hF hod x hg.left σ (.fE v) _ a w μ S _ h1 hB A R Co fun a' w' μ' S' xe A' R' C' hx=>j9 (by simp) hx (bE _ xe hx hne _ _ (hK a' w' μ' S' xe A' R' C' hx))
   ·simp at h
 | .skip,hg,σ,e,σ',a,w,μ,S,Q,h,hne,hB,A,R,Co,hK=>aF hrf hC hF hod (.skip) hg σ e σ' a w μ S _ (by rw[← dX (by rfl)];exact h) hB A R Co fun a' w' μ' S' xe A' R' C' hx=>bE e xe hx hne _ _ (hK a' w' μ' S' xe A' R' C' hx)
 | .region i o d,hg,σ,e,σ',a,w,μ,S,Q,h,hne,hB,A,R,Co,hK=>aF hrf hC hF hod (.region i o d) hg σ e σ' a w μ S _ (by rw[← dX (by rfl)];exact h) hB A R Co fun a' w' μ' S' xe A' R' C' hx=>bE e xe hx hne _ _ (hK a' w' μ' S' xe A' R' C' hx)
 | .cond i x y,hg,σ,e,σ',a,w,μ,S,Q,h,hne,hB,A,R,Co,hK=>aF hrf hC hF hod (.cond i x y) hg σ e σ' a w μ S _ (by rw[← dX (by rfl)];exact h) hB A R Co fun a' w' μ' S' xe A' R' C' hx=>bE e xe hx hne _ _ (hK a' w' μ' S' xe A' R' C' hx)
 | .block i x,hg,σ,e,σ',a,w,μ,S,Q,h,hne,hB,A,R,Co,hK=>aF hrf hC hF hod (.block i x) hg σ e σ' a w μ S _ (by rw[← dX (by rfl)];exact h) hB A R Co fun a' w' μ' S' xe A' R' C' hx=>bE e xe hx hne _ _ (hK a' w' μ' S' xe A' R' C' hx)
 | .loop x,hg,σ,e,σ',a,w,μ,S,Q,h,hne,hB,A,R,Co,hK=>aF hrf hC hF hod (.loop x) hg σ e σ' a w μ S _ (by rw[← dX (by rfl)];exact h) hB A R Co fun a' w' μ' S' xe A' R' C' hx=>bE e xe hx hne _ _ (hK a' w' μ' S' xe A' R' C' hx)
 | .exit i,hg,σ,e,σ',a,w,μ,S,Q,h,hne,hB,A,R,Co,hK=>aF hrf hC hF hod (.exit i) hg σ e σ' a w μ S _ (by rw[← dX (by rfl)];exact h) hB A R Co fun a' w' μ' S' xe A' R' C' hx=>bE e xe hx hne _ _ (hK a' w' μ' S' xe A' R' C' hx)
 | .label i,hg,σ,e,σ',a,w,μ,S,Q,h,hne,hB,A,R,Co,hK=>aF hrf hC hF hod (.label i) hg σ e σ' a w μ S _ (by rw[← dX (by rfl)];exact h) hB A R Co fun a' w' μ' S' xe A' R' C' hx=>bE e xe hx hne _ _ (hK a' w' μ' S' xe A' R' C' hx)
 | .ret,hg,σ,e,σ',a,w,μ,S,Q,h,hne,hB,A,R,Co,hK=>aF hrf hC hF hod (.ret) hg σ e σ' a w μ S _ (by rw[← dX (by rfl)];exact h) hB A R Co fun a' w' μ' S' xe A' R' C' hx=>bE e xe hx hne _ _ (hK a' w' μ' S' xe A' R' C' hx)
 | .rangeFunc g p x y,hg,σ,e,σ',a,w,μ,S,Q,h,hne,hB,A,R,Co,hK=>aF hrf hC hF hod (.rangeFunc g p x y) hg σ e σ' a w μ S _ (by rw[← dX (by rfl)];exact h) hB A R Co fun a' w' μ' S' xe A' R' C' hx=>bE e xe hx hne _ _ (hK a' w' μ' S' xe A' R' C' hx)
 | .scope x,hg,σ,e,σ',a,w,μ,S,Q,h,hne,hB,A,R,Co,hK=>aF hrf hC hF hod (.scope x) hg σ e σ' a w μ S _ (by rw[← dX (by rfl)];exact h) hB A R Co fun a' w' μ' S' xe A' R' C' hx=>bE e xe hx hne _ _ (hK a' w' μ' S' xe A' R' C' hx)
 | .goto i,hg,σ,e,σ',a,w,μ,S,Q,h,hne,hB,A,R,Co,hK=>aF hrf hC hF hod (.goto i) hg σ e σ' a w μ S _ (by rw[← dX (by rfl)];exact h) hB A R Co fun a' w' μ' S' xe A' R' C' hx=>bE e xe hx hne _ _ (hK a' w' μ' S' xe A' R' C' hx)
 | .refuse i,hg,σ,e,σ',a,w,μ,S,Q,h,hne,hB,A,R,Co,hK=>aF hrf hC hF hod (.refuse i) hg σ e σ' a w μ S _ (by rw[← dX (by rfl)];exact h) hB A R Co fun a' w' μ' S' xe A' R' C' hx=>bE e xe hx hne _ _ (hK a' w' μ' S' xe A' R' C' hx)
end
end
def AK (tmps:Array Value):ResultVar→Sem Value
 | .tmp t=>pure (tmps.getD t undef)
 | .cell x t=>do loadVar t (← asAddr (tmps.getD x undef))
theorem M7 {σ:St}{a:Act}{w:World}{μ:Mu}{S:ar}(A:AR N Dt μ S σ a)(R:Rel μ S σ.heap B w0 w){r:ResultVar}{v:AV}(h:QN P σ r=some v) :
  ∃ u,(AK a.tmps r).run P w = .ok u w∧VR μ S σ.heap v u:=by
 cases r with
 | tmp t=>
  obtain⟨h1,rfl⟩:=ai h
  exact⟨_,rfl,A.tmp t (cP h1)⟩
 | cell x t=>
  simp only[QN] at h
  split at h
  ·rename_i i off hx
   split at h
   ·rename_i t' cs hH
    have hv:=A.val (.tmp x)
    rw[hx] at hv
    simp only[VR] at hv
    obtain⟨b,c,hm,_,e⟩:=hv
    obtain⟨vs,hb,hvs⟩:=rU R hH hm
    obtain⟨u,hu,hv⟩:=dy (P:=P) (w:=w) (ad:=⟨b,0,none⟩) hvs (fun j u hj=>by rw[aN,eK,cell_of hb];simpa using hj) h
    rw[aN,eK] at hu
    have e':a.tmps.getD x undef = .pointer (some ⟨b,off,none⟩):=e
    refine⟨u,?_,hv⟩
    simp only[AK,e',asAddr,dt,du,db,hu]
   ·simp at h
  ·simp at h
theorem yW {σ:St}{a:Act}{w:World}{μ:Mu}{S:ar}(A:AR N Dt μ S σ a)(R:Rel μ S σ.heap B w0 w):∀ {rs:List ResultVar} {vs:List AV},eU P σ rs=some vs →
  ∃ us,(rs.mapM (AK a.tmps)).run P w = .ok us w∧aH μ S σ.heap vs us
 | [],vs,h=>by
  simp only[eU,ba] at h;subst h
  exact⟨[],by simp,by simp[aH]⟩
 | r::rs,vs,h=>by
  simp only[eU] at h
  split at h
  ·rename_i v vs' h1 h2
   cases h
   obtain⟨u,k1,k2⟩:=M7 A R h1
   obtain⟨us,q1,q2⟩:=yW A R h2
   refine⟨u::us,?_,by simp only[aH];exact⟨u,us,rfl,k2,q2⟩⟩
   rw[List.mapM_cons]
   simp only[dt,k1,q1,db,du]
  ·simp at h
theorem vv {fn:Func}{σ:St}{a:Act}{w:World}{μ:Mu}{S:ar}(A:AR N Dt μ S σ a)(R:Rel μ S σ.heap B w0 w){vs:List AV}(h:eU P σ fn.results.toList=some vs) :
  ∃ u,(results fn a.tmps).run P w = .ok u w∧VR μ S σ.heap (gw vs) u:=by
 obtain⟨us,h1,h2⟩:=yW A R h
 refine⟨jf us,?_,vY h2⟩
 have e:results fn a.tmps=(do
   let vs ← fn.results.mapM (AK a.tmps)
   pure (if h:vs.size=1 then vs[0] else .tuple vs)):=by
  unfold results
  congr 1
  all_goals (congr 1;try (funext r;cases r<;>rfl))
 rw[e,Array.mapM_eq_mapM_toList]
 simp only[dt,Sem.run_map,db,h1,du]
 match us with
 | []=>rfl
 | [u]=>rfl
 | u::v::us=>simp[jf]
omit [aq] in
theorem qt {μ:Mu}{S:ar}{H:Heap}:∀ {as:List AV} {vs:List Value},aH μ S H as vs→∀ t,VR μ S H (fy as t) (vs.getD t undef)
 | [],vs,h,t=>by simp only[aH] at h;subst h;simp[fy,VR]
 | a::as,vs,h,t=>by
  simp only[aH] at h
  obtain⟨v,r,rfl,h1,h2⟩:=h
  cases t with
  | zero=>simpa [fy] using h1
  | succ t=>simpa [fy] using qt h2 t
omit [aq] in
theorem MH {i k r:Nat}{f g:St→Option (Ex×St)}{σ:St}{v:AV}{H':Heap}{L':List Nat}(hf:∀ σ e σ',f σ=some (e,σ')→Bd σ→Bd σ')(hg:∀ σ e σ',g σ=some (e,σ')→Bd σ→Bd σ')
  (h:yB i k r f g σ=some (v,H',L')) (hB:Bd σ):∀ q,H' q≠none→q∈L':=by
 unfold yB at h
 split at h
 ·rename_i σ1 h1
  split at h
  ·rename_i σ2 h2
   split at h
   ·rename_i e σ3 h3
    have B1:=hf _ _ _ h1 hB
    have B2:Bd σ2:=by
     unfold qu at h2
     split at h2
     ·rename_i hH
      obtain⟨_,e2⟩:=ai h2
      cases e2
      intro q hq
      by_cases eq:q=i
      ·subst eq;exact B1 q (by rw[hH];simp)
      ·simp only at hq;rw[ax _ _ eq] at hq;exact B1 q hq
     ·simp at h2
    have B3:=hg _ _ _ h3 B2
    unfold xa at h
    split at h
    ·rename_i hH
     obtain⟨_,e2⟩:=ai h
     cases e2
     intro q hq
     by_cases eq:q=i
     ·subst eq;exact B3 q (by rw[hH];simp)
     ·rw[ax _ _ eq] at hq;exact B3 q hq
    ·simp at h
   ·simp at h
  ·simp at h
 ·simp at h
theorem Ry {Hn:Hints}:∀ n id k as H L v H' L',cV P (bA P C Hn lf n)→bA P C Hn lf (n+1) id k as H L=some (v,H',L')→(∀ q,H q≠none→q∈L)→∀ q,H' q≠none→q∈L':=by
 intro n id k as H L v H' L' hF h hB
 cases k with
 | fn k=>
  simp only[bA] at h
  split at h
  ·rename_i fn hfn
   split at h
   ·rename_i c hc
    cases hle:eh as.length fn.ntmps with
    | false=>rw[hle] at h;simp at h
    | true=>
     rw[hle] at h
     simp only[cond_true] at h
     unfold pY at h
     split at h
     ·rename_i σ he
      split at h
      ·cases h;exact aJ hF false c _ _ σ he hB
      ·simp at h
     ·rename_i σ he
      split at h
      ·cases h;exact aJ hF false c _ _ σ he hB
      ·simp at h
     ·rename_i x σ he
      cases h;exact aJ hF false c _ _ σ he hB
     ·simp at h
   ·simp at h
  ·simp at h
 | iK i=>
  simp only[bA] at h
  split at h
  ·rename_i k r x σ hin
   have hB0:Bd σ:=by
    unfold vU at hin
    split at hin
    ·split at hin
     ·obtain⟨_,e1⟩:=ai hin
      cases e1
      exact hB
     ·simp at hin
    ·simp at hin
   exact MH (fun σ e σ' h hB=>aJ hF false _ σ e σ' h hB) (fun σ e σ' h hB=>aJ hF false _ σ e σ' h hB) h hB0
  ·simp at h
theorem Rel.ids {μ:Mu}{S:ar}{H:Heap}{w:World}{L:List Nat}(R:Rel μ S H B w0 w)(hBd:∀ q,H q≠none→q∈L):∀ i,μ i≠none→i∈L:=fun i hi=>hBd i (fun h=>by
 have:=R.dom i
 rw[h] at this
 cases hm:μ i with
 | none=>exact hi hm
 | some l=>rw[hm] at this;simp at this)
theorem OW {Hn:Hints}(hC:bX P C){n:Nat}(ih:cV P (bA P C Hn lf n)){id k:Nat}{as:List AV}{H H':Heap}{L L':List Nat}{v:AV}(h:bA P C Hn lf (n+1) id (.fn k) as H L=some (v,H',L'))(hBd:∀ q,H q≠none→q∈L)
  {μ:Mu} {S:ar} {B:Nat} {w0 w:World} {us:Array Value} (R:Rel μ S H B w0 w) (hv:aH μ S H as us.toList) :
  Calls P k us w fun e w'=>∃ μ' S',fq μ' S' H' v e∧Rel μ' S' H' B w0 w'∧Carry B μ S H μ' S' H':=by
 simp only[bA] at h
 split at h
 case h_2=>simp at h
 rename_i fn hfn
 split at h
 case h_2=>simp at h
 rename_i c hc
 cases hle:eh as.length fn.ntmps with
 | false=>rw[hle] at h;simp at h
 | true=>
  rw[hle] at h
  simp only[cond_true] at h
  have hle:=Nat.le_of_ble_eq_true hle
  have hlen:=aU hv
  simp only[Array.length_toList] at hlen
  refine (iE (r:=none) (n:=0)).1 (callsIn_of_wp_marks hfn hc trivial ?_ rfl)
  have A0:AR S (false,[]) μ S ⟨fn.ntmps,fy as,H,L⟩ { tmps:=us++dv (fn.ntmps-us.size) undef,defers:=[] }:=by
   refine⟨⟨[],rfl,⟨ee,by simp⟩,fun _=>rfl⟩,by simp;omega,fun t ht=>?_⟩
   have:=qt hv t
   rw[bj] at this
   rw[cn]
   by_cases hlt:t<us.size
   ·rw[Array.getElem?_append_left hlt];simpa using this
   ·rw[Array.getElem?_append_right (by omega),Array.getElem?_replicate]
    have e1:us.toList[t]? = none:=by rw[List.getElem?_eq_none];simp;omega
    rw[e1] at this
    have:t-us.size<fn.ntmps-us.size:=by simp only at ht;omega
    rw[if_pos this];assumption
  have hod:=R.ids hBd
  have leave:∀ (e:Ex) (σ:St),aC P C Hn (bA P C Hn lf n) lf (eJ id * 4294967296) L (some k) false c ⟨fn.ntmps,fy as,H,L⟩=some (e,σ) →
    (∀ (a':Act) w2 μ' S' S2 xe,AR S (false,[]) μ' S2 σ { tmps:=a'.tmps,defers:=[] }→Rel μ' S2 σ.heap B w0 w2→Carry B μ S H μ' S2 σ.heap→fh S' S2→e.Is μ' S' σ.heap xe →
     (bodyPostM (WF none) 0 P fn (fun e w'=>∃ μ' S',fq μ' S' H' v e∧Rel μ' S' H' B w0 w'∧Carry B μ S H μ' S' H')) xe { tmps:=a'.tmps,defers:=[] } w2) →
    (e.to = .normal∨e.to = .ret) →
    c.wpIn (WF none) 0 P (bodyPostM (WF none) 0 P fn fun e w'=>∃ μ' S',fq μ' S' H' v e∧Rel μ' S' H' B w0 w'∧Carry B μ S H μ' S' H') { tmps:=us++dv (fn.ntmps-us.size) undef,defers:=[] } w:=by
   intro e σ he hK hne
   refine aF (Dt:=(false,[])) (μo:=μ) (So:=S) (Ho:=H) (fun _=>⟨rfl,rfl⟩) hC ih hod c (.top hfn hc) _ e σ _ w μ S _ he hBd A0 R Carry.refl fun a' w' μ' S' xe A' R' C' hx=>?_
   have main:∀ (u:FrameMode),u ≠ .run→(∀ S2 w2,Rel μ' S2 σ.heap B w0 w2→fh S' S2→Carry B μ S H μ' S2 σ.heap→LeavesInM (WF none) 0 P fn a'.tmps (fun e w'=>∃ μ' S',fq μ' S' H' v e∧Rel μ' S' H' B w0 w'∧Carry B μ S H μ' S' H') [] u w2) →
     LeavesInM (WF none) 0 P fn a'.tmps (fun e w'=>∃ μ' S',fq μ' S' H' v e∧Rel μ' S' H' B w0 w'∧Carry B μ S H μ' S' H') a'.defers u w':=by
    intro u hu hL
    obtain⟨ms,hms,hmk,_⟩:=A'.defers
    rw[hms]
    refine k9 hu R.pre ms S' w' R' hmk C'.sub (fun D hD=>?_) fun S2 w2 R2 hc2 hs2 hn2=>hL S2 w2 R2 hc2 ⟨fun a v h=>jA hc2 _ _ (C'.vr a v h),fun b hb=>C'.st b (hn2 b hb),hs2⟩
    rcases C'.st D (by rw[(hmk.2 D hD).2];simp) with h|h
    ·exact absurd (hmk.2 D hD).1 h
    ·exact h
   have A2:∀ {S2},fh S' S2→AR S (false,[]) μ' S2 σ { tmps:=a'.tmps,defers:=[] }:=fun {S2} hc2=>⟨⟨[],rfl,⟨ee,by simp⟩,fun _=>rfl⟩,A'.size,fun t ht=>jA hc2 _ _ (A'.tmp t ht)⟩
   have fin:∀ u,u ≠ .run→(∀ S2 w2,bodyPostM (WF none) 0 P fn (fun e w'=>∃ μ' S',fq μ' S' H' v e∧Rel μ' S' H' B w0 w'∧Carry B μ S H μ' S' H') xe { tmps:=a'.tmps,defers:=[] } w2→LeavesInM (WF none) 0 P fn a'.tmps (fun e w'=>∃ μ' S',fq μ' S' H' v e∧Rel μ' S' H' B w0 w'∧Carry B μ S H μ' S' H') [] u w2) →
     LeavesInM (WF none) 0 P fn a'.tmps (fun e w'=>∃ μ' S',fq μ' S' H' v e∧Rel μ' S' H' B w0 w'∧Carry B μ S H μ' S' H') a'.defers u w':=fun u hu hL=>
    main u hu fun S2 w2 R2 hc2 C2=>hL S2 w2 (hK a' w2 μ' S' S2 xe (A2 hc2) R2 C2 hc2 hx)
   cases e with
   | dS=>cases (show xe = .normal from hx);exact fin .returning (by simp) fun S2 w2 h=>h
   | ret=>cases (show xe = .ret from hx);exact fin .returning (by simp) fun S2 w2 h=>h
   | fE x=>obtain⟨u,rfl,_⟩:=hx;exact fin (.panicking (DH u)) (by simp) fun S2 w2 h=>h
   | exit i=>rcases hne with h|h<;>simp[Ex.to] at h
   | goto i=>rcases hne with h|h<;>simp[Ex.to] at h
  have fin:∀ (e:Ex) (σ:St),aC P C Hn (bA P C Hn lf n) lf (eJ id * 4294967296) L (some k) false c ⟨fn.ntmps,fy as,H,L⟩=some (e,σ)→e = .dS∨e = .ret →
    (∃ vs,eU P σ fn.results.toList=some vs∧v=gw vs∧H'=σ.heap) →
    c.wpIn (WF none) 0 P (bodyPostM (WF none) 0 P fn fun e w'=>∃ μ' S',fq μ' S' H' v e∧Rel μ' S' H' B w0 w'∧Carry B μ S H μ' S' H') { tmps:=us++dv (fn.ntmps-us.size) undef,defers:=[] } w:=by
   rintro e σ he hex ⟨vs,hvs,rfl,rfl⟩
   refine leave e σ he (fun a' w2 μ' S' S2 xe A2 R2 C2 hc2 hx=>?_) (by rcases hex with rfl|rfl<;>simp[Ex.to])
   obtain⟨u,k1,k2⟩:=vv A2 R2 hvs
   have hL:LeavesInM (WF none) 0 P fn a'.tmps (fun e w'=>∃ μ' S',fq μ' S' σ.heap (gw vs) e∧Rel μ' S' σ.heap B w0 w'∧Carry B μ S H μ' S' σ.heap) [] .returning w2:=⟨u,k1,μ',S2,fq.ret k2,R2,C2⟩
   rcases hex with rfl|rfl
   ·cases (show xe = .normal from hx);exact hL
   ·cases (show xe = .ret from hx);exact hL
  unfold pY at h
  split at h
  ·rename_i σ he
   split at h
   ·rename_i vs hvs;cases h;exact fin .dS σ he (.inl rfl) ⟨vs,hvs,rfl,rfl⟩
   ·simp at h
  ·rename_i σ he
   split at h
   ·rename_i vs hvs;cases h;exact fin .ret σ he (.inr rfl) ⟨vs,hvs,rfl,rfl⟩
   ·simp at h
  ·rename_i x σ he
   cases h
   refine leave (.fE x) _ he (fun a' w2 μ' S' S2 xe A2 R2 C2 hc2 hx=>?_) (.inl rfl)
   obtain⟨u,rfl,hu⟩:=hx
   exact⟨μ',S2,⟨u,rfl,jA hc2 _ _ hu⟩,R2,C2⟩
  ·simp at h
theorem LL {Hn:Hints}(hC:bX P C){n:Nat}(ih:cV P (bA P C Hn lf n)){id i:Nat}{as:List AV}{H H':Heap}{L L':List Nat}{v:AV}(h:bA P C Hn lf (n+1) id (.iK i) as H L=some (v,H',L'))(hBd:∀ q,H q≠none→q∈L)
  {μ:Mu} {S:ar} {B:Nat} {w0 w:World} {us:Array Value} (R:Rel μ S H B w0 w) (hv:aH μ S H as us.toList) :
  ul P μ (.iK i) us w fun e w'=>∃ μ' S',fq μ' S' H' v e∧Rel μ' S' H' B w0 w'∧Carry B μ S H μ' S' H':=by
 simp only[bA] at h
 split at h
 case h_2=>simp at h
 rename_i k r x σ hin
 intro b cp hm
 unfold vU at hin
 split at hin
 case h_2=>simp at hin
 rename_i k r ts hH
 split at hin
 case h_2=>simp at hin
 rename_i x hx
 obtain⟨hps,e1⟩:=ai hin
 cases e1
 obtain⟨Lp,hL,hrng,hst,hvs⟩:=R.loop hH hm
 rw[hC.2.2,hx,ba] at hrng
 have hlen:=aU hv
 simp only[Array.length_toList] at hlen
 have hps:=ae hps
 have hsz:us.size=Lp.params.size:=by rw[← hlen,← hps,hrng]
 have hyv:VR μ S H (.iK i) (.func (.yield b) #[] #[]):=by
  simp only[VR]
  exact⟨b,cp,hm,fun o h=>by rw[hH] at h;cases h;rfl,rfl⟩
 have getμ:∀ {μ':Mu} {S':ar} {H':Heap},Carry B μ S H μ' S' H'→∃ c,μ' i=some ⟨some b,c,aT⟩:=by
  intro μ' S' H' hc
  have:=hc.vr _ _ hyv
  simp only[VR] at this
  obtain⟨b',c',h1,_,h2⟩:=this
  injection h2 with h2;injection h2 with h2
  subst h2
  exact⟨c',h1⟩
 refine⟨Lp.fn,_,Lp.assign,Lp.body,run_yield hL hsz,roundIn_of_wpIn trivial ?_⟩
 have hT:aH μ S H (ni ts x.1.toList as) ((Lp.params.zip us).foldl (fun tmps (t,a)=>tmps.setIfInBounds t a) Lp.tmps).toList:=by
  have:=zn (ps:=x.1.toList) hvs hv
  rw[← Array.foldl_toList,Array.toList_zip,← show x.1=Lp.params by rw[hrng]]
  exact this
 have hsl:∀ (ts:List AV) (ps:List Tmp) (as:List AV),(ni ts ps as).length=ts.length:=by
  intro ts ps
  induction ps generalizing ts with
  | nil=>intro as;cases as<;>rfl
  | cons p ps ihp=>
   intro as
   cases as with
   | nil=>rfl
   | cons a as=>simp only[ni];rw[ihp];simp
 have A0:AR S (false,[]) μ S ⟨ts.length,fy (ni ts x.1.toList as),H,L⟩ { tmps:=(Lp.params.zip us).foldl (fun tmps (t,a)=>tmps.setIfInBounds t a) Lp.tmps,defers:=[] }:=by
  refine⟨⟨[],rfl,⟨ee,by simp⟩,fun _=>rfl⟩,?_,fun t ht=>?_⟩
  ·have:=aU hT
   rw[hsl] at this
   simpa using this.symm
  ·have:=qt hT t
   rw[bj,dE] at this
   rw[cn]
   exact this
 have hod:=R.ids hBd
 unfold yB at h
 split at h
 case h_2=>simp at h
 rename_i σ1 h1
 split at h
 case h_2=>simp at h
 rename_i σ2 h2
 split at h
 case h_2=>simp at h
 rename_i e σ3 h3
 have ea:x.2.1=Lp.assign:=by rw[hrng]
 have eb:x.2.2=Lp.body:=by rw[hrng]
 rw[← ea,← eb]
 have hB0:Bd ⟨ts.length,fy (ni ts x.1.toList as),H,L⟩:=hBd
 have hB1:=aJ ih false _ _ _ _ h1 hB0
 refine aF (rd:=some b) (μo:=μ) (So:=S) (Ho:=H) (fun h=>absurd rfl h) hC ih hod x.2.1 .none _ .dS σ1 _ w μ S _ h1 hBd A0 R Carry.refl fun a1 w1 μ1 S1 xe A1 R1 C1 hx1=>?_
 cases (show xe = .normal from hx1)
 unfold qu at h2
 split at h2
 case h_2=>simp at h2
 rename_i k' r' ts1 hH1
 obtain⟨hkr,e2⟩:=ai h2
 cases e2
 simp only[al] at hkr
 have ek:=ae hkr.1
 have er:=ae hkr.2
 subst ek er
 obtain⟨c1,hm1⟩:=getμ C1
 obtain⟨L1,hL1,hr1,hst1,hv1⟩:=R1.loop hH1 hm1
 obtain⟨R2,E2⟩:=R1.ux (st':=.busy) (L':={ L1 with state:=.busy }) hH1 hm1 hL1 ⟨rfl,rfl,rfl,rfl⟩ rfl
 refine⟨_,run_beginRound hL1 hst1.1,?_⟩
 have hB2:Bd ⟨σ1.nt,σ1.tmps,aP σ1.heap i (some (.loop k' r' .busy ts1)),σ1.ids⟩:=by
  intro q hq
  by_cases eq:q=i
  ·subst eq;exact hB1 q (by rw[hH1];simp)
  ·simp only at hq;rw[ax _ _ eq] at hq;exact hB1 q hq
 refine aF (rd:=some b) (μo:=μ) (So:=S) (Ho:=H) (fun h=>absurd rfl h) hC ih hod x.2.2 .none _ e σ3 a1 _ μ1 S1 _ h3 hB2 ⟨A1.defers,A1.size,fun t ht=>dA E2 _ _ (A1.tmp t ht)⟩ R2 (C1.trans (Carry.of E2)) fun a3 w3 μ3 S3 xe A3 R3 C3 hx3=>?_
 unfold xa at h
 split at h
 case h_2=>simp at h
 rename_i k2 r2 ts3 hH3
 obtain⟨hkr,e3⟩:=ai h
 cases e3
 obtain⟨c3,hm3⟩:=getμ C3
 simp only[al] at hkr
 have ek:=ae hkr.1.1
 have er:=ae hkr.1.2
 subst ek er
 obtain⟨L3,hL3,hr3,hst3,hv3⟩:=R3.loop hH3 hm3
 have fin:∀ (j:Option Code) (st:KO) (c:Bool),j.isNone=c→st.Is (if j.isNone then .ready else .done) j→st=e.st→c=e.on→∃ v' w',(Instr.endRound b j).run P w3 = .ok v' w' ∧
   ∃ μ' S',fq μ' S' (aP σ3.heap i (some (.loop k2 r2 e.st ts3))) (.lit (.bool e.on)) (Ending.returned v')∧Rel μ' S' (aP σ3.heap i (some (.loop k2 r2 e.st ts3))) B w0 w'∧Carry B μ S H μ' S' (aP σ3.heap i (some (.loop k2 r2 e.st ts3))):=by
  intro j st c hj his he hc
  subst he
  subst hc
  obtain⟨R4,E4⟩:=R3.ux (st':=e.st) (L':={ L3 with state:=if j.isNone then .ready else .done,pending:=j }) hH3 hm3 hL3 ⟨rfl,rfl,rfl,rfl⟩ his
  refine⟨_,_,run_endRound j hL3,μ3,S3,?_,R4,C3.trans (Carry.of E4)⟩
  rw[hj]
  exact fq.ret (by simp only[VR])
 cases e with
 | dS=>cases (show xe = .normal from hx3);exact fin none .ready true rfl ⟨rfl,rfl⟩ rfl rfl
 | ret=>cases (show xe = .ret from hx3);exact fin (some .ret) (.done .ret) false rfl ⟨rfl,rfl⟩ rfl rfl
 | exit q=>cases (show xe = .exit q from hx3);exact fin (some (.exit q)) (.done (.exit q)) false rfl ⟨rfl,rfl⟩ rfl rfl
 | goto q=>cases (show xe = .goto q from hx3);exact fin (some (.goto q)) (.done (.goto q)) false rfl ⟨rfl,rfl⟩ rfl rfl
 | fE v=>have:=hkr.2;simp[Ex.ep] at this
theorem nk {Hn:Hints}(hC:bX P C):∀ n,cV P (bA P C Hn lf n)
 | 0=>fun id k as H L v H' L' h=>by simp[bA] at h
 | n+1=>by
  intro id k as H L v H' L' h hBd
  refine⟨Ry n id k as H L v H' L' (nk hC n) h hBd,?_⟩
  intro μ S B w0 w us R hv
  cases k with
  | fn k=>exact OW hC (nk hC n) h hBd R hv
  | iK i=>exact LL hC (nk hC n) h hBd R hv
end
def Ws (t:Ty)(x:t.T):AV:=cond t.isAgg (.agg (enc t x)) (MT (enc t x))
def cJ:(ps:List Ty)→dQ ps→List AV
 | [],_=>[]
 | t::ts,x=>Ws t x.1::cJ ts x.2
def Ib (H:Heap)(te:TypeId)(e:Ty):List AV→Option (List e.T×List AV×List Nat)
 | .sl i g::r=>match H i with
  | some (.row te' e' g' xs)=>cond (ap g g'&&ap te te') (match gx (e:=e') (e':=e) xs with
   | some ys=>some (ys,r,[i])
   | none=>none) none
  | _=>none
 | .lit (.slice none 0 0)::r=>some ([],r,[])
 | .sub i g a b::r=>match H i with
  | some (.row te' e' g' xs)=>cond (ap a 0&&ap g g'&&ap te te') (match gx (e:=e') (e':=e) (xs.take b) with
   | some ys=>some (ys,r,[i])
   | none=>none) none
  | _=>none
 | _=>none
def eG.qx:eG→Bool
 | .val _=>true
 | .own _ _=>false
 | .pair a b=>a.qx&&b.qx
 | .one a=>a.qx
 | .any=>true
 | .deep _ _ _=>false
def rY:List eG→Bool
 | []=>true
 | t::ts=>t.qx&&rY ts
def gz.done:gz→Nat→Bool
 | .own,_=>true
 | .lJ _,_=>false
 | .iI m,n=>decide (n≤m)
 | .late _,_=>false
def oA (H:Heap):List Nat→Bool
 | []=>true
 | i::l=>(match H i with
  | some (.aO _ _ _ xs st)=>st.done xs.length
  | _=>true)&&oA H l
def JV (H:Heap)(te ti:TypeId):List AV→Option (List FT×List AV×List Nat)
 | .zR i::r=>match H i with
  | some (.aO te' ti' _ xs _)=>cond (ap te te'&&ap ti ti') (some (xs,r,[i])) none
  | _=>none
 | _=>none
def vS (Hv H:Heap):(t:eG)→List AV→Option (t.T×List AV×List Nat)
 | .val t,l=>match dec Hv t l with
  | some (x,r)=>some (x,r,[])
  | none=>none
 | .own te e,l=>Ib H te e l
 | .pair a b,l=>match vS Hv H a l with
  | some (x,l',o)=>match vS Hv H b l' with
   | some (y,l'',p)=>some ((x,y),l'',o++p)
   | none=>none
  | none=>none
 | .one a,l=>vS Hv H a l
 | .any,_=>none
 | .deep te ti false,l=>JV H te ti l
 | .deep _ _ true,_=>none
def Rt (Hv H:Heap)(t:eG)(a:AV):Option (t.T×List Nat):=
 cond (t.isAgg == a.isAgg) (match vS Hv H t a.inside with
  | some (x,[],o)=>some (x,o)
  | _=>none) none
def vQ (Hv H:Heap):(rs:List eG)→List AV→Option (zu rs×List Nat)
 | [],[]=>some ((),[])
 | t::ts,a::as=>match Rt Hv H t a with
  | some (x,o)=>match vQ Hv H ts as with
   | some (y,p)=>some ((x,y),o++p)
   | none=>none
  | none=>none
 | _,_=>none
def AV.parts (n:Nat):AV→List AV
 | .uo vs=>cond (ap n 1) [.uo vs] vs
 | a=>[a]
def iC (rs:List eG):Option (AV×Heap×List Nat)→Option (zu rs)
 | some (v,H,_)=>cond v.ep none (match vQ (cond (rY rs) H (fun _=>none)) H rs (v.parts rs.length) with
  | some (y,o)=>cond (distinct o&&oA H o) (some y) none
  | none=>none)
 | none=>none
def top (P:Program)(C:Cons)(Hn:Hints)(lf n k:Nat)(ps:List Ty)(rs:List eG)(x:dQ ps):Option (zu rs):=
 iC rs (bA P C Hn lf n 0 (.fn k) (cJ ps x) (fun _=>none) [])
section
variable [aq]{P:Program}{w w' w0:World}{μ:Mu}{S S':ar}{H Hv:Heap}{B:Nat}
omit [aq] in
theorem Tb {t:Ty}{x:t.T}{v:Value}(h:Mr S t x v):VR μ S H (Ws t x) v:=by
 unfold Mr at h
 unfold Ws
 cases ha:t.isAgg with
 | true=>
  rw[ha,if_pos rfl] at h
  obtain⟨cs,rfl,h⟩:=h
  simp only[cond_true,VR]
  exact⟨cs,rfl,gJ t x _ h⟩
 | false=>
  rw[ha,if_neg (by simp)] at h
  have:=gJ (μ:=μ) (H:=H) t x _ h
  have hl:=aU this
  simp only[cond_false]
  match he:enc t x,this,hl with
  | [a],this,_=>simp only[aH] at this;obtain⟨_,_,e,k,_⟩:=this;cases e;exact k
  | [],_,hl=>simp at hl
  | _::_::_,_,hl=>simp at hl
omit [aq] in
theorem mg:∀ {ps:List Ty} {x:dQ ps} {vs:List Value},iB S ps x vs→aH μ S H (cJ ps x) vs
 | [],x,vs,h=>by simp only[iB] at h;subst h;simp[cJ,aH]
 | t::ts,x,vs,h=>by
  obtain⟨v,r,rfl,h1,h2⟩:=h
  simp only[cJ,aH]
  exact⟨v,r,rfl,Tb h1,mg h2⟩
inductive OI (μ:Mu):List fJ→List Nat→Prop
 | nil:OI μ [] []
 | Nw {q os o}:(∀ b,¬ q.loc.has b)→OI μ os o→OI μ (q::os) o
 | own {q os i o}:μ i=some q.loc→OI μ os o→OI μ (q::os) (i::o)
omit [aq] in
theorem OI.append {os os':List fJ}{o o':List Nat}(h:OI μ os o)(h':OI μ os' o'):OI μ (os++os') (o++o'):=by
 induction h with
 | nil=>exact h'
 | Nw h1 _ ih=>exact .Nw h1 ih
 | own h1 _ ih=>exact .own h1 ih
omit [aq] in
theorem OI.mem {os:List fJ}{o:List Nat}(h:OI μ os o):∀ q∈os,(∀ b,¬ q.loc.has b)∨∃ i∈o,μ i=some q.loc:=by
 induction h with
 | nil=>simp
 | Nw h1 _ ih=>
  intro q hq
  rcases be.1 hq with rfl|hq
  ·exact .inl h1
  ·exact ih q hq
 | own h1 _ ih=>
  intro q hq
  rcases be.1 hq with rfl|hq
  ·exact .inr ⟨_,by simp,h1⟩
  ·rcases ih q hq with h|⟨i,h2,h3⟩
   ·exact .inl h
   ·exact .inr ⟨i,by simp[h2],h3⟩
theorem OI.apart (R:Rel μ S H B w0 w){os:List fJ}{o:List Nat}(h:OI μ os o):distinct o=true→os.Pairwise AU:=by
 induction h with
 | nil=>intro;exact .nil
 | Nw h1 h2 ih=>
  intro hd
  exact List.pairwise_cons.2 ⟨fun q hq b hb=>absurd hb (h1 b),ih hd⟩
 | @own p os i o h1 h2 ih=>
  intro hd
  simp only[distinct,al,cd] at hd
  refine List.pairwise_cons.2 ⟨fun q hq b hb=>?_,ih hd.2⟩
  rcases h2.mem q hq with h|⟨j,hj,h3⟩
  ·exact h b
  ·refine R.sep i j _ _ b (fun e=>?_) h1 h3 hb
   subst e
   have:=da.1 hd.1 i hj
   simp at this
theorem SB (R:Rel μ S H B w0 w){i:Nat}{te:TypeId}{e:Ty}{g:Nat}{xs:List e.T}(hi:H i=some (.row te e g xs)){l:Lc}(hm:μ i=some l):gh S w B ⟨l,.row te e xs⟩:=by
 obtain⟨l',h1,h2⟩:=R.obj i _ hi
 have:l'=l:=dj (h1.symm.trans hm)
 subst this
 exact⟨R.iX hm hi,h2⟩
theorem KS (R:Rel μ S H B w0 w){te:TypeId}{e:Ty}{as:List AV}{vs:List Value}{x:List e.T}{r:List AV}{o:List Nat}(hv:aH μ S H as vs)(h:Ib H te e as=some (x,r,o)) :
  ∃ cs us os,vs=cs++us∧Mq S (.own te e) x cs os∧aH μ S H r us∧OI μ os o∧∀ q∈os,gh S w B q:=by
 unfold Ib at h
 split at h
 ·rename_i i g r'
  split at h
  ·rename_i te' e' g' xs hH
   cases hb:(ap g g'&&ap te te') with
   | false=>rw[hb] at h;simp at h
   | true=>
    rw[hb] at h
    simp only[cond_true] at h
    simp only[al] at hb
    have hgg:=ae hb.1
    have htt:=ae hb.2
    subst htt
    split at h
    ·rename_i ys hc
     cases h
     obtain⟨he,rfl⟩:=b9 hc
     subst he
     simp only[aH] at hv
     obtain⟨v,u,rfl,h1,h2⟩:=hv
     simp only[VR] at h1
     obtain⟨_,l,hm,h3⟩:=h1
     have hv':=(h3 _ _ _ _ hH).2 hgg
     subst hv'
     exact⟨[_],u,[⟨l,.row te e' xs⟩],rfl,⟨l,rfl,rfl⟩,h2,.own hm .nil,by intro q hq;simp at hq;subst hq;exact SB R hH hm⟩
    ·simp at h
  ·simp at h
 ·cases h
  simp only[aH,VR] at hv
  obtain⟨v,u,rfl,rfl,h2⟩:=hv
  exact⟨[_],u,[⟨⟨none,0,aT⟩,.row te e []⟩],rfl,⟨⟨none,0,aT⟩,rfl,rfl⟩,h2,.Nw (fun b=>by rw[Lc.fe rfl];simp) .nil,by intro q hq;simp at hq;subst hq;exact⟨rfl,⟨dd _,Nat.zero_le _⟩,.inl ⟨rfl,rfl⟩⟩⟩
 ·rename_i i g a b r'
  split at h
  ·rename_i te' e' g' xs hH
   cases hb:(ap a 0&&ap g g'&&ap te te') with
   | false=>rw[hb] at h;simp at h
   | true=>
    rw[hb] at h
    simp only[cond_true] at h
    simp only[al] at hb
    have haa:=ae hb.1.1
    have hgg:=ae hb.1.2
    have htt:=ae hb.2
    subst htt haa
    split at h
    ·rename_i ys hc
     cases h
     obtain⟨he,rfl⟩:=b9 hc
     subst he
     simp only[aH] at hv
     obtain⟨v,u,rfl,h1,h2⟩:=hv
     simp only[VR] at h1
     obtain⟨_,l,hm,h3⟩:=h1
     obtain⟨p1,p2,ad,rfl,p3,_⟩:=(h3 _ _ _ _ hH).2 hgg
     have had:=p3 (by simp)
     have had':ad=l.addr:=by
      rw[had]
      cases l.addr with
      | none=>rfl
      | some q=>simp[add_zero]
     subst had'
     have hlen:List.length (xs.take b)=b:=by rw[List.length_take];omega
     obtain⟨l',m1,m2⟩:=R.obj i _ hH
     have:l'=l:=dj (m1.symm.trans hm)
     subst this
     have hO:=zq b m2
     refine⟨[_],u,[⟨l',.row te e' (xs.take b)⟩],rfl,⟨l',by rw[hlen];rfl,rfl⟩,h2,.own hm .nil,by intro q hq;simp at hq;subst hq;exact⟨R.iX hm hH,hO⟩⟩
    ·simp at h
  ·simp at h
 ·simp at h
def Mo (B:Nat)(S:ar)(w:World):ar:=fun b=>cond (eh B b) w.heap[b]? (S b)
theorem uP (R:Rel μ S H B w0 w)(b:Nat)(o:Obj)(h:S b=some o):Mo B S w b=some o:=by
 unfold Mo
 cases eh B b with
 | true=>exact R.st b o h
 | false=>exact h
theorem YL (R:Rel μ S H B w0 w)(b:Nat)(o:Obj)(h:Mo B S w b=some o):w.heap[b]? = some o:=by
 unfold Mo at h
 cases hb:eh B b with
 | true=>rw[hb] at h;exact h
 | false=>rw[hb] at h;exact R.st b o h
theorem Ot (R:Rel μ S H B w0 w)(sub:∀ i o,Hv i=some o→H i=some o):dP μ (Mo B S w) Hv:=by
 have ge:∀ {i l b},μ i=some l→l.has b→Mo B S w b=w.heap[b]?:=fun hm hb=>by
  unfold Mo
  rw[Nat.ble_eq_true_of_le (R.CR hm hb).1];rfl
 refine⟨fun i t e g xs l h hm=>?_,fun i t ti q xs l h hm=>?_⟩
 ·obtain⟨l',h1,h2⟩:=R.obj i _ (sub _ _ h)
  have:l'=l:=dj (h1.symm.trans hm)
  subst this
  exact jN (uP R) (fun b hb=>ge hm (.inl hb)) h2
 ·obtain⟨l',h1,h2⟩:=R.obj i _ (sub _ _ h)
  have:l'=l:=dj (h1.symm.trans hm)
  subst this
  exact rQ (uP R) (fun b hb=>ge hm hb) h2
omit [aq] in
theorem jL:∀ (t:eG) (x:t.T) (cs:List Value) (os:List fJ),t.qx=true→Mq S t x cs os→os=[]
 | .val t,x,cs,os,_,h=>h.2
 | .own _ _,x,cs,os,hn,_=>by simp[eG.qx] at hn
 | .pair a b,x,cs,os,hn,h=>by
  simp only[eG.qx,al] at hn
  obtain⟨c,d,o,p,_,rfl,h1,h2⟩:=h
  rw[jL a _ _ _ hn.1 h1,jL b _ _ _ hn.2 h2];rfl
 | .one a,x,cs,os,hn,h=>jL a x cs os hn h
 | .any,x,cs,os,hn,h=>h.2
 | .deep _ _ _,x,cs,os,hn,_=>by simp[eG.qx] at hn
omit [aq] in
theorem vj:∀ {rs:List eG} {y:zu rs} {us:List Value} {os:List fJ},rY rs=true→ER S rs y us os→os=[]
 | [],_,_,_,_,h=>h.2
 | t::ts,y,us,os,hn,h=>by
  simp only[rY,al] at hn
  obtain⟨v,r,o,p,_,rfl,h1,h2⟩:=h
  rw[vj hn.2 h2,dC]
  unfold lz at h1
  split at h1
  ·obtain⟨cs,_,h1⟩:=h1
   exact jL t _ _ _ hn.1 h1
  ·exact jL t _ _ _ hn.1 h1
omit [aq] in
theorem rX {H:Heap}:∀ {o p:List Nat},oA H (o++p)=true→oA H o=true∧oA H p=true
 | [],_,h=>⟨rfl,h⟩
 | i::o,p,h=>by
  simp only[dq,oA,al] at h ⊢
  obtain⟨h1,h2⟩:=h
  obtain⟨h3,h4⟩:=rX h2
  exact⟨⟨h1,h3⟩,h4⟩
omit [aq] in
theorem LC {l:Lc}{t ti:TypeId}{xs:List FT}{st:gz}(h:st.done xs.length=true)(D:cT S w B l t ti xs st):cT S w B l t ti xs .own:=by
 cases st with
 | own=>exact D
 | lJ _=>simp[gz.done] at h
 | late _=>simp[gz.done] at h
 | iI m=>
  simp only[gz.done,decide_eq_true_eq] at h
  have lt:∀ (k:Nat) (x:FT),xs[k]? = some x→k<m:=fun k x hx=>by
   have:=(dk.1 hx).1
   omega
  refine⟨D.len,fun k hk=>D.out k (hk.imp id fun h=>absurd trivial h),fun k x hx _=>D.row k x hx (lt k x hx),D.one,D.off,D.CS.imp id fun⟨b,cs,e1,q1,q2,q3,q4,q5⟩=>⟨b,cs,e1,q1,q2,q3,q4,fun k x hx=>?_⟩⟩
  obtain⟨f0,f2,v,f1,f3,f4,_⟩:=q5 k x hx
  exact⟨f0,f2,v,f1,f3,fun _=>f4 (lt k x hx),fun h=>absurd trivial h⟩
theorem rH (R:Rel μ S H B w0 w)(hS:∀ b o,S b=some o→S' b=some o)(hrow:dP μ S' Hv)(sub:∀ i o,Hv i=some o→H i=some o) :
  ∀ (t:eG) (as:List AV) (vs:List Value) (x:t.T) (r:List AV) (o:List Nat),aH μ S H as vs→vS Hv H t as=some (x,r,o)→oA H o=true →
  ∃ cs us os,vs=cs++us∧Mq S' t x cs os∧aH μ S H r us∧OI μ os o∧∀ q∈os,gh S w B q
 | .val t,as,vs,x,r,o,hv,h,hdn=>by
  simp only[vS] at h
  split at h
  ·rename_i y r' hd
   cases h
   obtain⟨cs,us,h1,h2,h3⟩:=oM (S':=S') (H:=H) hS hrow sub t as vs _ _ hv hd
   exact⟨cs,us,[],h1,⟨h2,rfl⟩,h3,.nil,by simp⟩
  ·simp at h
 | .own te e,as,vs,x,r,o,hv,h,hdn=>KS R hv h
 | .pair a b,as,vs,x,r,o,hv,h,hdn=>by
  simp only[vS] at h
  split at h
  ·rename_i y l' o1 h1
   split at h
   ·rename_i z l'' o2 h2
    cases h
    obtain⟨d1,d2⟩:=rX hdn
    obtain⟨c1,u1,os1,e1,k1,r1,i1,w1⟩:=rH R hS hrow sub a as vs y l' o1 hv h1 d1
    obtain⟨c2,u2,os2,e2,k2,r2,i2,w2⟩:=rH R hS hrow sub b l' u1 z _ o2 r1 h2 d2
    refine⟨c1++c2,u2,os1++os2,by rw[e1,e2,List.append_assoc],⟨c1,c2,os1,os2,rfl,rfl,k1,k2⟩,r2,i1.append i2,fun q hq=>?_⟩
    rcases bm.1 hq with h|h
    ·exact w1 q h
    ·exact w2 q h
   ·simp at h
  ·simp at h
 | .one a,as,vs,x,r,o,hv,h,hdn=>by
  simp only[vS] at h
  exact rH R hS hrow sub a as vs x r o hv h hdn
 | .any,as,vs,x,r,o,hv,h,_=>by simp[vS] at h
 | .deep _ _ true,as,vs,x,r,o,hv,h,_=>by simp[vS] at h
 | .deep te ti false,as,vs,x,r,o,hv,h,hdn=>by
  simp only[vS] at h
  unfold JV at h
  split at h
  case h_2=>simp at h
  rename_i i r'
  split at h
  case h_2=>simp at h
  rename_i te' ti' q xs st hH
  obtain⟨hc,he⟩:=ai h
  cases he
  simp only[al] at hc
  have c1:=ae hc.1
  have c2:=ae hc.2
  subst c1 c2
  simp only[aH] at hv
  obtain⟨v,u,rfl,h1,h2⟩:=hv
  simp only[VR] at h1
  obtain⟨_,l,hm,h3⟩:=h1
  have hv':=h3 _ _ _ _ _ hH
  subst hv'
  have hd:st.done (List.length x)=true:=by
   simp only[oA,hH,Bool.and_true] at hdn
   exact hdn
  exact⟨[_],u,[⟨l,.deep te ti false x⟩],rfl,⟨l,rfl,rfl⟩,h2,.own hm .nil,by intro q hq;simp at hq;subst hq;exact LC hd (gX R hH hm)⟩
theorem PJ (R:Rel μ S H B w0 w)(hS:∀ b o,S b=some o→S' b=some o)(hrow:dP μ S' Hv)(sub:∀ i o,Hv i=some o→H i=some o)
  {t:eG} {a:AV} {v:Value} {x:t.T} {o:List Nat} (hv:VR μ S H a v) (h:Rt Hv H t a=some (x,o)) (hdn:oA H o=true) :
  ∃ os,lz S' t x v os∧OI μ os o∧∀ q∈os,gh S w B q:=by
 unfold Rt at h
 cases hb:(t.isAgg == a.isAgg) with
 | false=>rw[hb] at h;simp at h
 | true=>
  rw[hb] at h
  simp only[cond_true] at h
  have hta:t.isAgg=a.isAgg:=by simpa using hb
  split at h
  ·rename_i y o' hd
   cases h
   unfold lz
   rw[hta]
   cases ha:a.isAgg with
   | true=>
    simp only[if_true]
    cases a<;>simp only[AV.isAgg,reduceCtorEq] at ha
    simp only[VR] at hv
    obtain⟨vs,rfl,hvs⟩:=hv
    obtain⟨c,u,os,e1,k1,k2,k3,k4⟩:=rH R hS hrow sub t _ vs.toList _ [] _ hvs hd hdn
    simp only[aH] at k2
    subst k2
    rw[dC] at e1
    exact⟨os,⟨vs,rfl,by rw[e1];exact k1⟩,k3,k4⟩
   | false=>
    simp only[Bool.false_eq_true,if_false]
    have base:aH μ S H a.inside [v]:=by
     cases a<;>first|(simp[AV.isAgg] at ha;done)|(simp only[AV.inside,aH];exact⟨v,[],rfl,hv,rfl⟩)
    obtain⟨c,u,os,e1,k1,k2,k3,k4⟩:=rH R hS hrow sub t _ [v] _ [] _ base hd hdn
    simp only[aH] at k2
    subst k2
    rw[dC] at e1
    exact⟨os,by rw[e1];exact k1,k3,k4⟩
  ·simp at h
theorem rL (R:Rel μ S H B w0 w)(hS:∀ b o,S b=some o→S' b=some o)(hrow:dP μ S' Hv)(sub:∀ i o,Hv i=some o→H i=some o) :
  ∀ {rs:List eG} {as:List AV} {vs:List Value} {y:zu rs} {o:List Nat},aH μ S H as vs→vQ Hv H rs as=some (y,o)→oA H o=true →
  ∃ os,ER S' rs y vs os∧OI μ os o∧(∀ q∈os,gh S w B q)∧vs.length=rs.length
 | [],[],vs,y,o,hv,h,_=>by
  simp only[aH] at hv;subst hv
  simp only[vQ,ba,dp] at h
  obtain⟨_,rfl⟩:=h
  exact⟨[],⟨rfl,rfl⟩,.nil,by simp,rfl⟩
 | [],_::_,vs,y,o,hv,h,_=>by simp[vQ] at h
 | t::ts,[],vs,y,o,hv,h,_=>by simp[vQ] at h
 | t::ts,a::as,vs,y,o,hv,h,hdn=>by
  simp only[vQ] at h
  split at h
  ·rename_i x o1 h1
   split at h
   ·rename_i z o2 h2
    cases h
    simp only[aH] at hv
    obtain⟨v,r,rfl,k1,k2⟩:=hv
    obtain⟨d1,d2⟩:=rX hdn
    obtain⟨os1,a1,a2,a3⟩:=PJ R hS hrow sub k1 h1 d1
    obtain⟨os2,b1,b2,b3,b4⟩:=rL R hS hrow sub k2 h2 d2
    refine⟨os1++os2,⟨v,r,os1,os2,rfl,rfl,a1,b1⟩,a2.append b2,fun q hq=>?_,by simp[b4]⟩
    rcases bm.1 hq with h|h
    ·exact a3 q h
    ·exact b3 q h
   ·simp at h
  ·simp at h
theorem K4 {w w':World}{S S':ar}{μ':Mu}{H':Heap}{L':List Nat}{v:AV}{u:Value}{rs:List eG}{y:zu rs}(R':Rel μ' S' H' w.heap.size w w')
  (C':Carry w.heap.size (fun _=>none) S (fun _=>none) μ' S' H') (k1:VR μ' S' H' v u) (ht:iC rs (some (v,H',L'))=some y) :
  ∃ us S' os,Ending.returned u = .returned (jf us)∧Below w.heap.size w w'∧(∀ b o,S b=some o→S' b=some o) ∧
   (∀ b o,S' b=some o→w'.heap[b]? = some o)∧(∀ b,S' b≠none→S b≠none∨w.heap.size≤b)∧ER S' rs y us os ∧
   (∀ o∈os,gh S' w' w.heap.size o)∧os.Pairwise AU:=by
 simp only[iC] at ht
 obtain⟨hnp,ht⟩:=cu ht
 split at ht
 case h_2=>simp at ht
 rename_i y' o hd
 obtain⟨hdis,rfl⟩:=ai ht
 simp only[al] at hdis
 obtain⟨hdis,hdn⟩:=hdis
 have hparts:∃ us,aH μ' S' H' (v.parts rs.length) us∧(us.length=rs.length→u=jf us):=by
  have one:aH μ' S' H' [v] [u]:=by simp only[aH];exact⟨u,[],rfl,k1,rfl⟩
  cases v with
  | uo as=>
   simp only[AV.parts]
   cases hb:ap rs.length 1 with
   | true=>exact⟨[u],one,fun _=>rfl⟩
   | false=>
    simp only[VR] at k1
    obtain⟨x,rfl,k2⟩:=k1
    refine⟨x.toList,k2,fun hl=>?_⟩
    have hne:rs.length≠1:=fun e=>by rw[e] at hb;simp at hb
    match hx:x.toList with
    | []=>simp only[jf];rw[← hx]
    | [z]=>rw[hx] at hl;simp at hl;omega
    | z1::z2::l=>simp only[jf];rw[← hx]
  | _=>exact⟨[u],one,fun _=>rfl⟩
 obtain⟨us,hus,hu⟩:=hparts
 cases hno:rY rs with
 | false=>
  rw[hno] at hd
  obtain⟨os,q1,q2,q3,q4⟩:=rL (S':=S') R' (fun b o h=>h) dP.no (fun i o h=>by simp at h) hus hd hdn
  exact⟨us,S',os,by rw[hu q4],R'.below,C'.sub,R'.st,fun b hb=>C'.st b hb,q1,q3,q2.apart R' hdis⟩
 | true=>
  rw[hno] at hd
  obtain⟨os,q1,q2,q3,q4⟩:=rL (S':=Mo w.heap.size S' w') R' (uP R') (Ot R' (fun _ _ h=>h)) (fun i o h=>h) hus hd hdn
  have:=vj hno q1
  subst this
  refine⟨us,Mo w.heap.size S' w',[],by rw[hu q4],R'.below,fun b o h=>uP R' b o (C'.sub b o h),fun b o h=>YL R' b o h,fun b hb=>?_,q1,by simp,.nil⟩
  unfold Mo at hb
  cases hble:eh w.heap.size b with
  | true=>exact .inr (Nat.le_of_ble_eq_true hble)
  | false=>rw[hble] at hb;exact C'.st b hb
theorem Iv {C:Cons}{Hn:Hints}(hC:bX P C){lf n k:Nat}{c:aX}(h:∀ x y,c.f x=some y→top P C Hn lf n k c.ps c.rs x=some y):c.OK P k:=by
 intro x y hf S w vs hst hpre ha
 have ht:=h x y hf
 unfold top at ht
 cases he:bA P C Hn lf n 0 (.fn k) (cJ c.ps x) (fun _=>none) [] with
 | none=>rw[he] at ht;simp[iC] at ht
 | some p=>
  obtain⟨v,H',L'⟩:=p
  rw[he] at ht
  have R0:Rel (fun _=>none) S (fun _=>none) w.heap.size w w:=⟨Below.refl _ _,dd _,hst,fun _=>rfl,fun _ _ h=>by simp at h,fun _ _ _ _ _ _ h=>by simp at h,fun _ _ h=>by simp at h,hpre⟩
  refine ul.mono (c:=.fn k) ((nk hC n 0 (.fn k) _ _ _ _ _ _ he (fun _ h=>absurd rfl h)).2 (fun _=>none) S w.heap.size w w vs.toArray R0 (by simpa using mg ha)) ?_
  rintro e w' ⟨μ',S',q0,R',C'⟩
  obtain⟨u,rfl,k1⟩:=q0.val (by
   have ht':=ht
   simp only[iC] at ht'
   exact (cu ht').1)
  exact K4 R' C' k1 ht
end
end Go.Sy
