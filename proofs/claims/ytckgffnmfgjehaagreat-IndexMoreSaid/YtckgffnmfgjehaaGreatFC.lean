/- Sym12, Sym12b, Sym12c, Sym13, Sym14, Sym15. -/
import Derived.Test.YtckgffnmfgjehaaGreatFB
import Derived.RangeFuncRecord
namespace Go.Sy
open Go Go.RowKit
set_option linter.unusedSimpArgs false
set_option linter.unusedVariables false
def mem (L:List Nat)(i:Nat):Bool:=L.any (Nat.beq i)
theorem mem_iff {L:List Nat}{i:Nat}:mem L i=true↔i∈L:=by
 unfold mem
 rw[List.any_eq_true]
 exact⟨fun⟨x,h1,h2⟩=>by rw[Nat.eq_of_beq_eq_true h2];exact h1,fun h=>⟨i,h,by simp⟩⟩
def distinct:List Nat→Bool
 | []=>true
 | i::l=>!(l.any fun j=>Nat.beq i j)&&distinct l
mutual
def AV.aZ (L:List Nat):AV→Bool
 | .ptr i _=>mem L i
 | .xG i _ _ _=>mem L i
 | .sl i _=>mem L i
 | .sub i _ _ _=>mem L i
 | .Gb i _=>mem L i
 | .fG i=>mem L i
 | .mp i=>mem L i
 | .uz i=>mem L i
 | .pJ i _ _=>mem L i
 | .b7 i _ _ _ _=>mem L i
 | .FQ i _ _ _=>mem L i
 | .fn _ a b=>eD L a&&eD L b
 | .wL _ a=>a.aZ L
 | .agg l=>eD L l
 | .pI l=>eD L l
 | _=>true
def eD (L:List Nat):List AV→Bool
 | []=>true
 | a::l=>a.aZ L&&eD L l
end
def clean (L:List Nat)(a:AV):AV:=cond (a.aZ L) a .ak
def yo (L:List Nat):aO→aO
 | .box t cs=>.box t (cs.map (clean L))
 | .row t e g xs=>.row t e g xs
 | .de s pos=>.de s pos
 | .loop k r st ts=>.loop k r st (ts.map (clean L))
 | .map es=>.map es
 | .cg es=>.cg es
 | .aL t ti q xs st=>.aL t ti q xs st
inductive Pl where
 | t (slot:Nat)
 | c (box off:Nat)
structure fB where
 at':Pl
 id:Nat
 te:TypeId
 e:Ty
structure Hint where
 keep:List Nat
 ids:List Nat
 rows:List fB
structure mZ where
 top:Hint
 out:Option Hint
 ret:Option Hint
 dD:List (Nat×Nat×Nat):=[]
def Ro:List (Nat×AV)→Nat→AV
 | [],_=>.ak
 | (t,v)::l,q=>cond (Nat.beq q t) v (Ro l q)
def Et:List (Nat×Option aO)→Heap
 | [],_=>none
 | (i,o)::l,q=>cond (Nat.beq q i) o (Et l q)
structure Src where
 id:Nat
 src:Option Nat
 te:TypeId
 e:Ty
 xs:List e.T
def Fu:List AV→Nat→AV
 | [],_=>.ak
 | a::_,0=>a
 | _::l,n+1=>Fu l n
def Ew:Option aO→Nat→AV
 | some (.box _ cs),off=>Fu cs off
 | _,_=>.ak
def St.nD (σ:St):Pl→AV
 | .t s=>σ.val (.tmp s)
 | .c i off=>Ew (σ.heap i) off
def zf:List fB→List (Nat×AV)
 | []=>[]
 | r::rs=>match r.at' with
  | .t s=>(s,AV.sl r.id 0)::zf rs
  | .c _ _=>zf rs
def FB:List fB→Nat→List AV→List AV
 | [],_,cs=>cs
 | r::rs,i,cs=>match r.at' with
  | .t _=>FB rs i cs
  | .c b off=>FB rs i (cond (Nat.beq b i) (cs.set off (AV.sl r.id 0)) cs)
def jN (rs:List fB)(L:List Nat)(i:Nat):aO→aO
 | .box t cs=>.box t (FB rs i (cs.map (clean L)))
 | o=>yo L o
def ye (σ:St)(r:fB):Option Src:=
 match σ.nD r.at' with
 | .lit (.slice none 0 0)=>some ⟨r.id,none,r.te,r.e,[]⟩
 | .sl a g=>match σ.heap a with
  | some (.row te e g' xs)=>cond (Nat.beq g g'&&Nat.beq te r.te) (match eB (e:=e) (e':=r.e) xs with
   | some ys=>some ⟨r.id,some a,r.te,r.e,ys⟩
   | none=>none) none
  | _=>none
 | _=>none
def zI (σ:St):List fB→Option (List Src)
 | []=>some []
 | r::rs=>match ye σ r,zI σ rs with
  | some s,some l=>some (s::l)
  | _,_=>none
def Src.list (l:List Src):List Nat:=l.filterMap (·.src)
def head (od:List Nat)(h:Hint)(σ:St):Option St:=
 match zI σ h.rows with
 | none=>none
 | some l=>cond (distinct (Src.list l)&&distinct (l.map (·.id))&&l.all (fun s=>!mem (od++h.ids) s.id)&&(Src.list l).all (fun a=>!mem (od++h.ids) a))
   (some ⟨σ.nt,Ro (zf h.rows++h.keep.map (fun t=>(t,clean (od++h.ids) (σ.val (.tmp t))))),
    Et (l.map (fun s=>(s.id,some (.row s.te s.e 0 s.xs)))++(od++h.ids).map (fun i=>(i,(σ.heap i).map (jN h.rows (od++h.ids) i)))),
    (od++h.ids)++l.map (·.id)⟩) none
section
variable [aq]{N:ar}{Dt:Bool×List Deferred}{w w0:World}{μ μ' μo:Mu}{S So:ar}{H H' Ho:Heap}{B:Nat}{L:List Nat}{σ σ':St}{a:Act}
structure Ag (L:List Nat)(μ:Mu)(H:Heap)(μ':Mu)(H':Heap):Prop where
 mu:∀ i∈L,μ' i=μ i
 ob:∀ i∈L,∀ o,o.mv=true→H' i=some o→H i=some o
omit [aq] in
theorem Ag.row {L:List Nat}(h:Ag L μ H μ' H'){i:Nat}(hi:i∈L){t:TypeId}{e:Ty}{g:Nat}{xs:List e.T}(hr:H' i=some (.row t e g xs)):H i=some (.row t e g xs):=h.ob i hi _ rfl hr
omit [aq] in
theorem Ag.aL {L:List Nat}(h:Ag L μ H μ' H'){i:Nat}(hi:i∈L){t ti q:Nat}{xs:List FT}{st:eO}(hr:H' i=some (.aL t ti q xs st)):H i=some (.aL t ti q xs st):=h.ob i hi _ rfl hr
omit [aq] in
theorem Ag.still {L:List Nat}(h:Ag L μ H μ' H'){i:Nat}(hi:i∈L)(h2:∀ o,H i=some o→o.mv=false):∀ o,H' i=some o→o.mv=false:=by
 intro o ho
 cases hm:o.mv with
 | false=>rfl
 | true=>rw[← hm];exact h2 o (h.ob i hi o hm ho)
omit [aq] in
theorem CS {rs:List fB}{L:List Nat}{i:Nat}{o:Option aO}{p:aO}(hp:p.mv=true)(hr:o.map (jN rs L i)=some p):o=some p:=by
 cases o with
 | none=>simp at hr
 | some o=>
  simp only[Option.map_some,Option.some.injEq] at hr
  subst hr
  cases o<;>first|rfl|simp[jN,yo,aO.mv] at hp
omit [aq] in
mutual
theorem Dn (h:Ag L μ H μ' H'):∀ (a:AV) (v:Value),a.aZ L=true→VR μ S H a v→VR μ' S H' a v
 | .lit _,v,_,hr=>by simp only[VR] at hr ⊢;exact hr
 | .ptr i off,v,hl,hr=>by
  simp only[AV.aZ] at hl
  have hi:=mem_iff.1 hl
  simp only[VR] at hr ⊢
  obtain⟨b,c,h1,h2,h3⟩:=hr
  exact⟨b,c,by rw[h.mu i hi];exact h1,h.still hi h2,h3⟩
 | .Aq e x off,v,_,hr=>by simp only[VR] at hr ⊢;exact hr
 | .xG i g k off,v,hl,hr=>by
  simp only[AV.aZ] at hl
  have hi:=mem_iff.1 hl
  simp only[VR] at hr ⊢
  obtain⟨h0,l,h1,h2⟩:=hr
  exact⟨h0,l,by rw[h.mu i hi];exact h1,fun t e gc xs hH=>h2 t e gc xs (h.row hi hH)⟩
 | .cont e xs,v,_,hr=>by simp only[VR] at hr ⊢;exact hr
 | .DS i xs,v,_,hr=>by simp only[VR] at hr ⊢;exact hr
 | .sl i g,v,hl,hr=>by
  simp only[AV.aZ] at hl
  have hi:=mem_iff.1 hl
  simp only[VR] at hr ⊢
  obtain⟨h0,l,h1,h2⟩:=hr
  exact⟨h0,l,by rw[h.mu i hi];exact h1,fun t e gc xs hH=>h2 t e gc xs (h.row hi hH)⟩
 | .sub i g lo hi,v,hl,hr=>by
  simp only[AV.aZ] at hl
  have hi:=mem_iff.1 hl
  simp only[VR] at hr ⊢
  obtain⟨h0,l,h1,h2⟩:=hr
  exact⟨h0,l,by rw[h.mu i hi];exact h1,fun t e gc xs hH=>h2 t e gc xs (h.row hi hH)⟩
 | .Gb i n,v,hl,hr=>by
  simp only[AV.aZ] at hl
  have hi:=mem_iff.1 hl
  simp only[VR] at hr ⊢
  obtain⟨b,c,h1,h2,h3⟩:=hr
  exact⟨b,c,by rw[h.mu i hi];exact h1,h.still hi h2,h3⟩
 | .fG i,v,hl,hr=>by
  simp only[AV.aZ] at hl
  have hi:=mem_iff.1 hl
  simp only[VR] at hr ⊢
  obtain⟨b,c,h1,h2,h3⟩:=hr
  exact⟨b,c,by rw[h.mu i hi];exact h1,h.still hi h2,h3⟩
 | .mp i,v,hl,hr=>by
  simp only[AV.aZ] at hl
  have hi:=mem_iff.1 hl
  simp only[VR] at hr ⊢
  obtain⟨b,c,h1,h2,h3⟩:=hr
  exact⟨b,c,by rw[h.mu i hi];exact h1,h.still hi h2,h3⟩
 | .fn f fi ca,v,hl,hr=>by
  simp only[AV.aZ,Bool.and_eq_true] at hl
  simp only[VR] at hr ⊢
  obtain⟨x,y,h1,h2,h3⟩:=hr
  exact⟨x,y,h1,qT h fi _ hl.1 h2,qT h ca _ hl.2 h3⟩
 | .agg cs,v,hl,hr=>by
  simp only[AV.aZ] at hl
  simp only[VR] at hr ⊢
  obtain⟨x,h1,h2⟩:=hr
  exact⟨x,h1,qT h cs _ hl h2⟩
 | .pI cs,v,hl,hr=>by
  simp only[AV.aZ] at hl
  simp only[VR] at hr ⊢
  obtain⟨x,h1,h2⟩:=hr
  exact⟨x,h1,qT h cs _ hl h2⟩
 | .wL t a,v,hl,hr=>by
  simp only[AV.aZ] at hl
  simp only[VR] at hr ⊢
  obtain⟨u,h1,h2⟩:=hr
  exact⟨u,h1,Dn h a _ hl h2⟩
 | .dB _,_,_,hr=>by simp only[VR] at hr
 | .xM,_,_,hr=>by simpa only [VR] using hr
 | .uz i,v,hl,hr=>by
  simp only[AV.aZ] at hl
  have hi:=mem_iff.1 hl
  simp only[VR] at hr ⊢
  obtain⟨h0,l,h1,h2⟩:=hr
  exact⟨h0,l,by rw[h.mu i hi];exact h1,fun t ti q xs st hH=>h2 t ti q xs st (h.aL hi hH)⟩
 | .pJ i k o,v,hl,hr=>by
  simp only[AV.aZ] at hl
  have hi:=mem_iff.1 hl
  simp only[VR] at hr ⊢
  obtain⟨h0,l,h1,h2⟩:=hr
  exact⟨h0,l,by rw[h.mu i hi];exact h1,fun t ti q xs st hH=>h2 t ti q xs st (h.aL hi hH)⟩
 | .b7 i q k lo h',v,hl,hr=>by
  simp only[AV.aZ] at hl
  have hi:=mem_iff.1 hl
  simp only[VR] at hr ⊢
  obtain⟨h0,l,h1,h2⟩:=hr
  exact⟨h0,l,by rw[h.mu i hi];exact h1,fun t ti q xs st hH=>h2 t ti q xs st (h.aL hi hH)⟩
 | .FQ i q k p,v,hl,hr=>by
  simp only[AV.aZ] at hl
  have hi:=mem_iff.1 hl
  simp only[VR] at hr ⊢
  obtain⟨h0,l,h1,h2⟩:=hr
  exact⟨h0,l,by rw[h.mu i hi];exact h1,fun t ti q xs st hH=>h2 t ti q xs st (h.aL hi hH)⟩
 | .ak,_,_,_=>by simp only[VR]
theorem qT (h:Ag L μ H μ' H'):∀ (as:List AV) (vs:List Value),eD L as=true→aE μ S H as vs→aE μ' S H' as vs
 | [],vs,_,hr=>by simp only[aE] at hr ⊢;exact hr
 | a::as,vs,hl,hr=>by
  simp only[eD,Bool.and_eq_true] at hl
  simp only[aE] at hr ⊢
  obtain⟨v,r,h1,h2,h3⟩:=hr
  exact⟨v,r,h1,Dn h a v hl.1 h2,qT h as r hl.2 h3⟩
end
omit [aq] in
theorem x9 (h:Ag L μ H μ' H'){a:AV}{v:Value}(hr:VR μ S H a v):VR μ' S H' (clean L a) v:=by
 unfold clean
 cases hl:a.aZ L with
 | true=>exact Dn h a v hl hr
 | false=>simp only[cond_false,VR]
omit [aq] in
theorem oa (h:Ag L μ H μ' H'):∀ {as:List AV} {vs:List Value},aE μ S H as vs→aE μ' S H' (as.map (clean L)) vs
 | [],vs,hr=>by simp only[aE] at hr;subst hr;simp[aE]
 | a::as,vs,hr=>by
  simp only[aE] at hr
  obtain⟨v,r,rfl,h2,h3⟩:=hr
  simp only[List.map_cons,aE]
  exact⟨v,r,rfl,x9 h h2,oa h h3⟩
omit [aq] in
mutual
theorem pR (h:∀ i,μ i≠none→i∈L):∀ (a:AV) (v:Value),VR μ S H a v→a.aZ L=true
 | .lit _,v,_=>rfl
 | .ptr i off,v,hr=>by
  simp only[VR] at hr
  obtain⟨b,c,h1,_⟩:=hr
  simp only[AV.aZ];exact mem_iff.2 (h i (by rw[h1];simp))
 | .Aq e x off,v,_=>rfl
 | .xG i g k off,v,hr=>by
  simp only[VR] at hr
  obtain⟨_,l,h1,_⟩:=hr
  simp only[AV.aZ];exact mem_iff.2 (h i (by rw[h1];simp))
 | .cont e xs,v,_=>rfl
 | .DS i xs,v,_=>rfl
 | .sl i g,v,hr=>by
  simp only[VR] at hr
  obtain⟨_,l,h1,_⟩:=hr
  simp only[AV.aZ];exact mem_iff.2 (h i (by rw[h1];simp))
 | .sub i g lo hi,v,hr=>by
  simp only[VR] at hr
  obtain⟨_,l,h1,_⟩:=hr
  simp only[AV.aZ];exact mem_iff.2 (h i (by rw[h1];simp))
 | .Gb i n,v,hr=>by
  simp only[VR] at hr
  obtain⟨b,c,h1,_⟩:=hr
  simp only[AV.aZ];exact mem_iff.2 (h i (by rw[h1];simp))
 | .fG i,v,hr=>by
  simp only[VR] at hr
  obtain⟨b,c,h1,_⟩:=hr
  simp only[AV.aZ];exact mem_iff.2 (h i (by rw[h1];simp))
 | .mp i,v,hr=>by
  simp only[VR] at hr
  obtain⟨b,c,h1,_⟩:=hr
  simp only[AV.aZ];exact mem_iff.2 (h i (by rw[h1];simp))
 | .uz i,v,hr=>by
  simp only[VR] at hr
  obtain⟨_,l,h1,_⟩:=hr
  simp only[AV.aZ];exact mem_iff.2 (h i (by rw[h1];simp))
 | .pJ i k o,v,hr=>by
  simp only[VR] at hr
  obtain⟨_,l,h1,_⟩:=hr
  simp only[AV.aZ];exact mem_iff.2 (h i (by rw[h1];simp))
 | .b7 i q k lo h',v,hr=>by
  simp only[VR] at hr
  obtain⟨_,l,h1,_⟩:=hr
  simp only[AV.aZ];exact mem_iff.2 (h i (by rw[h1];simp))
 | .FQ i q k p,v,hr=>by
  simp only[VR] at hr
  obtain⟨_,l,h1,_⟩:=hr
  simp only[AV.aZ];exact mem_iff.2 (h i (by rw[h1];simp))
 | .fn f fi ca,v,hr=>by
  simp only[VR] at hr
  obtain⟨x,y,h1,h2,h3⟩:=hr
  simp only[AV.aZ,Bool.and_eq_true]
  exact⟨jx h fi _ h2,jx h ca _ h3⟩
 | .agg cs,v,hr=>by
  simp only[VR] at hr
  obtain⟨x,_,h2⟩:=hr
  simp only[AV.aZ];exact jx h cs _ h2
 | .pI cs,v,hr=>by
  simp only[VR] at hr
  obtain⟨x,_,h2⟩:=hr
  simp only[AV.aZ];exact jx h cs _ h2
 | .wL t a,v,hr=>by
  simp only[VR] at hr
  obtain⟨u,_,h2⟩:=hr
  simp only[AV.aZ];exact pR h a _ h2
 | .dB _,_,hr=>by simp only[VR] at hr
 | .xM,_,_=>rfl
 | .ak,_,_=>rfl
theorem jx (h:∀ i,μ i≠none→i∈L):∀ (as:List AV) (vs:List Value),aE μ S H as vs→eD L as=true
 | [],vs,_=>rfl
 | a::as,vs,hr=>by
  simp only[aE] at hr
  obtain⟨v,r,_,h2,h3⟩:=hr
  simp only[eD,Bool.and_eq_true]
  exact⟨pR h a v h2,jx h as r h3⟩
end
omit [aq] in
theorem Ig {μ:Mu}{S:ar}{H:Heap}{f:Nat→Value}:∀ (l:List (Nat×AV)),(∀ p∈l,VR μ S H p.2 (f p.1))→∀ t,VR μ S H (Ro l t) (f t)
 | [],_,t=>by simp only[Ro,VR]
 | (q,v)::l,h,t=>by
  simp only[Ro]
  cases hb:Nat.beq t q with
  | true=>
   have:=Nat.eq_of_beq_eq_true hb
   subst this
   exact h (t,v) (by simp)
  | false=>exact Ig l (fun p hp=>h p (by simp[hp])) t
omit [aq] in
theorem DM {f:Nat→Option aO}:∀ (l:List Nat) (q:Nat),Et (l.map fun i=>(i,f i)) q=cond (mem l q) (f q) none
 | [],q=>rfl
 | i::l,q=>by
  simp only[List.map_cons,Et]
  cases hb:Nat.beq q i with
  | true=>
   have:=Nat.eq_of_beq_eq_true hb
   subst this
   have:mem (q::l) q=true:=mem_iff.2 (by simp)
   rw[this];rfl
  | false=>
   have hne:q≠i:=fun e=>by subst e;simp at hb
   rw[DM l q]
   have:mem (i::l) q=mem l q:=by
    rw[Bool.eq_iff_iff,mem_iff,mem_iff];simp[hne]
   rw[this];rfl
omit [aq] in
theorem DC {g:Src→Option aO}{rest:List (Nat×Option aO)}:∀ (l:List Src) (s:Src),s∈l→distinct (l.map (·.id))=true→Et (l.map (fun s=>(s.id,g s))++rest) s.id=g s
 | [],s,h,_=>by simp at h
 | p::l,s,h,hd=>by
  simp only[List.map_cons,distinct,Bool.and_eq_true,Bool.not_eq_true'] at hd
  simp only[List.map_cons,List.cons_append,Et]
  rcases List.mem_cons.1 h with rfl|h
  ·simp
  ·have hne:Nat.beq s.id p.id=false:=by
    cases hb:Nat.beq s.id p.id with
    | false=>rfl
    | true=>
     have e:=Nat.eq_of_beq_eq_true hb
     have:=List.any_eq_false.1 hd.1 s.id (List.mem_map.2 ⟨s,h,rfl⟩)
     rw[e] at this;simp at this
   rw[hne]
   exact DC l s h hd.2
omit [aq] in
theorem yS {g:Src→Option aO}{rest:List (Nat×Option aO)}:∀ (l:List Src) (q:Nat),q∉l.map (·.id)→Et (l.map (fun s=>(s.id,g s))++rest) q=Et rest q
 | [],q,_=>rfl
 | p::l,q,h=>by
  simp only[List.map_cons,List.mem_cons,not_or] at h
  simp only[List.map_cons,List.cons_append,Et]
  have hne:Nat.beq q p.id=false:=by
   cases hb:Nat.beq q p.id with
   | false=>rfl
   | true=>exact absurd (Nat.eq_of_beq_eq_true hb) h.1
  rw[hne]
  exact yS l q h.2
def Src.loc (μ:Mu)(s:Src):Option Lc:=
 match s.src with
 | none=>some ⟨none,0,aP⟩
 | some a=>μ a
def TU (l:List Src)(L:List Nat)(μ:Mu):Mu:=fun q=>
 match l.find? (fun s=>Nat.beq s.id q) with
 | some s=>s.loc μ
 | none=>cond (mem L q) (μ q) none
omit [aq] in
theorem Md:∀ (l:List Src) (s:Src),s∈l→distinct (l.map (·.id))=true→TU l L μ s.id=s.loc μ:=by
 intro l s hs hd
 unfold TU
 have:l.find? (fun p=>Nat.beq p.id s.id)=some s:=by
  induction l with
  | nil=>simp at hs
  | cons p l ih=>
   simp only[List.map_cons,distinct,Bool.and_eq_true,Bool.not_eq_true'] at hd
   rcases List.mem_cons.1 hs with rfl|hs
   ·simp
   ·have hne:Nat.beq p.id s.id=false:=by
     cases hb:Nat.beq p.id s.id with
     | false=>rfl
     | true=>
      have e:=Nat.eq_of_beq_eq_true hb
      have:=List.any_eq_false.1 hd.1 s.id (List.mem_map.2 ⟨s,hs,rfl⟩)
      rw[e] at this;simp at this
    rw[List.find?_cons,hne]
    exact ih hs hd.2
 rw[this]
omit [aq] in
theorem Gg {l:List Src}{q:Nat}(h:q∉l.map (·.id)):TU l L μ q=cond (mem L q) (μ q) none:=by
 unfold TU
 have:l.find? (fun p=>Nat.beq p.id q)=none:=by
  rw[List.find?_eq_none]
  intro p hp hb
  exact h (List.mem_map.2 ⟨p,hp,Nat.eq_of_beq_eq_true hb⟩)
 rw[this]
structure Mt (H:Heap)(s:Src):Prop where
 nil:s.src=none→s.xs=[]
 row:∀ a,s.src=some a→∃ g,H a=some (.row s.te s.e g s.xs)
omit [aq] in
theorem uZ:∀ {as:List AV} {vs:List Value},aE μ S H as vs→∀ (n:Nat),VR μ S H (Fu as n) (vs.getD n undef)
 | [],vs,h,n=>by simp only[Fu,VR]
 | a::as,vs,h,n=>by
  simp only[aE] at h
  obtain⟨v,r,rfl,h1,h2⟩:=h
  cases n with
  | zero=>simpa [Fu] using h1
  | succ n=>simpa [Fu] using uZ h2 n
theorem I9 (A:AR N Dt μ S σ a)(R:Rel μ S σ.heap B w0 w)(p:Pl):∃ v,VR μ S σ.heap (σ.nD p) v:=by
 cases p with
 | t s=>exact⟨_,A.val (.tmp s)⟩
 | c i off=>
  simp only[St.nD]
  cases ho:σ.heap i with
  | none=>exact⟨undef,by simp only[Ew,VR]⟩
  | some o=>
   cases o with
   | box t cs=>
    obtain⟨l,_,b,vs,_,_,_,_,h5⟩:=R.obj i _ ho
    exact⟨_,uZ h5 off⟩
   | _=>exact⟨undef,by simp only[Ew,VR]⟩
omit [aq] in
theorem Iy {r:fB}{s:Src}{v:Value}(hv:VR μ S σ.heap (σ.nD r.at') v)(h:ye σ r=some s) :
  s.id=r.id∧Mt σ.heap s∧∃ l,s.loc μ=some l∧∀ v,VR μ S σ.heap (σ.nD r.at') v→v = .slice l.addr s.xs.length l.cap:=by
 unfold ye at h
 split at h
 ·rename_i hx
  cases h
  refine⟨rfl,⟨fun _=>rfl,fun a h=>by simp at h⟩,⟨none,0,aP⟩,rfl,fun v hv=>?_⟩
  rw[hx] at hv
  simp only[VR] at hv
  exact hv
 ·rename_i i g hx
  split at h
  ·rename_i te e g' xs hH
   cases hb:(Nat.beq g g'&&Nat.beq te r.te) with
   | false=>rw[hb] at h;simp at h
   | true=>
    rw[hb] at h
    simp only[cond_true] at h
    simp only[Bool.and_eq_true] at hb
    have hgg:=Nat.eq_of_beq_eq_true hb.1
    have htt:=Nat.eq_of_beq_eq_true hb.2
    split at h
    ·rename_i ys hc
     obtain⟨he,hys⟩:=bN hc
     obtain⟨sl,id0,te0,e0⟩:=r
     simp only at htt he hys
     subst htt
     subst he
     simp only at hys
     subst hys
     cases h
     have hv':=hv
     rw[hx] at hv'
     simp only[VR] at hv'
     obtain⟨_,l,hm,h3⟩:=hv'
     refine⟨rfl,⟨fun h=>by simp at h,fun a h=>by cases h;exact⟨g',hH⟩⟩,l,hm,fun v hv=>?_⟩
     rw[hx] at hv
     simp only[VR] at hv
     obtain⟨_,l',hm',h3'⟩:=hv
     rw[hm] at hm'
     cases hm'
     exact (h3' _ _ _ _ hH).2 hgg
    ·simp at h
  ·simp at h
 ·simp at h
theorem Eg (A:AR N Dt μ S σ a)(R:Rel μ S σ.heap B w0 w):∀ {rs:List fB} {l:List Src},zI σ rs=some l →
  (∀ s∈l,Mt σ.heap s∧(s.loc μ).isSome=true)∧(∀ r∈rs,∃ s∈l,s.id=r.id∧∃ lc,s.loc μ=some lc∧∀ v,VR μ S σ.heap (σ.nD r.at') v→v = .slice lc.addr s.xs.length lc.cap)
 | [],l,h=>by simp only[zI,Option.some.injEq] at h;subst h;simp
 | r::rs,l,h=>by
  simp only[zI] at h
  split at h
  ·rename_i s l' h1 h2
   cases h
   obtain⟨v,hv⟩:=I9 A R r.at'
   obtain⟨k1,k2,lc,k3,k4⟩:=Iy hv h1
   obtain⟨q1,q2⟩:=Eg A R h2
   refine⟨fun p hp=>?_,fun p hp=>?_⟩
   ·rcases List.mem_cons.1 hp with rfl|hp
    ·exact⟨k2,by rw[k3];rfl⟩
    ·exact q1 p hp
   ·rcases List.mem_cons.1 hp with rfl|hp
    ·exact⟨s,by simp,k1,lc,k3,k4⟩
    ·obtain⟨s',a1,a2⟩:=q2 p hp
     exact⟨s',by simp[a1],a2⟩
  ·simp at h
omit [aq] in
theorem yM {i:Nat}{vs:List Value}:∀ (rs:List fB) {cs:List AV},(∀ r∈rs,∀ off,r.at' = .c i off→∀ v,vs[off]? = some v→VR μ S H (.sl r.id 0) v)→aE μ S H cs vs→aE μ S H (FB rs i cs) vs
 | [],cs,_,h=>h
 | r::rs,cs,hr,h=>by
  have ih:∀ {cs:List AV},aE μ S H cs vs→aE μ S H (FB rs i cs) vs:=fun h=>yM rs (fun p hp=>hr p (by simp[hp])) h
  simp only[FB]
  split
  ·exact ih h
  ·rename_i b off hat
   cases hb:Nat.beq b i with
   | false=>exact ih h
   | true=>
    have e:=Nat.eq_of_beq_eq_true hb
    subst e
    refine ih ?_
    simp only[cond_true]
    cases hv:vs[off]? with
    | some v=>
     have:=vv h off _ v (hr r (by simp) off hat v hv)
     have e2:vs.set off v=vs:=by
      obtain⟨hlt,he⟩:=List.getElem?_eq_some_iff.1 hv
      rw[← he];exact List.set_getElem_self hlt
     rw[e2] at this
     exact this
    | none=>
     have hl:vs.length≤off:=List.getElem?_eq_none_iff.1 hv
     rw[List.set_eq_of_length_le (by rw[aQ h];exact hl)]
     exact h
omit [aq] in
theorem rZ {p:Nat×AV}:∀ {rs:List fB},p∈zf rs→∃ r∈rs,r.at' = .t p.1∧p.2 = .sl r.id 0
 | [],h=>by simp[zf] at h
 | r::rs,h=>by
  simp only[zf] at h
  split at h
  ·rename_i s hs
   rcases List.mem_cons.1 h with rfl|h
   ·exact⟨r,by simp,hs,rfl⟩
   ·obtain⟨q,h1,h2⟩:=rZ h;exact⟨q,by simp[h1],h2⟩
  ·obtain⟨q,h1,h2⟩:=rZ h;exact⟨q,by simp[h1],h2⟩
omit [aq] in
theorem BS {l:List Src}(hd:distinct (Src.list l)=true):∀ {s p:Src},s∈l→p∈l→∀ {a:Nat},s.src=some a→p.src=some a→distinct (l.map (·.id))=true→s.id=p.id:=by
 induction l with
 | nil=>intro s p hs;simp at hs
 | cons q l ih=>
  intro s p hs hp a h1 h2 hi
  simp only[List.map_cons,distinct,Bool.and_eq_true,Bool.not_eq_true'] at hi
  have hd':distinct (Src.list l)=true∧∀ b,q.src=some b→b∉Src.list l:=by
   unfold Src.list at hd
   cases hq:q.src with
   | none=>rw[List.filterMap_cons,hq] at hd;exact⟨hd,fun b h=>by simp at h⟩
   | some b=>
    rw[List.filterMap_cons,hq] at hd
    simp only[distinct,Bool.and_eq_true,Bool.not_eq_true'] at hd
    refine⟨hd.2,fun c hc hm=>?_⟩
    cases hc
    have:=List.any_eq_false.1 hd.1 b hm
    simp at this
  have inl:∀ {x:Src},x∈l→x.src=some a→a∈Src.list l:=fun hx hxa=>List.mem_filterMap.2 ⟨_,hx,hxa⟩
  rcases List.mem_cons.1 hs with e1|hs'<;>rcases List.mem_cons.1 hp with e2|hp'
  ·rw[e1,e2]
  ·exact absurd (inl hp' h2) (hd'.2 a (by rw[← e1];exact h1))
  ·exact absurd (inl hs' h1) (hd'.2 a (by rw[← e2];exact h2))
  ·exact ih hd'.1 hs' hp' h1 h2 hi.2
theorem qk {od:List Nat}{h:Hint}(hh:head od h σ=some σ')(A:AR N Dt μ S σ a)(R:Rel μ S σ.heap B w0 w)(hod:∀ i,μo i≠none→i∈od)(Co:Carry B μo So Ho μ S σ.heap) :
  ∃ μ',AR N Dt μ' S σ' a∧Rel μ' S σ'.heap B w0 w∧Carry B μo So Ho μ' S σ'.heap∧Bd σ':=by
 unfold head at hh
 split at hh
 ·simp at hh
 ·rename_i l hl
  obtain⟨hc,rfl⟩:=ah hh
  simp only[Bool.and_eq_true,List.all_eq_true,Bool.not_eq_true'] at hc
  obtain⟨⟨⟨hd1,hd2⟩,hd3⟩,hd4⟩:=hc
  obtain⟨s1,s2⟩:=Eg A R hl
  have notL:∀ s∈l,s.id∉od++h.ids:=fun s hs hm=>by
   have:=hd3 s hs
   rw[mem_iff.2 hm] at this;simp at this
  have srcNotL:∀ s∈l,∀ x,s.src=some x→x∉od++h.ids:=fun s hs x hx hm=>by
   have:=hd4 x (List.mem_filterMap.2 ⟨s,hs,hx⟩)
   rw[mem_iff.2 hm] at this;simp at this
  have inIds:∀ q,q∈od++h.ids→q∉l.map (·.id):=fun q hq hm=>by
   obtain⟨s,hs,rfl⟩:=List.mem_map.1 hm
   exact notL s hs hq
  let μ':Mu:=TU l (od++h.ids) μ
  let H':Heap:=Et (l.map (fun s=>(s.id,some (.row s.te s.e 0 s.xs)))++(od++h.ids).map (fun i=>(i,(σ.heap i).map (jN h.rows (od++h.ids) i))))
  have F1:∀ s∈l,H' s.id=some (.row s.te s.e 0 s.xs):=fun s hs=>DC l s hs hd2
  have F2:∀ q,q∉l.map (·.id)→H' q=cond (mem (od++h.ids) q) ((σ.heap q).map (jN h.rows (od++h.ids) q)) none:=fun q hq=>by
   show Et _ q=_
   rw[yS l q hq,DM]
  have M1:∀ s∈l,μ' s.id=s.loc μ:=fun s hs=>Md l s hs hd2
  have M2:∀ q,q∉l.map (·.id)→μ' q=cond (mem (od++h.ids) q) (μ q) none:=fun q hq=>Gg hq
  have ag:Ag (od++h.ids) μ σ.heap μ' H':=⟨fun i hi=>by rw[M2 i (inIds i hi),mem_iff.2 hi];rfl,fun i hi o ho hr=>by
   rw[F2 i (inIds i hi),mem_iff.2 hi] at hr
   exact CS ho hr⟩
  have cases_:∀ q l',μ' q=some l'→(∃ s∈l,s.id=q∧s.loc μ=some l')∨(q∈od++h.ids∧q∉l.map (·.id)∧μ q=some l'):=fun q l' hq=>by
   by_cases hm:q∈l.map (·.id)
   ·obtain⟨s,hs,rfl⟩:=List.mem_map.1 hm
    rw[M1 s hs] at hq
    exact .inl ⟨s,hs,rfl,hq⟩
   ·rw[M2 q hm] at hq
    cases hb:mem (od++h.ids) q with
    | true=>rw[hb] at hq;exact .inr ⟨mem_iff.1 hb,hm,hq⟩
    | false=>rw[hb] at hq;simp at hq
  have slR:∀ r∈h.rows,∀ v,VR μ S σ.heap (σ.nD r.at') v→VR μ' S H' (.sl r.id 0) v:=by
   intro r hr v hv
   obtain⟨s,hs,e1,lc,e2,e3⟩:=s2 r hr
   have e3':=e3 v hv
   simp only[VR]
   refine⟨⟨_,_,_,e3'⟩,lc,by rw[← e1];exact (M1 s hs).trans e2,fun t1 e1' g1 xs1 hH=>?_⟩
   have hH2:H' r.id=some (.row t1 e1' g1 xs1):=hH
   rw[← e1,F1 s hs] at hH2
   injection hH2 with hH2
   injection hH2 with k1 k2 k3 k4
   refine⟨Nat.zero_le _,fun _=>?_⟩
   rw[e3']
   subst k2
   cases k4
   rfl
  refine⟨μ',⟨A.defers,A.size,fun t ht=>?_⟩,⟨R.below,R.size,R.st,fun q=>?_,fun q o hq=>?_,fun i j li lj b hij hi hj hb=>?_,fun q lq hq=>?_,R.pre⟩,⟨fun x v hv=>?_,Co.st,Co.sub⟩,fun q hq=>?_⟩
  ·refine Ig (f:=fun t=>a.tmps.getD t undef) _ (fun p hp=>?_) t
   rcases List.mem_append.1 hp with hp|hp
   ·obtain⟨r,hr,hat,hpe⟩:=rZ hp
    rw[hpe]
    refine slR r hr _ ?_
    rw[hat]
    exact A.val (.tmp p.1)
   ·obtain⟨t',ht',rfl⟩:=List.mem_map.1 hp
    exact x9 ag (A.val (.tmp t'))
  ·by_cases hm:q∈l.map (·.id)
   ·obtain⟨s,hs,rfl⟩:=List.mem_map.1 hm
    show (H' s.id).isSome=(μ' s.id).isSome
    rw[F1 s hs,M1 s hs,(s1 s hs).2];rfl
   ·show (H' q).isSome=(μ' q).isSome
    rw[F2 q hm,M2 q hm]
    cases mem (od++h.ids) q with
    | true=>simp only[cond_true,Option.isSome_map];exact R.dom q
    | false=>rfl
  ·by_cases hm:q∈l.map (·.id)
   ·obtain⟨s,hs,rfl⟩:=List.mem_map.1 hm
    have hq':H' s.id=some o:=hq
    rw[F1 s hs] at hq'
    cases hq'
    obtain⟨ok,hsome⟩:=s1 s hs
    cases hsrc:s.src with
    | none=>
     have hloc:s.loc μ=some ⟨none,0,aP⟩:=by unfold Src.loc;rw[hsrc]
     refine⟨_,(M1 s hs).trans hloc,?_,.inl ⟨rfl,rfl⟩⟩
     rw[ok.nil hsrc];exact⟨Nat.le_refl _,Nat.zero_le _⟩
    | some x=>
     obtain⟨g,hx⟩:=ok.row x hsrc
     obtain⟨lx,k1,k2⟩:=R.obj x _ hx
     have hloc:s.loc μ=some lx:=by unfold Src.loc;rw[hsrc];exact k1
     exact⟨lx,(M1 s hs).trans hloc,k2⟩
   ·have hq':H' q=some o:=hq
    rw[F2 q hm] at hq'
    cases hb:mem (od++h.ids) q with
    | false=>rw[hb] at hq';simp at hq'
    | true=>
     rw[hb] at hq'
     simp only[cond_true] at hq'
     cases ho:σ.heap q with
     | none=>rw[ho] at hq';simp at hq'
     | some o'=>
      rw[ho] at hq'
      simp only[Option.map_some,Option.some.injEq] at hq'
      subst hq'
      obtain⟨lq,k1,k2⟩:=R.obj q o' ho
      refine⟨lq,by show μ' q=_;rw[M2 q hm,hb];exact k1,?_⟩
      cases o' with
      | box t cs=>
       obtain⟨b,vs,a1,a2,a3,a4,a5⟩:=k2
       refine⟨b,vs,a1,a2,a3,a4,yM h.rows (fun r hr off hat v hv=>slR r hr v ?_) (oa ag a5)⟩
       have:=uZ a5 off
       rw[hat]
       simp only[St.nD,ho,Ew]
       rw[List.getD_eq_getElem?_getD,hv] at this
       exact this
      | de s pos=>exact k2
      | map es=>exact k2
      | cg es=>exact k2
      | loop k r st ts=>
       obtain⟨b,fn,ss,pe,vs,ps,asn,body,df,q1,q2,q3,q4,q5,q6,q7⟩:=k2
       exact⟨b,fn,ss,pe,vs,ps,asn,body,df,q1,q2,q3,q4,q5,q6,oa ag q7⟩
      | row t e g xs=>exact k2
      | aL t ti q xs st=>exact k2
  ·rcases cases_ i li hi with⟨s,hs,e1,e2⟩|⟨h1,h2,h3⟩<;>rcases cases_ j lj hj with⟨p,hp,f1,f2⟩|⟨k1,k2,k3⟩
   ·unfold Src.loc at e2 f2
    cases hs1:s.src with
    | none=>rw[hs1] at e2;cases e2;rw[Lc.dy rfl] at hb;simp at hb
    | some x=>
     rw[hs1] at e2
     cases hp1:p.src with
     | none=>rw[hp1] at f2;cases f2;rw[Lc.dy rfl];simp
     | some y=>
      rw[hp1] at f2
      by_cases exy:x=y
      ·subst exy
       exact absurd (BS hd1 hs hp hs1 hp1 hd2) (by rw[e1,f1];exact hij)
      ·exact R.sep x y li lj b exy e2 f2 hb
   ·unfold Src.loc at e2
    cases hs1:s.src with
    | none=>rw[hs1] at e2;cases e2;rw[Lc.dy rfl] at hb;simp at hb
    | some x=>
     rw[hs1] at e2
     exact R.sep x j li lj b (fun e=>srcNotL s hs x hs1 (e ▸ k1)) e2 k3 hb
   ·unfold Src.loc at f2
    cases hp1:p.src with
    | none=>rw[hp1] at f2;cases f2;rw[Lc.dy rfl];simp
    | some y=>
     rw[hp1] at f2
     exact R.sep i y li lj b (fun e=>srcNotL p hp y hp1 (e ▸ h1)) h3 f2 hb
   ·exact R.sep i j li lj b hij h3 k3 hb
  ·rcases cases_ q lq hq with⟨s,hs,e1,e2⟩|⟨h1,h2,h3⟩
   ·obtain⟨ok,hsome⟩:=s1 s hs
    unfold Src.loc at e2
    cases hsrc:s.src with
    | none=>rw[hsrc] at e2;cases e2;exact .inl rfl
    | some x=>
     rw[hsrc] at e2
     obtain⟨g,hx⟩:=ok.row x hsrc
     exact .inl (R.fM e2 hx)
   ·rcases R.b7 q lq h3 with h|⟨t',ti',q',ys,st,h⟩
    ·exact .inl h
    ·refine .inr ⟨t',ti',q',ys,st,?_⟩
     show H' q=_
     rw[F2 q h2,mem_iff.2 h1,h];rfl
  ·have h1:=pR hod x v hv
   exact Dn ag x v (by
    have:=pR (L:=od++h.ids) (fun i hi=>List.mem_append.2 (.inl (hod i hi))) x v hv
    exact this) (Co.vr x v hv)
  ·by_cases hm:q∈l.map (·.id)
   ·exact List.mem_append.2 (.inr hm)
   ·have hq':H' q≠none:=hq
    rw[F2 q hm] at hq'
    cases hb:mem (od++h.ids) q with
    | true=>exact List.mem_append.2 (.inl (mem_iff.1 hb))
    | false=>rw[hb] at hq';simp at hq'
omit [aq] in
theorem zF:∀ (l:List (Nat×Option aO)) (q:Nat),Et l q≠none→q∈l.map (·.1)
 | [],q,h=>absurd rfl h
 | (i,o)::l,q,h=>by
  simp only[Et] at h
  cases hb:Nat.beq q i with
  | true=>rw[Nat.eq_of_beq_eq_true hb];simp
  | false=>
   rw[hb] at h
   have:=zF l q h
   simp only[List.map_cons,List.mem_cons];exact .inr this
omit [aq] in
theorem jG {od:List Nat}{h:Hint}(hh:head od h σ=some σ'):Bd σ':=by
 unfold head at hh
 split at hh
 ·simp at hh
 ·obtain⟨_,rfl⟩:=ah hh
  intro q hq
  have:=zF _ q hq
  simp only[List.map_append,List.map_map,List.mem_append,List.mem_map,Function.comp_apply] at this ⊢
  rcases this with⟨s,h1,h2⟩|⟨i,h1,h2⟩|⟨i,h1,h2⟩
  ·exact .inr ⟨s,h1,h2⟩
  ·subst h2;exact .inl (.inl h1)
  ·subst h2;exact .inl (.inr h1)
end
def dl (S S':ar):Prop:=∀ a v,cellS S a=some v→cellS S' a=some v
theorem di {S S':ar}(h:dl S S'):∀ (t:Ty) (x:t.T) (cs:List Value),Rd S t x cs→Rd S' t x cs
 | .int _,_,_,hr=>hr
 | .bool,_,_,hr=>hr
 | .str,_,_,hr=>hr
 | .row e,xs,cs,hr=>by
  obtain⟨a,cap,h1,h2,h3⟩:=hr
  refine⟨a,cap,h1,h2,fun j x hj=>?_⟩
  obtain⟨ad,c,e1,e2,e3⟩:=h3 j x hj
  exact⟨ad,c,e1,di h e x c e2,fun m v hv=>h _ _ (e3 m v hv)⟩
 | .pair a b,x,cs,hr=>by
  obtain⟨c,d,h1,h2,h3⟩:=hr
  exact⟨c,d,h1,di h a _ _ h2,di h b _ _ h3⟩
 | .one a,x,cs,hr=>di h a x cs hr
 | .xI _,_,_,hr=>hr
 | .nil,_,_,hr=>hr
section
variable {μ:Mu}{S S':ar}{H:Heap}
mutual
theorem ga (h:dl S S'):∀ (a:AV) (v:Value),VR μ S H a v→VR μ S' H a v
 | .lit _,v,hr=>by simp only[VR] at hr ⊢;exact hr
 | .ptr i off,v,hr=>by simp only[VR] at hr ⊢;exact hr
 | .Aq e x off,v,hr=>by
  simp only[VR] at hr ⊢
  obtain⟨ad,c,h1,h2,h3⟩:=hr
  exact⟨ad,c,di h _ _ _ h1,fun m u hm=>h _ _ (h2 m u hm),h3⟩
 | .xG i g k off,v,hr=>by simp only[VR] at hr ⊢;exact hr
 | .cont e xs,v,hr=>by simp only[VR] at hr ⊢;exact di h (.row e) xs [v] hr
 | .DS i xs,v,hr=>by simp only[VR] at hr ⊢;exact di h (.row (.int .u8)) xs [v] hr
 | .sl i g,v,hr=>by simp only[VR] at hr ⊢;exact hr
 | .sub i g lo hi,v,hr=>by simp only[VR] at hr ⊢;exact hr
 | .Gb i n,v,hr=>by simp only[VR] at hr ⊢;exact hr
 | .fG i,v,hr=>by simp only[VR] at hr ⊢;exact hr
 | .mp i,v,hr=>by simp only[VR] at hr ⊢;exact hr
 | .uz i,v,hr=>by simp only[VR] at hr ⊢;exact hr
 | .pJ i k o,v,hr=>by simp only[VR] at hr ⊢;exact hr
 | .b7 i q k lo h',v,hr=>by simp only[VR] at hr ⊢;exact hr
 | .FQ i q k p,v,hr=>by simp only[VR] at hr ⊢;exact hr
 | .fn f fi ca,v,hr=>by
  simp only[VR] at hr ⊢
  obtain⟨x,y,h1,h2,h3⟩:=hr
  exact⟨x,y,h1,dP h fi _ h2,dP h ca _ h3⟩
 | .agg cs,v,hr=>by
  simp only[VR] at hr ⊢
  obtain⟨x,h1,h2⟩:=hr
  exact⟨x,h1,dP h cs _ h2⟩
 | .pI cs,v,hr=>by
  simp only[VR] at hr ⊢
  obtain⟨x,h1,h2⟩:=hr
  exact⟨x,h1,dP h cs _ h2⟩
 | .wL t a,v,hr=>by
  simp only[VR] at hr ⊢
  obtain⟨u,h1,h2⟩:=hr
  exact⟨u,h1,ga h a _ h2⟩
 | .dB _,_,hr=>by simp only[VR] at hr
 | .xM,_,hr=>by simpa only [VR] using hr
 | .ak,_,_=>by simp only[VR]
theorem dP (h:dl S S'):∀ (as:List AV) (vs:List Value),aE μ S H as vs→aE μ S' H as vs
 | [],vs,hr=>by simp only[aE] at hr ⊢;exact hr
 | a::as,vs,hr=>by
  simp only[aE] at hr ⊢
  obtain⟨v,r,h1,h2,h3⟩:=hr
  exact⟨v,r,h1,ga h a v h2,dP h as r h3⟩
end
end
section
variable [aq]{P:Program}{w w' w0:World}{μ μ' μo:Mu}{S S' So N:ar}{H H' Ho:Heap}{B:Nat}
def xQ (S:ar)(D:Nat):ar:=fun b=>cond (Nat.beq b D) none (S b)
omit [aq] in
theorem cH {S:ar}{D b:Nat}(h:b≠D):xQ S D b=S b:=by
 unfold xQ
 cases hb:Nat.beq b D with
 | true=>exact absurd (Nat.eq_of_beq_eq_true hb) h
 | false=>rfl
omit [aq] in
theorem E7 {S:ar}{D:Nat}:xQ S D D=none:=by simp[xQ]
omit [aq] in
theorem rj {S:ar}{D:Nat}{x:Option (List Deferred)}(h:S D=some (.deferred x)):dl S (xQ S D):=by
 intro a v hv
 unfold cellS at hv ⊢
 by_cases e:a.block=D
 ·rw[e,h] at hv;simp at hv
 ·rw[cH e];exact hv
omit [aq] in
theorem rY {S':ar}{w':World}(hc:dl S S'){l:Lc}{t:TypeId}{e:Ty}{xs:List e.T}(hw:∀ b,l.blk=some b→w'.heap[b]? = w.heap[b]?)(hs:∀ b,l.blk=some b→S' b=S b)
  (h:fq S w B l t e xs):fq S' w' B l t e xs:=
 ⟨h.1,h.2.imp id fun⟨b,cs,a1,a2,a3,a4,a5,a6⟩=>⟨b,cs,a1,a2,by rw[hs b a1];exact a3,by rw[hw b a1];exact a4,a5,fun j x hj=>by
  obtain⟨c,k1,k2⟩:=a6 j x hj
  exact⟨c,di hc _ _ _ k1,k2⟩⟩⟩
theorem Rel.take (R:Rel μ S H B w0 w){D:Nat}(hD:S D=some (.deferred (some [])))(hB:B≤D)(hN:∀ b o,N b=some o→S b=some o)(hND:N D=none)(hp:aq.pre N) :
  Rel μ (xQ S D) H B w0 (w.putObj D (.deferred none)):=by
 have hlt:=R.gf hD
 have hsub:∀ b o,N b=some o→xQ S D b=some o:=fun b o h=>by
  have:b≠D:=fun e=>by subst e;rw[hND] at h;simp at h
  rw[cH this];exact hN b o h
 have hbl:Below B w (w.putObj D (.deferred none)):=jI hB _
 refine⟨R.below.trans hbl,by simpa using R.size,fun b o h=>?_,R.dom,fun i o hi=>?_,R.sep,R.b7,aq.mono _ _ hsub hp⟩
 ·have:b≠D:=fun e=>by subst e;rw[E7] at h;simp at h
  rw[cH this] at h
  rw[World.putObj_heap_other this];exact R.st b o h
 ·obtain⟨l,h1,h2⟩:=R.obj i o hi
  refine⟨l,h1,?_⟩
  have hneH:∀ b,l.has b→b≠D:=fun b hb e=>by
   have:=(R.xL h1 hb).2
   rw[e,hD] at this;simp at this
  have hne:∀ b,l.blk=some b→b≠D:=fun b hb=>hneH b (.inl hb)
  have hc:=rj hD
  cases o with
  | box t cells=>
   obtain⟨b,cs,q1,q2,q3,q4,q5⟩:=h2
   exact⟨b,cs,q1,q2,by rw[cH (hne b q1)];exact q3,by rw[World.putObj_heap_other (hne b q1)];exact q4,dP hc _ _ q5⟩
  | de s pos=>
   obtain⟨b,q1,q2,q3,q4⟩:=h2
   exact⟨b,q1,q2,by rw[cH (hne b q1)];exact q3,by rw[World.putObj_heap_other (hne b q1)];exact q4⟩
  | map es=>
   obtain⟨b,q1,q2,q3,q4⟩:=h2
   exact⟨b,q1,q2,by rw[cH (hne b q1)];exact q3,by rw[World.putObj_heap_other (hne b q1)];exact q4⟩
  | cg es=>
   obtain⟨b,ents,ck,q1,q2,q3,q4,q5⟩:=h2
   exact⟨b,ents,ck,q1,q2,by rw[cH (hne b q1)];exact q3,by rw[World.putObj_heap_other (hne b q1)];exact q4,q5⟩
  | loop k r st ts=>
   obtain⟨b,fn,ss,pe,vs,ps,asn,body,df,q1,q2,q3,q4,q5,q6,q7⟩:=h2
   exact⟨b,fn,ss,pe,vs,ps,asn,body,df,q1,q2,by rw[cH (hne b q1)];exact q3,q4,q5,by rw[World.putObj_heap_other (hne b q1)];exact q6,dP hc _ _ q7⟩
  | row t e g xs=>exact rY hc (fun b hb=>World.putObj_heap_other (hne b hb)) (fun b hb=>cH (hne b hb)) h2
  | aL t ti q xs st=>
   have h2:cu S w B l t ti xs st:=h2
   exact⟨h2.len,h2.out,fun k x hx hm=>rY hc (fun b hb=>World.putObj_heap_other (hneH b (Lc.fV hb))) (fun b hb=>cH (hneH b (Lc.fV hb))) (h2.row k x hx hm),h2.one,h2.off,
    h2.xM.imp id fun⟨b,cs,q1,q2,q3,q4,q5,q6⟩=>⟨b,cs,q1,q2,by rw[cH (hne b q1)];exact q3,by rw[World.putObj_heap_other (hne b q1)];exact q4,q5,fun k x hx=>by
     obtain⟨f0,f2,v,f1,f3,f4,f5⟩:=q6 k x hx
     exact⟨f0,f2,v,f1,f3,f4,fun h=>di hc _ _ _ (f5 h)⟩⟩⟩
def sM (S:ar)(D:Nat)(o:Obj):ar:=fun b=>cond (Nat.beq b D) (some o) (S b)
omit [aq] in
theorem qb {S:ar}{D b:Nat}{o:Obj}(h:b≠D):sM S D o b=S b:=by
 unfold sM
 cases hb:Nat.beq b D with
 | true=>exact absurd (Nat.eq_of_beq_eq_true hb) h
 | false=>rfl
omit [aq] in
theorem tJ {S:ar}{D:Nat}{o:Obj}:sM S D o D=some o:=by simp[sM]
theorem Rel.mark (R:Rel μ S H B w0 w)(o:Obj):Rel μ (sM S w.heap.size o) H B w0 (w.alloc o)∧Carry B μ S H μ (sM S w.heap.size o) H:=by
 have hsub:∀ b o',S b=some o'→sM S w.heap.size o b=some o':=fun b o' h=>by
  rw[qb (by have:=R.gf h;omega)];exact h
 have E:Ext μ S H μ (sM S w.heap.size o) H:=⟨fun _ _ h=>.inl h,hsub,fun _ t _ g xs _ h=>⟨t,g,xs,h,Nat.le_refl _,fun _=>rfl⟩,fun _ t ti q xs st _ h=>⟨t,ti,q,xs,st,h,Nat.le_refl _,rfl,fun _ _ h=>h⟩⟩
 refine⟨⟨R.below.alloc R.size o,by have:=R.size;simp;omega,fun b o' h=>?_,R.dom,fun i o' hi=>?_,R.sep,R.b7,aq.mono _ _ hsub R.pre⟩,fun a v h=>cJ E a v h,fun b hb=>?_,hsub⟩
 ·by_cases e:b=w.heap.size
  ·subst e;rw[tJ] at h;cases h;exact alloc_heap_new w o
  ·rw[qb e] at h
   rw[dW w o (R.gf h)];exact R.st b o' h
 ·obtain⟨l,h1,h2⟩:=R.obj i o' hi
  exact⟨l,h1,bw E (fun b hb=>dW w o (R.zO h1 hb)) (fun b hb=>by
   have:=R.zO h1 hb
   rw[qb (by omega)];exact (R.xL h1 hb).2) h2⟩
 ·by_cases e:b=w.heap.size
  ·subst e;exact .inr R.size
  ·rw[qb e] at hb;exact .inl hb
omit [aq] in
theorem Ext.loop {i k r:Nat}{st:EF}{ts:List AV}:Ext μ S H μ S (aM H i (some (.loop k r st ts))):=Ext.still' rfl
theorem Rel.loop (R:Rel μ S H B w0 w){i k r b:Nat}{cp:Nat}{st:EF}{ts:List AV}(h:H i=some (.loop k r st ts))(hm:μ i=some ⟨some b,cp,aP⟩) :
  ∃ L:Loop,w.heap[b]? = some (.loop L)∧aq.Ug k r=some (L.params,L.assign,L.body)∧st.Is L.state L.pending∧aE μ S H ts L.tmps.toList:=by
 obtain⟨l,h1,h2⟩:=R.obj i _ h
 rw[hm] at h1;cases h1
 obtain⟨b',fn,ss,pe,vs,ps,asn,body,df,q1,q2,q3,q4,q5,q6,q7⟩:=h2
 cases q1
 exact⟨⟨ss,pe,fn,vs,ps,asn,body,df⟩,q6,q4,q5,q7⟩
theorem Rel.p6 (R:Rel μ S H B w0 w){i k r b:Nat}{cp:Nat}{st st':EF}{ts:List AV}(h:H i=some (.loop k r st ts))(hm:μ i=some ⟨some b,cp,aP⟩){L L':Loop}
  (hL:w.heap[b]? = some (.loop L)) (hc:L'.params=L.params∧L'.assign=L.assign∧L'.body=L.body∧L'.tmps=L.tmps) (hst:st'.Is L'.state L'.pending) :
  Rel μ S (aM H i (some (.loop k r st' ts))) B w0 (w.putObj b (.loop L'))∧Ext μ S H μ S (aM H i (some (.loop k r st' ts))):=by
 obtain⟨l,h1,h2⟩:=R.obj i _ h
 rw[hm] at h1;cases h1
 obtain⟨b',fn,ss,pe,vs,ps,asn,body,df,q1,q2,q3,q4,q5,q6,q7⟩:=h2
 cases q1
 rw[hL] at q6;cases q6
 obtain⟨c1,c2,c3,c4⟩:=hc
 obtain⟨ss',pe',fn',vs',ps',asn',body',df'⟩:=L'
 simp only at c1 c2 c3 c4 hst
 subst c1 c2 c3 c4
 have E:Ext μ S H μ S (aM H i (some (.loop k r st' ts))):=Ext.loop
 refine⟨R.wr hm (.inl rfl) _ (jI (Nat.le_refl _) _) (by simp) (fun k hk=>World.putObj_heap_other hk) E ?_ (.inl rfl),E⟩
 exact⟨b,fn',ss',pe',_,_,_,_,df',rfl,q2,q3,q4,hst,World.putObj_heap_same (R.lt hm rfl),cM E _ _ q7⟩
theorem gU {F:Fence}{fn:Func}{tmps:Array Value}{Rs:Ending→World→Prop}{Dt:List Deferred}{u:FrameMode}(hu:u ≠ .run)(hN:aq.pre N):∀ (ms:List Nat) (S:ar) (w:World),Rel μ S H B w0 w→Mark S N ms→(∀ b o,N b=some o→S b=some o)→(∀ D∈ms,B≤D) →
  (∀ (S':ar) (w':World),Rel μ S' H B w0 w'→dl S S'→(∀ b o,N b=some o→S' b=some o)→(∀ b,S' b≠none→S b≠none)→LeavesInM F 0 P fn tmps Rs Dt u w') →
  LeavesInM F 0 P fn tmps Rs ((ms.map fun D=>⟨.collected D,#[]⟩)++Dt) u w
 | [],S,w,R,hm,hsub,hB,hK=>hK S w R (fun _ _ h=>h) hsub (fun _ h=>h)
 | D::ms,S,w,R,hm,hsub,hB,hK=>by
  obtain⟨hnd,hms⟩:=hm
  obtain⟨hND,hSD⟩:=hms D (by simp)
  have hw:=R.st _ _ hSD
  refine⟨hu,.inl ⟨D,_,rfl,run_takeDeferred hw,?_⟩⟩
  have R1:=R.take hSD (hB D (by simp)) hsub hND hN
  have hnd':=List.nodup_cons.1 hnd
  refine gU hu hN ms _ _ R1 ⟨hnd'.2,fun D' hD'=>⟨(hms D' (by simp[hD'])).1,?_⟩⟩ (fun b o h=>?_) (fun D' hD'=>hB D' (by simp[hD'])) (fun S' w' R' hc h1 h2=>?_)
  ·rw[cH (fun e=>by subst e;exact hnd'.1 hD')];exact (hms D' (by simp[hD'])).2
  ·rw[cH (fun e=>by subst e;rw[hND] at h;simp at h)];exact hsub b o h
  ·refine hK S' w' R' (fun a v h=>hc _ _ (rj hSD _ _ h)) h1 (fun b hb=>?_)
   have:=h2 b hb
   unfold xQ at this
   intro hn
   rw[hn] at this
   apply this
   cases Nat.beq b D<;>rfl
omit [aq] in
theorem sZ {f:Nat→AV}:∀ (vs:List Value) (k:Nat),(∀ t,t<vs.length→VR μ S H (f (k+t)) (vs.getD t undef))→aE μ S H ((List.range' k vs.length).map f) vs
 | [],k,h=>by simp[aE]
 | v::vs,k,h=>by
  simp only[List.length_cons,List.range'_succ,List.map_cons,aE]
  refine⟨v,vs,rfl,by simpa using h 0 (by simp),sZ vs (k+1) fun t ht=>?_⟩
  have:=h (t+1) (by simp;omega)
  rw[show k+1+t=k+(t+1) by omega]
  simpa using this
def jf:List AV→List Tmp→List AV→List AV
 | ts,p::ps,a::as=>jf (ts.set p a) ps as
 | ts,_,_=>ts
omit [aq] in
theorem tW:∀ {ts:List AV} {vs:Array Value} {ps:List Tmp} {as:List AV} {us:List Value},aE μ S H ts vs.toList→aE μ S H as us →
  aE μ S H (jf ts ps as) ((ps.zip us).foldl (fun tmps (t,a)=>tmps.setIfInBounds t a) vs).toList
 | ts,vs,[],as,us,h,h'=>by simpa [jf] using h
 | ts,vs,p::ps,[],us,h,h'=>by
  simp only[aE] at h';subst h'
  simpa [jf] using h
 | ts,vs,p::ps,a::as,us,h,h'=>by
  simp only[aE] at h'
  obtain⟨v,r,rfl,h2,h3⟩:=h'
  simp only[jf,List.zip_cons_cons,List.foldl_cons]
  refine tW ?_ h3
  rw[Array.toList_setIfInBounds]
  exact vv h p a v h2
end
section
variable {P:Program}{b:Frame}{a:Act}{k:List Item}{cs:List Frame}{w:World}
theorem cD {c:Code}:step P (lone (b.atR a (.code (.scope c)::k)) cs w) = .next (lone (b.atR a (.code c :: .inScope c::k)) cs w):=
 step_lone_go (by simp[stepG,stepG.exec,Frame.atR])
theorem jY {c:Code}:step P (lone (b.atR a (.inScope c::k)) cs w) = .next (lone (b.atR a k) cs w):=
 step_lone_go (by simp[stepG,stepG.exec,Frame.atR])
end
def oX (l:Nat)(J:Act→World→Prop)(Q:Exit→Act→World→Prop):Exit→Act→World→Prop
 | .goto l',a,w=>l'=l∧J a w
 | e,a,w=>Q e a w
def gL (F:Fence)(n:Nat)(P:Program)(l:Nat)(r:Code)(Q:Exit→Act→World→Prop):Nat→Act→World→Prop
 | 0,_,_=>False
 | m+1,a,w=>r.wpIn F n P (oX l (gL F n P l r Q m) Q) a w
theorem fI {F:Fence}{n:Nat}{P:Program}{Q:Exit→Act→World→Prop}{a:Act}{w:World}{c r:Code}{l:Nat}(m:Nat)(hf:0<m→findLabel c l=some r)
  (h:c.wpIn F n P (oX l (gL F n P l r Q m) Q) a w):(Code.scope c).wpIn F n P Q a w:=by
 intro b k cs hro hb hr
 have hx:∀ i,exitTo i (.inScope c::k)=exitTo i k:=fun i=>by simp[exitTo]
 have key:∀ m a w,(0<m→findLabel c l=some r)→gL F n P l r Q m a w →
   ∃ e a' w',Q e a' w'∧ArrivesIn (Machine.fenced P F) P (lone (b.atR a (.code r :: .inScope c::k)) cs w) b k cs e a' w':=by
  intro m
  induction m with
  | zero=>intro a w _ h;exact h.elim
  | succ m ih=>
   intro a w hf h
   obtain⟨e,a₁,w₁,hq,harr⟩:=h b (.inScope c::k) cs hro hb hr
   cases e with
   | normal=>exact⟨.normal,a₁,w₁,hq,StepsIn.trans harr (.one (fenced_calm hb hr rfl) jY)⟩
   | exit i=>exact⟨.exit i,a₁,w₁,hq,fun k' hk=>harr.1 k' (by rw[hx];exact hk),fun hr' hk=>harr.2 hr' (by rw[hx];exact hk)⟩
   | goto l'=>
    obtain⟨rfl,hJ⟩:=hq
    obtain⟨e₂,a₂,w₂,hq₂,harr₂⟩:=ih a₁ w₁ (fun _=>hf (Nat.succ_pos _)) hJ
    have hg:gotoIn l' (.inScope c::k)=some (.code r :: .inScope c::k):=by simp[gotoIn,hf (Nat.succ_pos _)]
    exact⟨e₂,a₂,w₂,hq₂,.of_steps (harr.1 _ hg) harr₂⟩
   | ret=>exact⟨_,a₁,w₁,hq,harr⟩
   | panic ch=>exact⟨_,a₁,w₁,hq,harr⟩
   | outgrown=>exact⟨_,a₁,w₁,hq,harr⟩
 have h0:(lone (b.atR a (.code (.scope c)::k)) cs w).fenced P F:=fenced_calm hb hr rfl
 obtain⟨e,a₁,w₁,hq,harr⟩:=h b (.inScope c::k) cs hro hb hr
 cases e with
 | normal=>exact⟨.normal,a₁,w₁,hq,.head h0 cD (StepsIn.trans harr (.one (fenced_calm hb hr rfl) jY))⟩
 | exit i=>exact⟨.exit i,a₁,w₁,hq,fun k' hk=>.head h0 cD (harr.1 k' (by rw[hx];exact hk)),fun hr' hk=>let ⟨k₁,h1,h2⟩:=harr.2 hr' (by rw[hx];exact hk);⟨k₁,h1,.head h0 cD h2⟩⟩
 | goto l'=>
  obtain⟨rfl,hJ⟩:=hq
  cases m with
  | zero=>exact hJ.elim
  | succ m=>
   obtain⟨e₂,a₂,w₂,hq₂,harr₂⟩:=key (m+1) a₁ w₁ hf hJ
   have hg:gotoIn l' (.inScope c::k)=some (.code r :: .inScope c::k):=by simp[gotoIn,hf (Nat.succ_pos _)]
   exact⟨e₂,a₂,w₂,hq₂,.of_steps (.head h0 cD (harr.1 _ hg)) harr₂⟩
 | ret=>exact⟨_,a₁,w₁,hq,.of_steps (.one h0 cD) harr⟩
 | panic ch=>exact⟨_,a₁,w₁,hq,.of_steps (.one h0 cD) harr⟩
 | outgrown=>exact⟨_,a₁,w₁,hq,.of_steps (.one h0 cD) harr⟩
def tq:Code→Bool
 | .seq x y=>tq x&&tq y
 | .label _=>false
 | _=>true
theorem kQ {l:Nat}:∀ {c:Code},tq c=true→findLabel c l=none
 | .seq x y,h=>by
  simp only[tq,Bool.and_eq_true] at h
  simp[findLabel,kQ h.1,kQ h.2]
 | .label _,h=>by simp[tq] at h
 | .skip,_=>rfl
 | .region _ _ _,_=>rfl
 | .cond _ _ _,_=>rfl
 | .block _ _,_=>rfl
 | .loop _,_=>rfl
 | .exit _,_=>rfl
 | .ret,_=>rfl
 | .rangeFunc _ _ _ _,_=>rfl
 | .scope _,_=>rfl
 | .goto _,_=>rfl
 | .refuse _,_=>rfl
def ld:Code→Option Nat
 | .label l=>some l
 | _=>none
theorem rA {c:Code}{l:Nat}(h:ld c=some l):c = .label l:=by
 cases c<;>simp_all [ld]
def fE:Code→Bool
 | .seq x y=>match ld x with
  | some _=>true
  | none=>tq x&&fE y
 | .label _=>false
 | _=>true
def bg:Code→Option (Nat×Code)
 | .seq x y=>match ld x with
  | some l=>some (l,.seq .skip y)
  | none=>bg y
 | _=>none
theorem su:∀ {c:Code} {l:Nat} {r:Code},fE c=true→bg c=some (l,r)→findLabel c l=some r
 | .seq x y,l,r,h,hs=>by
  simp only[fE,bg] at h hs
  cases hl:ld x with
  | some l'=>
   rw[hl] at hs
   simp only[Option.some.injEq,Prod.mk.injEq] at hs
   obtain⟨rfl,rfl⟩:=hs
   have:=rA hl
   subst this
   simp[findLabel]
  | none=>
   rw[hl] at h hs
   simp only[Bool.and_eq_true] at h
   simp only at hs
   simp[findLabel,kQ h.1,su h.2 hs]
 | .skip,_,_,_,hs=>by simp[bg] at hs
 | .region _ _ _,_,_,_,hs=>by simp[bg] at hs
 | .cond _ _ _,_,_,_,hs=>by simp[bg] at hs
 | .block _ _,_,_,_,hs=>by simp[bg] at hs
 | .loop _,_,_,_,hs=>by simp[bg] at hs
 | .exit _,_,_,_,hs=>by simp[bg] at hs
 | .label _,_,_,_,hs=>by simp[bg] at hs
 | .ret,_,_,_,hs=>by simp[bg] at hs
 | .rangeFunc _ _ _ _,_,_,_,hs=>by simp[bg] at hs
 | .scope _,_,_,_,hs=>by simp[bg] at hs
 | .goto _,_,_,_,hs=>by simp[bg] at hs
 | .refuse _,_,_,_,hs=>by simp[bg] at hs
def OA.ex:OA→Ex
 | .ret=>.ret
 | .exit i=>.exit i
 | .goto l=>.goto l
def bP:Nat→(St→Option (Ex×St))→St→Option (Ex×St)
 | 0,_,_=>none
 | n+1,f,σ=>match f σ with
  | some (.cL,σ')=>bP n f σ'
  | some (.exit i,σ')=>some (.exit i,σ')
  | some (.goto i,σ')=>some (.goto i,σ')
  | some (.ret,σ')=>some (.ret,σ')
  | some (.dB _,_)=>none
  | none=>none
def jR (base id:Nat):Nat:=base+id * 4096
abbrev Hints:=Nat→Nat→St→Option mZ
def hintOf (Hn:Hints)(base:Nat)(x:Code)(σ:St):Option mZ:=
 match bB x with
 | some r=>Hn base r σ
 | none=>none
def Cu:Option mZ→St→St
 | none,σ=>σ
 | some h,σ=>σ.dD h.dD
theorem Em {h:Option mZ}{σ:St}(hB:Bd σ):Bd (Cu h σ):=by
 cases h with
 | none=>exact hB
 | some h=>exact yB _ hB
theorem Lh [aq]{N:ar}{Dt:Bool×List Deferred}{σ:St}{a:Act}{μ μo:Mu}{S So:ar}{Ho:Heap}{B:Nat}{w0 w:World}{h:Option mZ}(A:AR N Dt μ S σ a)(R:Rel μ S σ.heap B w0 w)(Co:Carry B μo So Ho μ S σ.heap) :
  ∃ μ',AR N Dt μ' S (Cu h σ) a∧Rel μ' S (Cu h σ).heap B w0 w∧Carry B μo So Ho μ' S (Cu h σ).heap:=by
 cases h with
 | none=>exact⟨μ,A,R,Co⟩
 | some h=>exact zk _ A R Co
def cx (od:List Nat)(h:Option mZ)(f:St→Option (Ex×St))(σ:St):Option (Ex×St):=
 match h with
 | none=>f σ
 | some h=>match head od h.top σ with
  | some σ'=>f σ'
  | none=>none
def jj (od:List Nat)(h:Option mZ):Option (Ex×St)→Option (Ex×St)
 | some (e,σ)=>match h with
  | none=>some (e,σ)
  | some h=>match e with
   | .exit i=>match h.out with
    | some h'=>match head od h' σ with
     | some σ'=>some (.exit i,σ')
     | none=>none
    | none=>some (.exit i,σ)
   | .ret=>match h.ret with
    | some h'=>match head od h' σ with
     | some σ'=>some (.ret,σ')
     | none=>none
    | none=>some (.ret,σ)
   | e=>some (e,σ)
 | none=>none
def O6 (ops:Array Oper):List Nat:=ops.toList.flatMap fun o=>o.op.operands.toList.flatMap fun x=>match x with
 | .tmp t=>[t]
 | _=>[]
def fU:Code→List Nat
 | .region _ ops _=>O6 ops
 | .seq x y=>fU x++fU y
 | .cond c x y=>(match c with
  | .tmp t=>[t]
  | _=>[])++(fU x++fU y)
 | .block _ x=>fU x
 | .loop x=>fU x
 | _=>[]
def gp (P:Program)(k:Nat):Bool:=match P.funcs[k]? with
 | some fn=>match fn.body with
  | some _=>!(fn.name == "runtime.NumGoroutine")
  | none=>false
 | none=>false
def jZ (σ:St)(x:b6):List AV:=(List.range' 0 σ.nt).map fun t=>cond (mem (fU x.2.1++fU x.2.2) t) (σ.tmps t) .ak
def F5 (σ:St)(base fid r:Nat)(x:b6):Option (St×Nat):=
 cond ((σ.heap (jR base r)).isNone) (some (⟨σ.nt,σ.tmps,aM σ.heap (jR base r) (some (.loop fid r .ready (jZ σ x))),σ.ids++[jR base r]⟩,jR base r)) none
def js (σ:St)(i:Nat)(H:Heap)(L:List Nat):Option (Ex×St):=
 match H i with
 | some (.loop k r .ready ts)=>some (.cL,⟨σ.nt,σ.tmps,aM H i (some (.loop k r .over ts)),L⟩)
 | some (.loop k r (.done j) ts)=>some (j.ex,⟨σ.nt,σ.tmps,aM H i (some (.loop k r .over ts)),L⟩)
 | _=>none
def eE (P:Program)(F:gv)(base:Nat)(rf:Option Nat)(g:Operand)(body:Code)(σ:St):Option (Ex×St):=
 match rf,σ.val g,bB body with
 | some fid,.fn (.func k) first caps,some r=>match cI P fid r with
  | some x=>match F5 σ base fid r x with
   | some (σ1,i)=>match gp P k,F (i+1) (.fn k) (first++[.fG i]++caps) σ1.heap σ1.ids with
    | true,some (v,H,L)=>cond v.cT none (js σ i H L)
    | _,_=>none
   | none=>none
  | none=>none
 | _,_,_=>none
def wG:Nat:=1000000007
def eU (l:Nat):Ex→Option Ex
 | .cL=>some (.exit wG)
 | .goto i=>cond (Nat.beq i l) (some .cL) none
 | .exit i=>cond (Nat.beq i wG) none (some (.exit i))
 | .ret=>some .ret
 | .dB _=>none
def fO (l:Nat):Option (Ex×St)→Option (Ex×St)
 | some (e,σ)=>match eU l e with
  | some e'=>some (e',σ)
  | none=>none
 | none=>none
def FN:Ex→Option Ex
 | .exit i=>cond (Nat.beq i wG) (some .cL) (some (.exit i))
 | .ret=>some .ret
 | _=>none
def rU:Option (Ex×St)→Option (Ex×St)
 | some (e,σ)=>match FN e with
  | some e'=>some (e',σ)
  | none=>none
 | none=>none
def noGoto:Option (Ex×St)→Option (Ex×St)
 | some (.goto _,_)=>none
 | r=>r
def aB (P:Program)(C:Cons)(Hn:Hints)(F:gv)(lf base:Nat)(od:List Nat)(rf:Option Nat):Bool→Code→St→Option (Ex×St)
 | _,.skip,σ=>some (.cL,σ)
 | _,.region id ops draw,σ=>
  cond draw (fD P C F ops (jR base id) σ) (jW P C F ops (jR base id) (List.range ops.size) σ)
 | false,.seq x y,σ=>match aB P C Hn F lf base od rf false x σ with
  | some (.cL,σ')=>aB P C Hn F lf base od rf false y σ'
  | some (.exit i,σ')=>some (.exit i,σ')
  | some (.goto i,σ')=>some (.goto i,σ')
  | some (.ret,σ')=>some (.ret,σ')
  | some (.dB v,σ')=>some (.dB v,σ')
  | none=>none
 | true,.seq x y,σ=>match ld x with
  | some l=>rU (jj od (hintOf Hn base y σ) (bP lf (cx od (hintOf Hn base y σ) fun σ=>fO l (aB P C Hn F lf base od rf false y σ)) σ))
  | none=>match aB P C Hn F lf base od rf false x σ with
   | some (.cL,σ')=>aB P C Hn F lf base od rf true y σ'
   | some (.exit i,σ')=>some (.exit i,σ')
   | some (.ret,σ')=>some (.ret,σ')
   | some (.dB v,σ')=>some (.dB v,σ')
   | _=>none
 | _,.cond c x y,σ=>match σ.val c with
  | .lit (.bool b)=>cond b (aB P C Hn F lf base od rf false x σ) (aB P C Hn F lf base od rf false y σ)
  | _=>none
 | _,.block id x,σ=>match aB P C Hn F lf base od rf false x σ with
  | some (.exit i,σ')=>cond (Nat.beq i id) (some (.cL,σ')) (some (.exit i,σ'))
  | r=>r
 | _,.loop x,σ=>jj od (hintOf Hn base x σ) (bP lf (cx od (hintOf Hn base x σ) (aB P C Hn F lf base od rf false x)) (Cu (hintOf Hn base x σ) σ))
 | _,.exit id,σ=>some (.exit id,σ)
 | _,.label _,σ=>some (.cL,σ)
 | _,.ret,σ=>some (.ret,σ)
 | _,.rangeFunc g _ _ body,σ=>eE P F base rf g body σ
 | _,.scope x,σ=>cond (fE x) (noGoto (aB P C Hn F lf base od rf true x σ)) none
 | _,.goto l,σ=>some (.goto l,σ)
 | _,_,_=>none
def IB (P:Program)(σ:St):ResultVar→Option AV
 | .tmp t=>cond (kY t σ.nt) (some (σ.tmps t)) none
 | .cell a t=>match σ.val (.tmp a) with
  | .ptr i off=>match σ.heap i with
   | some (.box _ cs)=>cut P t cs off
   | _=>none
  | _=>none
def cX (P:Program)(σ:St):List ResultVar→Option (List AV)
 | []=>some []
 | r::rs=>match IB P σ r,cX P σ rs with
  | some v,some vs=>some (v::vs)
  | _,_=>none
def dw:List AV→Nat→AV
 | [],_=>.lit undef
 | a::_,0=>a
 | _::l,n+1=>dw l n
def lZ (P:Program)(rs:List ResultVar):Option (Ex×St)→Option (AV×Heap×List Nat)
 | some (.cL,σ)=>match cX P σ rs with
  | some vs=>some (eA vs,σ.heap,σ.ids)
  | none=>none
 | some (.ret,σ)=>match cX P σ rs with
  | some vs=>some (eA vs,σ.heap,σ.ids)
  | none=>none
 | some (.dB v,σ)=>some (.dB v,σ.heap,σ.ids)
 | _=>none
def rz (P:Program)(i:Nat)(as:List AV)(H:Heap)(L:List Nat):Option (Nat×Nat×b6×St):=
 match H i with
 | some (.loop k r .ready ts)=>match cI P k r with
  | some x=>cond (Nat.beq x.1.size as.length) (some (k,r,x,⟨ts.length,dw (jf ts x.1.toList as),H,L⟩)) none
  | none=>none
 | _=>none
def lJ (i k r:Nat)(σ:St):Option St:=
 match σ.heap i with
 | some (.loop k' r' .ready ts)=>cond (Nat.beq k' k&&Nat.beq r' r) (some ⟨σ.nt,σ.tmps,aM σ.heap i (some (.loop k r .busy ts)),σ.ids⟩) none
 | _=>none
def Ex.st:Ex→EF
 | .cL=>.ready
 | .ret=>.done .ret
 | .exit i=>.done (.exit i)
 | .goto l=>.done (.goto l)
 | .dB _=>.ready
def Ex.cT:Ex→Bool
 | .dB _=>true
 | _=>false
def Ex.on:Ex→Bool
 | .cL=>true
 | _=>false
def qF (i k r:Nat)(e:Ex)(σ:St):Option (AV×Heap×List Nat):=
 match σ.heap i with
 | some (.loop k' r' .busy ts)=>cond (Nat.beq k' k&&Nat.beq r' r && !e.cT) (some (.lit (.bool e.on),aM σ.heap i (some (.loop k r e.st ts)),σ.ids)) none
 | _=>none
def tV (i k r:Nat)(asn body:St→Option (Ex×St))(σ:St):Option (AV×Heap×List Nat):=
 match asn σ with
 | some (.cL,σ1)=>match lJ i k r σ1 with
  | some σ2=>match body σ2 with
   | some (e,σ3)=>qF i k r e σ3
   | none=>none
  | none=>none
 | _=>none
def br (P:Program)(C:Cons)(Hn:Hints)(lf:Nat):Nat→gv
 | 0=>fun _ _ _ _ _=>none
 | n+1=>fun base c as H L=>match c with
  | .fn k=>match P.funcs[k]? with
   | some fn=>match fn.body with
    | some c=>cond (Nat.ble as.length fn.ntmps) (lZ P fn.results.toList (aB P C Hn (br P C Hn lf n) lf (Nat.succ base * 4294967296) L (some k) false c ⟨fn.ntmps,dw as,H,L⟩)) none
    | none=>none
   | none=>none
  | .fG i=>match rz P i as H L with
   | some (k,r,x,σ)=>tV i k r (aB P C Hn (br P C Hn lf n) lf (Nat.succ base * 4294967296) L none false x.2.1) (aB P C Hn (br P C Hn lf n) lf (Nat.succ base * 4294967296) L none false x.2.2) σ
   | none=>none
section
variable [aq]{P:Program}{C:Cons}{F:gv}{rd:Option Nat}{N:ar}{Dt:Bool×List Deferred}{B lf base:Nat}{w0:World}
omit [aq] in
theorem nO {f:St→Option (Ex×St)}(hf:∀ σ e σ',f σ=some (e,σ')→Bd σ→Bd σ'):∀ (n:Nat) (σ:St) (e:Ex) (σ':St),bP n f σ=some (e,σ')→Bd σ→Bd σ'
 | 0,σ,e,σ',h,_=>by simp[bP] at h
 | n+1,σ,e,σ',h,hB=>by
  simp only[bP] at h
  split at h
  ·rename_i σ1 h1;exact nO hf n σ1 e σ' h (hf _ _ _ h1 hB)
  ·rename_i h1;cases h;exact hf _ _ _ h1 hB
  ·rename_i h1;cases h;exact hf _ _ _ h1 hB
  ·rename_i h1;cases h;exact hf _ _ _ h1 hB
  ·simp at h
  ·simp at h
omit [aq] in
theorem fF {od:List Nat}{h:Option mZ}{r:Option (Ex×St)}{e:Ex}{σ':St}(hr:jj od h r=some (e,σ')) :
  r=some (e,σ')∨∃ σ h',r=some (e,σ)∧head od h' σ=some σ':=by
 unfold jj at hr
 split at hr
 ·rename_i e0 σ
  split at hr
  ·exact .inl hr
  ·split at hr
   ·split at hr
    ·rename_i h' _
     split at hr
     ·rename_i σ1 h1;cases hr;exact .inr ⟨σ,h',rfl,h1⟩
     ·simp at hr
    ·exact .inl hr
   ·split at hr
    ·rename_i h' _
     split at hr
     ·rename_i σ1 h1;cases hr;exact .inr ⟨σ,h',rfl,h1⟩
     ·simp at hr
    ·exact .inl hr
   ·exact .inl hr
 ·simp at hr
omit [aq] in
theorem FD {σ σ':St}{i:Nat}{H:Heap}{L:List Nat}{e:Ex}(h:js σ i H L=some (e,σ'))(hb:∀ q,H q≠none→q∈L):Bd σ':=by
 have key:∀ o,H i≠none→∀ q,aM H i o q≠none→q∈L:=by
  intro o hi q hq
  by_cases eq:q=i
  ·subst eq;exact hb q hi
  ·rw[ax _ _ eq] at hq;exact hb q hq
 unfold js at h
 split at h
 ·rename_i hH;cases h;exact key _ (by rw[hH];simp)
 ·rename_i hH;cases h;exact key _ (by rw[hH];simp)
 ·simp at h
theorem BU {g:Operand}{body:Code}{rf:Option Nat}{σ σ':St}{e:Ex}(hF:cy P F)(h:eE P F base rf g body σ=some (e,σ'))(hB:Bd σ):Bd σ':=by
 unfold eE at h
 split at h
 ·rename_i fid k first caps r hg hr
  split at h
  ·rename_i x hx
   split at h
   ·rename_i σ1 i hin
    split at h
    ·rename_i v H L hc hcall
     obtain⟨hi,e1⟩:=ah hin
     cases e1
     have:=(hF _ _ _ _ _ _ _ _ hcall (fun q hq=>by
      show q∈σ.ids++[jR base r]
      by_cases eq:q=jR base r
      ·subst eq;simp
      ·simp only at hq;rw[ax _ _ eq] at hq;simp[hB q hq])).1
     exact FD (bS h).2 this
    ·simp at h
   ·simp at h
  ·simp at h
 ·simp at h
theorem aH {Hn:Hints}{od:List Nat}{rf:Option Nat}(hF:cy P F):∀ (sc:Bool) (c:Code) (σ:St) (e:Ex) (σ':St),aB P C Hn F lf base od rf sc c σ=some (e,σ')→Bd σ→Bd σ'
 | sc,.skip,σ,e,σ',h,hB=>by simp only[aB] at h;cases h;exact hB
 | sc,.region id ops draw,σ,e,σ',h,hB=>by
  simp only[aB] at h
  cases draw with
  | true=>exact CC hF h hB
  | false=>exact zq hF _ _ _ _ h hB
 | false,.seq x y,σ,e,σ',h,hB=>by
  simp only[aB] at h
  split at h
  ·rename_i σ1 h1;exact aH hF false y σ1 e σ' h (aH hF false x σ _ σ1 h1 hB)
  ·rename_i h1;cases h;exact aH hF false x σ _ _ h1 hB
  ·rename_i h1;cases h;exact aH hF false x σ _ _ h1 hB
  ·rename_i h1;cases h;exact aH hF false x σ _ _ h1 hB
  ·rename_i h1;cases h;exact aH hF false x σ _ _ h1 hB
  ·simp at h
 | true,.seq x y,σ,e,σ',h,hB=>by
  simp only[aB] at h
  split at h
  ·rename_i l hl
   have fl:∀ σ e σ',fO l (aB P C Hn F lf base od rf false y σ)=some (e,σ')→Bd σ→Bd σ':=by
    intro σ e σ' h hB
    unfold fO at h
    split at h
    ·rename_i e1 σ1 h1
     split at h
     ·cases h;exact aH hF false y σ _ _ h1 hB
     ·simp at h
    ·simp at h
   unfold rU at h
   split at h
   ·rename_i e1 σ1 h1
    split at h
    ·cases h
     rcases fF h1 with h|⟨σ2,h',h,hh⟩
     ·refine nO (fun σ e σ' h hB=>?_) lf σ _ _ h hB
      unfold cx at h
      split at h
      ·exact fl σ e σ' h hB
      ·split at h
       ·rename_i σ1 h1;exact fl σ1 e σ' h (jG h1)
       ·simp at h
     ·exact jG hh
    ·simp at h
   ·simp at h
  ·split at h
   ·rename_i σ1 h1;exact aH hF true y σ1 e σ' h (aH hF false x σ _ σ1 h1 hB)
   ·rename_i h1;cases h;exact aH hF false x σ _ _ h1 hB
   ·rename_i h1;cases h;exact aH hF false x σ _ _ h1 hB
   ·rename_i h1;cases h;exact aH hF false x σ _ _ h1 hB
   ·simp at h
 | sc,.cond c x y,σ,e,σ',h,hB=>by
  simp only[aB] at h
  split at h
  ·rename_i b hb
   cases b with
   | true=>exact aH hF false x σ e σ' h hB
   | false=>exact aH hF false y σ e σ' h hB
  ·simp at h
 | sc,.block id x,σ,e,σ',h,hB=>by
  simp only[aB] at h
  split at h
  ·rename_i i σ1 h1
   have:=aH hF false x σ _ σ1 h1 hB
   cases hb:Nat.beq i id<;>rw[hb] at h<;>cases h<;>exact this
  ·exact aH hF false x σ e σ' h hB
 | sc,.loop x,σ,e,σ',h,hB=>by
  simp only[aB] at h
  rcases fF h with h|⟨σ1,h',h,hh⟩
  ·refine nO (fun σ e σ' h hB=>?_) lf _ e σ' h (Em hB)
   unfold cx at h
   split at h
   ·exact aH hF false x σ e σ' h hB
   ·split at h
    ·rename_i σ1 h1;exact aH hF false x σ1 e σ' h (jG h1)
    ·simp at h
  ·exact jG hh
 | sc,.exit id,σ,e,σ',h,hB=>by simp only[aB] at h;cases h;exact hB
 | sc,.label l,σ,e,σ',h,hB=>by simp only[aB] at h;cases h;exact hB
 | sc,.ret,σ,e,σ',h,hB=>by simp only[aB] at h;cases h;exact hB
 | sc,.rangeFunc g ps asn body,σ,e,σ',h,hB=>by simp only[aB] at h;exact BU hF h hB
 | sc,.scope x,σ,e,σ',h,hB=>by
  simp only[aB] at h
  cases hs:fE x with
  | false=>rw[hs] at h;simp at h
  | true=>
   rw[hs] at h
   simp only[cond_true] at h
   unfold noGoto at h
   split at h
   ·simp at h
   ·exact aH hF true x σ e σ' h hB
 | sc,.goto l,σ,e,σ',h,hB=>by simp only[aB] at h;cases h;exact hB
 | sc,.refuse _,σ,e,σ',h,hB=>by simp[aB] at h
section
variable {μo:Mu}{So:ar}{Ho:Heap}
omit [aq] in
theorem gN {next:Act→World→Prop}{Q:Exit→Act→World→Prop}{μ:Mu}{S:ar}{H:Heap}{e:Ex}{xe:Exit}(hn:e ≠ .cL)(hx:e.Is μ S H xe){a:Act}{w:World}(h:Q xe a w):Exit.then next Q xe a w:=by
 cases e with
 | cL=>exact absurd rfl hn
 | dB v=>obtain⟨u,rfl,_⟩:=hx;exact h
 | ret=>cases (show xe = .ret from hx);exact h
 | exit i=>cases (show xe = .exit i from hx);exact h
 | goto i=>cases (show xe = .goto i from hx);exact h
omit [aq] in
theorem Gx {id:Nat}{Q:Exit→Act→World→Prop}{μ:Mu}{S:ar}{H:Heap}{e:Ex}{xe:Exit}(hn:∀ i,e ≠ .exit i)(hx:e.Is μ S H xe){a:Act}{w:World}(h:Q xe a w):Exit.inBlock id Q xe a w:=by
 cases e with
 | cL=>cases (show xe = .normal from hx);exact h
 | dB v=>obtain⟨u,rfl,_⟩:=hx;exact h
 | ret=>cases (show xe = .ret from hx);exact h
 | exit i=>exact absurd rfl (hn i)
 | goto i=>cases (show xe = .goto i from hx);exact h
omit [aq] in
theorem lM {f:St→Option (Ex×St)}:∀ (n:Nat) (σ:St) (e:Ex) (σ':St),bP n f σ=some (e,σ')→e.cT=false
 | 0,σ,e,σ',h=>by simp[bP] at h
 | n+1,σ,e,σ',h=>by
  simp only[bP] at h
  split at h
  ·exact lM n _ e σ' h
  ·cases h;rfl
  ·cases h;rfl
  ·cases h;rfl
  ·simp at h
  ·simp at h
omit [aq] in
theorem Ex.Is.of {μ μ':Mu}{S S':ar}{H H':Heap}{e:Ex}{xe:Exit}(hp:e.cT=false)(hx:e.Is μ S H xe):e.Is μ' S' H' xe:=by
 cases e<;>first|exact hx|(simp[Ex.cT] at hp)
omit [aq] in
theorem Ex.Is.self {μ:Mu}{S:ar}{H:Heap}{e:Ex}(hp:e.cT=false):e.Is μ S H e.to:=by
 cases e<;>first|rfl|(simp[Ex.cT] at hp)
theorem FA {f:St→Option (Ex×St)}{x:Code}(hf:∀ σ e σ',f σ=some (e,σ')→Bd σ→Bd σ')
  (ih:∀ (σ:St) (e:Ex) (σ':St) (a:Act) (w:World) (μ:Mu) (S:ar) (Q:Exit→Act→World→Prop),f σ=some (e,σ')→Bd σ→AR So Dt μ S σ a→Rel μ S σ.heap B w0 w→Carry B μo So Ho μ S σ.heap →
   (∀ a' w' μ' S' xe,AR So Dt μ' S' σ' a'→Rel μ' S' σ'.heap B w0 w'→Carry B μo So Ho μ' S' σ'.heap→e.Is μ' S' σ'.heap xe→Q xe a' w')→x.wpIn (WF rd) 0 P Q a w) :
  ∀ (n:Nat) (σ:St) (e:Ex) (σ':St) (a:Act) (w:World) (μ:Mu) (S:ar) (Q:Exit→Act→World→Prop),bP n f σ=some (e,σ')→Bd σ→AR So Dt μ S σ a→Rel μ S σ.heap B w0 w→Carry B μo So Ho μ S σ.heap →
   (∀ a' w' μ' S' xe,AR So Dt μ' S' σ' a'→Rel μ' S' σ'.heap B w0 w'→Carry B μo So Ho μ' S' σ'.heap→e.Is μ' S' σ'.heap xe→Q xe a' w')→Code.roundsIn (WF rd) 0 P x Q n a w:=by
 intro n
 induction n with
 | zero=>intro σ e σ' a w μ S Q h;simp[bP] at h
 | succ n ihn=>
  intro σ e σ' a w μ S Q h hB A R Co hK
  rw[roundsIn_succ]
  simp only[bP] at h
  split at h
  ·rename_i σ1 h1
   refine ih σ .cL σ1 a w μ S _ h1 hB A R Co fun a1 w1 μ1 S1 xe A1 R1 C1 hx=>?_
   cases (show xe = .normal from hx)
   exact ihn σ1 e σ' a1 w1 μ1 S1 Q h (hf _ _ _ h1 hB) A1 R1 C1 hK
  ·rename_i i σ1 h1;cases h;exact ih σ (.exit i) _ a w μ S _ h1 hB A R Co fun a1 w1 μ1 S1 xe A1 R1 C1 hx=>by cases (show xe = .exit i from hx);exact hK a1 w1 μ1 S1 _ A1 R1 C1 rfl
  ·rename_i i σ1 h1;cases h;exact ih σ (.goto i) _ a w μ S _ h1 hB A R Co fun a1 w1 μ1 S1 xe A1 R1 C1 hx=>by cases (show xe = .goto i from hx);exact hK a1 w1 μ1 S1 _ A1 R1 C1 rfl
  ·rename_i σ1 h1;cases h;exact ih σ .ret _ a w μ S _ h1 hB A R Co fun a1 w1 μ1 S1 xe A1 R1 C1 hx=>by cases (show xe = .ret from hx);exact hK a1 w1 μ1 S1 _ A1 R1 C1 rfl
  ·simp at h
  ·simp at h
def bR (P:Program)(rf:Option Nat)(c:Code):Prop:=∀ fid,rf=some fid→∀ x∈aV c,∀ r y,b6.is x r=true→cI P fid r=some y→y=x
omit [aq] in
theorem bR.left {rf:Option Nat}{x y:Code}(h:bR P rf (.seq x y)):bR P rf x:=fun fid hf z hz=>h fid hf z (by simp[aV,hz])
omit [aq] in
theorem bR.right {rf:Option Nat}{x y:Code}(h:bR P rf (.seq x y)):bR P rf y:=fun fid hf z hz=>h fid hf z (by simp[aV,hz])
omit [aq] in
theorem bR.Rt {rf:Option Nat}{c:Operand}{x y:Code}(h:bR P rf (.cond c x y)):bR P rf x:=fun fid hf z hz=>h fid hf z (by simp[aV,hz])
omit [aq] in
theorem bR.Q6 {rf:Option Nat}{c:Operand}{x y:Code}(h:bR P rf (.cond c x y)):bR P rf y:=fun fid hf z hz=>h fid hf z (by simp[aV,hz])
omit [aq] in
theorem bR.block {rf:Option Nat}{id:Nat}{x:Code}(h:bR P rf (.block id x)):bR P rf x:=h
omit [aq] in
theorem bR.scope {rf:Option Nat}{x:Code}(h:bR P rf (.scope x)):bR P rf x:=h
omit [aq] in
theorem bR.loop {rf:Option Nat}{x:Code}(h:bR P rf (.loop x)):bR P rf x:=h
omit [aq] in
theorem bR.none {c:Code}:bR P none c:=fun _ h=>by simp at h
omit [aq] in
theorem bR.top {k:Nat}{fn:Func}{c:Code}(hfn:P.funcs[k]? = some fn)(hc:fn.body=some c):bR P (some k) c:=by
 intro fid hf x hx r y hr hy
 cases hf
 unfold cI at hy
 rw[hfn] at hy
 simp only[hc] at hy
 exact sX hy hx hr
omit [aq] in
theorem Fm {σ:St}{x:b6}{tmps:Array Value}{μ:Mu}{S:ar}{H:Heap}(hs:tmps.size=σ.nt)(h:∀ t,t<σ.nt→VR μ S H (σ.tmps t) (tmps.getD t undef)):aE μ S H (jZ σ x) tmps.toList:=by
 unfold jZ
 rw[show σ.nt=tmps.toList.length by simp[hs]]
 refine sZ _ 0 fun t ht=>?_
 have ht:t<σ.nt:=by rw[← hs];simpa using ht
 rw[Nat.zero_add]
 cases mem (fU x.2.1++fU x.2.2) t with
 | false=>simp only[cond_false,VR]
 | true=>
  simp only[cond_true]
  have:=h t ht
  rw[Array.getD_eq_getD_getElem?] at this
  rw[List.getD_eq_getElem?_getD,Array.getElem?_toList]
  exact this
theorem LG (hC:bI P C){σ:St}{a:Act}{w:World}{μ:Mu}{S:ar}{fid r i:Nat}{ps:Array Tmp}{asn body:Code}(hx:cI P fid r=some (ps,asn,body))(hi0:σ.heap i=none)
  (A:AR N Dt μ S σ a) (R:Rel μ S σ.heap B w0 w) (fnid:FuncId) :
  ∃ μ1 S1,Rel μ1 S1 (aM σ.heap i (some (.loop fid r .ready (jZ σ (ps,asn,body))))) B w0
    ((w.alloc (.deferred (some []))).alloc (.loop { state:=.ready,pending:=none,fn:=fnid,tmps:=a.tmps,params:=ps,assign:=asn,body:=body,defers:=w.heap.size })) ∧
   Carry B μ S σ.heap μ1 S1 (aM σ.heap i (some (.loop fid r .ready (jZ σ (ps,asn,body))))) ∧
   VR μ1 S1 (aM σ.heap i (some (.loop fid r .ready (jZ σ (ps,asn,body))))) (.fG i) (.func (.yield (w.heap.size+1)) #[] #[])∧S1 w.heap.size=some (.deferred (some [])):=by
 obtain⟨RD,CD⟩:=R.mark (.deferred (some []))
 have hm:μ i=none:=by
  have:=R.dom i
  rw[hi0] at this
  cases hm:μ i with
  | none=>rfl
  | some _=>rw[hm] at this;simp at this
 have E0:Ext μ (sM S w.heap.size (.deferred (some []))) σ.heap (aM μ i (some ⟨some (w.alloc (.deferred (some []))).heap.size,0,aP⟩)) (sM S w.heap.size (.deferred (some []))) (aM σ.heap i (some (.loop fid r .ready (jZ σ (ps,asn,body))))):=Ext.new hm
 obtain⟨R1,E1⟩:=RD.new hi0 (.loop { state:=.ready,pending:=none,fn:=fnid,tmps:=a.tmps,params:=ps,assign:=asn,body:=body,defers:=w.heap.size })
  (.loop fid r .ready (jZ σ (ps,asn,body))) ⟨some (w.alloc (.deferred (some []))).heap.size,0,aP⟩ rfl ⟨_,fnid,.ready,none,a.tmps,ps,asn,body,w.heap.size,rfl,RD.size,nT RD,by rw[hC.2.2];exact hx,⟨rfl,rfl⟩,alloc_heap_new _ _,
   Fm A.size fun t ht=>cJ E0 _ _ (CD.vr _ _ (A.tmp t ht))⟩
 refine⟨_,_,R1,CD.trans (Carry.of (B:=B) E1),?_,tJ⟩
 simp only[VR]
 exact⟨_,_,au _ _ _,fun o h=>by rw[au] at h;cases h;rfl,by simp⟩
omit [aq] in
theorem Carry.VX {μ μ':Mu}{S S':ar}{H H':Heap}(h:Carry B μ S H μ' S' H'){as:List AV}{us:Array Value}(hv:aE μ S H as us.toList):aE μ' S' H' as us.toList:=by
 have:=h.vr (.pI as) (.tuple us) (by simp only[VR];exact⟨us,rfl,hv⟩)
 simp only[VR] at this
 obtain⟨x,h1,h2⟩:=this
 cases h1
 exact h2
omit [aq] in
theorem sP {a:Act}{g:Operand}{k l:Nat}{x y:Array Value}{w:World}(h:a.eval g = .func (.func k) x y) :
  (resolve a.eval (rangeCall g l) 0).run P w = .ok { target:=.fn (.func k) y,args:=x ++ #[.func (.yield l) #[] #[]] } w:=by
 show (Deferred.ofValue (a.eval g) _).run P w=_
 rw[h]
 simp[Deferred.ofValue,rangeCall,Act.eval]
theorem LH {σ σ':St}{e:Ex}{a:Act}{w3:World}{μ μ2:Mu}{S S2:ar}{i b cp:Nat}{H2:Heap}{L2:List Nat}{Q:Exit→Act→World→Prop}(h:js σ i H2 L2=some (e,σ'))
  (hm2:μ2 i=some ⟨some b,cp,aP⟩) (R2:Rel μ2 S2 H2 B w0 w3) (AD:∀ {H3:Heap} (E:Ext μ2 S2 H2 μ2 S2 H3),AR N Dt μ2 S2 ⟨σ.nt,σ.tmps,H3,L2⟩ a) (CT:Carry B μ S σ.heap μ2 S2 H2)
  (hK:∀ w' μ' S',AR N Dt μ' S' σ' a→Rel μ' S' σ'.heap B w0 w'→Carry B μ S σ.heap μ' S' σ'.heap→Q e.to a w') (u:Value):rangePost (WF none) 0 P b Q a (.returned u) w3:=by
 unfold js at h
 split at h
 ·rename_i k' r' ts hH
  cases h
  obtain⟨L,hL,hr1,hst,hvs⟩:=R2.loop hH hm2
  obtain⟨R4,E4⟩:=R2.p6 (st':=.over) (L':={ L with state:=.exhausted }) hH hm2 hL ⟨rfl,rfl,rfl,rfl⟩ trivial
  refine⟨none,_,?_,hK _ μ2 S2 (AD E4) R4 (CT.trans (Carry.of E4))⟩
  rw[← hst.2]
  exact run_endLoop hL (by rw[hst.1];simp)
 ·rename_i k' r' j ts hH
  cases h
  obtain⟨L,hL,hr1,hst,hvs⟩:=R2.loop hH hm2
  obtain⟨R4,E4⟩:=R2.p6 (st':=.over) (L':={ L with state:=.exhausted }) hH hm2 hL ⟨rfl,rfl,rfl,rfl⟩ trivial
  refine⟨some j.code,_,by rw[← hst.2];exact run_endLoop hL (by rw[hst.1];simp),?_⟩
  have fin:=hK _ μ2 S2 (AD E4) R4 (CT.trans (Carry.of E4))
  cases j with
  | ret=>exact wpIn_ret fin
  | exit i=>exact wpIn_exit fin
  | goto l=>exact wpIn_goto fin
 ·simp at h
omit [aq] in
theorem yV {k:Nat}(hcb:gp P k=true):∃ fn c,P.funcs[k]? = some fn∧fn.body=some c∧(fn.name == "runtime.NumGoroutine")=false:=by
 unfold gp at hcb
 split at hcb
 ·rename_i fn hfn
  split at hcb
  ·rename_i c hc;exact⟨fn,c,hfn,hc,by simpa using hcb⟩
  ·simp at hcb
 ·simp at hcb
omit [aq] in
theorem Fs {k:Nat}(hcb:gp P k=true)(x y:Array Value)(w:World):(invoke (.fn (.func k) y) x).run P w = .ok (.enter k (x++y)) w:=by
 obtain⟨fn,cb,hfn,hbody,hname⟩:=yV hcb
 simp only[invoke,callFunc,Sem.run_bind,Sem.run_pure,Result.andThen_ok,run_program,hfn,hname,Bool.false_eq_true,if_false,hbody,Option.isNone_some]
theorem Bb {g:Operand}{ps:Array Tmp}{asn body:Code}{rf:Option Nat}{σ σ':St}{e:Ex}{a:Act}{w:World}{μ:Mu}{S:ar}{Q:Exit→Act→World→Prop}(hrf:rf≠none→rd=none∧Dt.1=false)(hC:bI P C)(hF:cy P F)
  (hg:bR P rf (.rangeFunc g ps asn body)) (h:eE P F base rf g body σ=some (e,σ')) (hB:Bd σ) (A:AR N Dt μ S σ a) (R:Rel μ S σ.heap B w0 w) (hsub:∀ b o,N b=some o→S b=some o)
  (hK:∀ a' w' μ' S',AR N Dt μ' S' σ' a'→Rel μ' S' σ'.heap B w0 w'→Carry B μ S σ.heap μ' S' σ'.heap→Q e.to a' w'):(Code.rangeFunc g ps asn body).wpIn (WF rd) 0 P Q a w:=by
 unfold eE at h
 split at h
 case h_2=>simp at h
 rename_i fid k first caps r hgv hfr
 split at h
 case h_2=>simp at h
 rename_i x hx
 have hxe:x=(ps,asn,body):=hg fid rfl (ps,asn,body) (by simp[aV]) r x (by simp[b6.is,hfr]) hx
 subst hxe
 split at h
 case h_2=>simp at h
 rename_i σ1 i hin
 obtain⟨hi0,e1⟩:=ah hin
 cases e1
 split at h
 case h_2=>simp at h
 rename_i v H2 L2 hcb hcall
 obtain⟨hnp,h⟩:=bS h
 have hrd:rd=none:=(hrf (by simp)).1
 have hfl:Dt.1=false:=(hrf (by simp)).2
 subst hrd
 have hv:=A.val g
 rw[hgv] at hv
 simp only[VR] at hv
 obtain⟨x1,y1,hge,hf1,hf2⟩:=hv
 have hi0:σ.heap (jR base r)=none:=by simpa using hi0
 refine wpIn_rangeFunc fun fnid _=>?_
 obtain⟨μ1,S1,R1,CT1,hyv,hSD⟩:=LG hC hx hi0 A R fnid
 refine⟨w.heap.size+1,_,_,_,_,k,_,_,run_enterLoop_outer fnid a.tmps ps asn body,sP hge,fun _ _=>trivial,Fs hcb _ _ _,fun h=>(by cases h),e7.2 ?_⟩
 have hB1:∀ q,aM σ.heap (jR base r) (some (.loop fid r .ready (jZ σ (ps,asn,body)))) q≠none→q∈σ.ids++[jR base r]:=by
  intro q hq
  by_cases eq:q=jR base r
  ·subst eq;simp
  ·rw[ax _ _ eq] at hq;simp[hB q hq]
 have hvs:aE μ1 S1 (aM σ.heap (jR base r) (some (.loop fid r .ready (jZ σ (ps,asn,body))))) (first++[.fG (jR base r)]++caps) (x1 ++ #[Value.func (.yield (w.heap.size+1)) #[] #[]]++y1).toList:=by
  simp only[Array.toList_append]
  exact bQ (bQ (CT1.VX hf1) (by simp only[aE];exact⟨_,[],rfl,hyv,rfl⟩)) (CT1.VX hf2)
 have hrun:=(hF _ _ _ _ _ _ _ _ hcall hB1).2 μ1 S1 B w0 _ _ R1 hvs
 clear hB1 hcall hF
 show pN P μ1 (.fn k) _ _ _
 refine pN.mono hrun ?_
 rintro e' w3 ⟨μ2,S2,q0,R2,C2⟩
 obtain⟨u,rfl,q1⟩:=q0.val hnp
 have hm2:=C2.vr _ _ hyv
 simp only[VR] at hm2
 obtain⟨b,cp,hm2,_,heq⟩:=hm2
 injection heq with heq;injection heq with heq
 subst heq
 have CT:=CT1.trans C2
 refine LH h hm2 R2 (fun {H3} E=>?_) CT (fun w' μ' S'=>hK _ w' μ' S') u
 obtain⟨ms,hms,⟨hnd,hmk⟩,_⟩:=A.defers
 refine⟨⟨w.heap.size::ms,by rw[hms];rfl,⟨List.nodup_cons.2 ⟨fun hD=>?_,hnd⟩,fun D hD=>?_⟩,fun h=>by rw[hfl] at h;simp at h⟩,A.size,fun t ht=>cJ E _ _ (CT.vr _ _ (A.tmp t ht))⟩
 ·have:=R.gf (hmk _ hD).2;omega
 ·rcases List.mem_cons.1 hD with rfl|hD
  ·refine⟨?_,C2.sub _ _ hSD⟩
   cases hn:N w.heap.size with
   | none=>rfl
   | some o=>have:=R.gf (hsub _ _ hn);omega
  ·exact⟨(hmk _ hD).1,C2.sub _ _ (CT1.sub _ _ (hmk _ hD).2)⟩
omit [aq] in
theorem sJ {g:Operand}{body:Code}{rf:Option Nat}{σ σ':St}{e:Ex}(h:eE P F base rf g body σ=some (e,σ')):e.cT=false:=by
 unfold eE at h
 split at h
 case h_2=>simp at h
 split at h
 case h_2=>simp at h
 split at h
 case h_2=>simp at h
 split at h
 case h_2=>simp at h
 have h:=(bS h).2
 unfold js at h
 split at h
 ·cases h;rfl
 ·rename_i j _ _;cases h;cases j<;>rfl
 ·simp at h
def iZ (F:Fence)(P:Program)(lf:Nat)(c:Code)(Q:Exit→Act→World→Prop):Exit→Act→World→Prop:=
 match bg c with
 | some (l,r)=>oX l (gL F 0 P l r Q lf) Q
 | none=>oX 0 (gL F 0 P 0 .skip Q 0) Q
omit [aq] in
theorem bx {F:Fence}{c:Code}{Q:Exit→Act→World→Prop}{μ:Mu}{S:ar}{H:Heap}(e:Ex)(xe:Exit)(hx:e.Is μ S H xe)(hne:∀ l,e ≠ .goto l)(a:Act)(w:World)(h:Q xe a w):iZ F P lf c Q xe a w:=by
 unfold iZ
 cases e with
 | goto l=>exact absurd rfl (hne l)
 | dB v=>
  obtain⟨u,rfl,_⟩:=hx
  cases bg c<;>exact h
 | cL=>cases (show xe = .normal from hx);cases bg c<;>exact h
 | ret=>cases (show xe = .ret from hx);cases bg c<;>exact h
 | exit i=>cases (show xe = .exit i from hx);cases bg c<;>exact h
def Code.Ni:Code→Bool
 | .seq _ _=>true
 | _=>false
omit [aq] in
theorem cN {Hn:Hints}{od:List Nat}{rf:Option Nat}{c:Code}{σ:St}(h:Code.Ni c=false):aB P C Hn F lf base od rf true c σ=aB P C Hn F lf base od rf false c σ:=by
 cases c<;>first|rfl|(simp[Code.Ni] at h)
omit [aq] in
theorem DF {l:Nat}{f:St→Option (Ex×St)}(hf:∀ σ e σ',f σ=some (e,σ')→Bd σ→Bd σ'){σ:St}{e:Ex}{σ':St}(h:fO l (f σ)=some (e,σ'))(hB:Bd σ):Bd σ':=by
 unfold fO at h
 split at h
 ·rename_i e1 σ1 h1
  split at h
  ·cases h;exact hf _ _ _ h1 hB
  ·simp at h
 ·simp at h
omit [aq] in
theorem tP {e e':Ex}(h:FN e=some e'):e'.cT=false:=by
 cases e with
 | exit i=>simp only[FN] at h;cases hb:Nat.beq i wG<;>rw[hb] at h<;>cases h<;>rfl
 | ret=>simp only[FN,Option.some.injEq] at h;subst h;rfl
 | cL=>simp[FN] at h
 | goto i=>simp[FN] at h
 | dB v=>simp[FN] at h
theorem CP {f:St→Option (Ex×St)}{y:Code}{l:Nat}(hf:∀ σ e σ',f σ=some (e,σ')→Bd σ→Bd σ')
  (ih:∀ (σ:St) (e:Ex) (σ':St) (a:Act) (w:World) (μ:Mu) (S:ar) (Q:Exit→Act→World→Prop),f σ=some (e,σ')→Bd σ→AR So Dt μ S σ a→Rel μ S σ.heap B w0 w→Carry B μo So Ho μ S σ.heap →
   (∀ e1,eU l e1=some e→∀ a' w' μ' S',AR So Dt μ' S' σ' a'→Rel μ' S' σ'.heap B w0 w'→Carry B μo So Ho μ' S' σ'.heap→Q e1.to a' w')→y.wpIn (WF rd) 0 P Q a w) {Q:Exit→Act→World→Prop} :
  ∀ (n:Nat) (σ:St) (e:Ex) (σ':St) (a:Act) (w:World) (μ:Mu) (S:ar),bP n f σ=some (e,σ')→Bd σ→AR So Dt μ S σ a→Rel μ S σ.heap B w0 w→Carry B μo So Ho μ S σ.heap →
   (∀ e3,FN e=some e3→∀ a' w' μ' S',AR So Dt μ' S' σ' a'→Rel μ' S' σ'.heap B w0 w'→Carry B μo So Ho μ' S' σ'.heap→Q e3.to a' w')→y.wpIn (WF rd) 0 P (oX l (gL (WF rd) 0 P l (.seq .skip y) Q n) Q) a w:=by
 intro n
 induction n with
 | zero=>intro σ e σ' a w μ S h;simp[bP] at h
 | succ n ihn=>
  intro σ e σ' a w μ S h hB A R Co hK
  simp only[bP] at h
  have last:∀ {e0:Ex} {σ0:St},f σ=some (e0,σ0)→e0=e→σ0=σ'→e0 ≠ .cL→y.wpIn (WF rd) 0 P (oX l (gL (WF rd) 0 P l (.seq .skip y) Q (n+1)) Q) a w:=by
   intro e0 σ0 h1 he hσ hn
   subst he hσ
   refine ih σ _ _ a w μ S _ h1 hB A R Co fun e1 h1 a1 w1 μ1 S1 A1 R1 C1=>?_
   cases e1 with
   | cL=>
    simp only[eU,Option.some.injEq] at h1
    subst h1
    exact hK .cL (by simp[FN]) a1 w1 μ1 S1 A1 R1 C1
   | goto i=>
    simp only[eU] at h1
    obtain⟨_,h1⟩:=ah h1
    exact absurd h1.symm hn
   | exit i=>
    simp only[eU] at h1
    obtain⟨hi,h1⟩:=bS h1
    cases h1
    exact hK (.exit i) (by simp only[FN,hi,cond_false]) a1 w1 μ1 S1 A1 R1 C1
   | ret=>
    simp only[eU,Option.some.injEq] at h1
    subst h1
    exact hK .ret rfl a1 w1 μ1 S1 A1 R1 C1
   | dB v=>simp[eU] at h1
  split at h
  ·rename_i σ1 h1
   refine ih σ .cL σ1 a w μ S _ h1 hB A R Co fun e1 h2 a1 w1 μ1 S1 A1 R1 C1=>?_
   cases e1 with
   | goto i=>
    simp only[eU] at h2
    obtain⟨hi,_⟩:=ah h2
    refine⟨Nat.eq_of_beq_eq_true hi,?_⟩
    show (Code.seq .skip y).wpIn (WF rd) 0 P _ a1 w1
    refine wpIn_seq (wpIn_skip ?_)
    exact ihn σ1 e σ' a1 w1 μ1 S1 h (hf _ _ _ h1 hB) A1 R1 C1 hK
   | cL=>simp[eU] at h2
   | exit i=>
    simp only[eU] at h2
    obtain⟨_,h2⟩:=bS h2
    simp at h2
   | ret=>simp[eU] at h2
   | dB v=>simp[eU] at h2
  ·rename_i i σ1 h1;cases h;exact last h1 rfl rfl (by simp)
  ·rename_i i σ1 h1;cases h;exact last h1 rfl rfl (by simp)
  ·rename_i σ1 h1;cases h;exact last h1 rfl rfl (by simp)
  ·simp at h
  ·simp at h
set_option maxHeartbeats 4000000 in
mutual
theorem aD {Hn:Hints}{od:List Nat}{rf:Option Nat}(hrf:rf≠none→rd=none∧Dt.1=false)(hC:bI P C)(hF:cy P F)(hod:∀ i,μo i≠none→i∈od) :
  ∀ (c:Code),bR P rf c→∀ (σ:St) (e:Ex) (σ':St) (a:Act) (w:World) (μ:Mu) (S:ar) (Q:Exit→Act→World→Prop),
  aB P C Hn F lf base od rf false c σ=some (e,σ')→Bd σ→AR So Dt μ S σ a→Rel μ S σ.heap B w0 w→Carry B μo So Ho μ S σ.heap →
  (∀ a' w' μ' S' xe,AR So Dt μ' S' σ' a'→Rel μ' S' σ'.heap B w0 w'→Carry B μo So Ho μ' S' σ'.heap→e.Is μ' S' σ'.heap xe→Q xe a' w')→c.wpIn (WF rd) 0 P Q a w
 | .skip,hg,σ,e,σ',a,w,μ,S,Q,h,hB,A,R,Co,hK=>by
  simp only[aB] at h;cases h;exact wpIn_skip (hK a w μ S _ A R Co rfl)
 | .region id ops draw,hg,σ,e,σ',a,w,μ,S,Q,h,hB,A,R,Co,hK=>by
  simp only[aB] at h
  cases draw with
  | true=>exact De hC hF h hB A R fun a' w' μ' S' x A' R' C' hx=>hK a' w' μ' S' x A' R' (Co.trans C') hx
  | false=>exact wpIn_region (yg hC hF _ _ _ _ a w μ S h hB A R fun a' w' μ' S' x A' R' C' hx=>hK a' w' μ' S' x A' R' (Co.trans C') hx)
 | .seq x y,hg,σ,e,σ',a,w,μ,S,Q,h,hB,A,R,Co,hK=>by
  simp only[aB] at h
  refine wpIn_seq ?_
  split at h
  ·rename_i σ1 h1
   refine aD hrf hC hF hod x hg.left σ .cL σ1 a w μ S _ h1 hB A R Co fun a1 w1 μ1 S1 xe A1 R1 C1 hx=>?_
   cases (show xe = .normal from hx)
   exact aD hrf hC hF hod y hg.right σ1 e σ' a1 w1 μ1 S1 Q h (aH hF false x σ _ σ1 h1 hB) A1 R1 C1 hK
  ·rename_i i σ1 h1;cases h;exact aD hrf hC hF hod x hg.left σ (.exit i) _ a w μ S _ h1 hB A R Co fun a1 w1 μ1 S1 xe A1 R1 C1 hx=>gN (by simp) hx (hK a1 w1 μ1 S1 xe A1 R1 C1 hx)
  ·rename_i i σ1 h1;cases h;exact aD hrf hC hF hod x hg.left σ (.goto i) _ a w μ S _ h1 hB A R Co fun a1 w1 μ1 S1 xe A1 R1 C1 hx=>gN (by simp) hx (hK a1 w1 μ1 S1 xe A1 R1 C1 hx)
  ·rename_i σ1 h1;cases h;exact aD hrf hC hF hod x hg.left σ .ret _ a w μ S _ h1 hB A R Co fun a1 w1 μ1 S1 xe A1 R1 C1 hx=>gN (by simp) hx (hK a1 w1 μ1 S1 xe A1 R1 C1 hx)
  ·rename_i v σ1 h1;cases h;exact aD hrf hC hF hod x hg.left σ (.dB v) _ a w μ S _ h1 hB A R Co fun a1 w1 μ1 S1 xe A1 R1 C1 hx=>gN (by simp) hx (hK a1 w1 μ1 S1 xe A1 R1 C1 hx)
  ·simp at h
 | .cond c x y,hg,σ,e,σ',a,w,μ,S,Q,h,hB,A,R,Co,hK=>by
  simp only[aB] at h
  split at h
  ·rename_i b hb
   have hv:=A.val c
   rw[hb] at hv
   simp only[VR] at hv
   refine wpIn_cond hv ?_
   cases b with
   | true=>exact aD hrf hC hF hod x hg.Rt σ e σ' a w μ S Q h hB A R Co hK
   | false=>exact aD hrf hC hF hod y hg.Q6 σ e σ' a w μ S Q h hB A R Co hK
  ·simp at h
 | .block id x,hg,σ,e,σ',a,w,μ,S,Q,h,hB,A,R,Co,hK=>by
  simp only[aB] at h
  refine wpIn_block ?_
  split at h
  ·rename_i i σ1 h1
   refine aD hrf hC hF hod x hg.block σ (.exit i) σ1 a w μ S _ h1 hB A R Co fun a1 w1 μ1 S1 xe A1 R1 C1 hx=>?_
   cases (show xe = .exit i from hx)
   simp only[Exit.inBlock]
   cases hb:Nat.beq i id with
   | true=>
    rw[hb] at h;simp only[cond_true,Option.some.injEq,Prod.mk.injEq] at h
    obtain⟨rfl,rfl⟩:=h
    rw[if_pos (Nat.eq_of_beq_eq_true hb)]
    exact hK a1 w1 μ1 S1 _ A1 R1 C1 rfl
   | false=>
    rw[hb] at h;simp only[cond_false,Option.some.injEq,Prod.mk.injEq] at h
    obtain⟨rfl,rfl⟩:=h
    rw[if_neg (fun e=>by subst e;simp at hb)]
    exact hK a1 w1 μ1 S1 _ A1 R1 C1 rfl
  ·rename_i r hne
   refine aD hrf hC hF hod x hg.block σ e σ' a w μ S _ h hB A R Co fun a1 w1 μ1 S1 xe A1 R1 C1 hx=>?_
   exact Gx (fun i he=>hne i σ' (he ▸ h)) hx (hK a1 w1 μ1 S1 xe A1 R1 C1 hx)
 | .loop x,hg,σ,e,σ',a,w,μ,S,Q,h,hB,A,R,Co,hK=>by
  simp only[aB] at h
  have main:∀ (σ2:St),bP lf (cx od (hintOf Hn base x σ) (aB P C Hn F lf base od rf false x)) (Cu (hintOf Hn base x σ) σ)=some (e,σ2) →
    (∀ a' w' μ' S' xe,AR So Dt μ' S' σ2 a'→Rel μ' S' σ2.heap B w0 w'→Carry B μo So Ho μ' S' σ2.heap→e.Is μ' S' σ2.heap xe→Q xe a' w')→(Code.loop x).wpIn (WF rd) 0 P Q a w:=by
   intro σ2 h hK
   obtain⟨μ0,A0,R0,C0⟩:=Lh (h:=hintOf Hn base x σ) A R Co
   refine wpIn_loop_rounds lf (FA (μo:=μo) (So:=So) (Ho:=Ho) (fun σ e σ' h hB=>?_) (fun σ e σ' a w μ S Q h hB A R Co hK=>?_) lf _ e σ2 a w μ0 S Q h (Em hB) A0 R0 C0 hK)
   ·unfold cx at h
    split at h
    ·exact aH hF false x σ e σ' h hB
    ·split at h
     ·rename_i σ1 h1;exact aH hF false x σ1 e σ' h (jG h1)
     ·simp at h
   ·unfold cx at h
    split at h
    ·exact aD hrf hC hF hod x hg.loop σ e σ' a w μ S Q h hB A R Co hK
    ·split at h
     ·rename_i σ1 h1
      obtain⟨μ1,A1,R1,C1,B1⟩:=qk h1 A R hod Co
      exact aD hrf hC hF hod x hg.loop σ1 e σ' a w μ1 S Q h B1 A1 R1 C1 hK
     ·simp at h
  rcases fF h with h|⟨σ2,h',h,hh⟩
  ·exact main σ' h hK
  ·refine main σ2 h fun a' w' μ' S' xe A' R' C' hx=>?_
   obtain⟨μ1,A1,R1,C1,B1⟩:=qk hh A' R' hod C'
   exact hK a' w' μ1 S' xe A1 R1 C1 (hx.of (lM _ _ _ _ h))
 | .exit id,hg,σ,e,σ',a,w,μ,S,Q,h,hB,A,R,Co,hK=>by
  simp only[aB] at h;cases h;exact wpIn_exit (hK a w μ S _ A R Co rfl)
 | .label l,hg,σ,e,σ',a,w,μ,S,Q,h,hB,A,R,Co,hK=>by
  simp only[aB] at h;cases h;exact wpIn_label (hK a w μ S _ A R Co rfl)
 | .ret,hg,σ,e,σ',a,w,μ,S,Q,h,hB,A,R,Co,hK=>by
  simp only[aB] at h;cases h;exact wpIn_ret (hK a w μ S _ A R Co rfl)
 | .rangeFunc g ps asn body,hg,σ,e,σ',a,w,μ,S,Q,h,hB,A,R,Co,hK=>by
  simp only[aB] at h
  exact Bb hrf hC hF hg h hB A R Co.sub fun a' w' μ' S' A' R' C'=>hK a' w' μ' S' _ A' R' (Co.trans C') (Ex.Is.self (sJ h))
 | .scope x,hg,σ,e,σ',a,w,μ,S,Q,h,hB,A,R,Co,hK=>by
  simp only[aB] at h
  cases hs:fE x with
  | false=>rw[hs] at h;simp at h
  | true=>
  rw[hs] at h
  simp only[cond_true] at h
  unfold noGoto at h
  split at h
  ·simp at h
  ·rename_i hne
   have:=r8 hrf hC hF hod x hg.scope σ e σ' a w μ S Q h (fun l he=>by subst he;exact hne _ _ h) hB A R Co hK
   unfold iZ at this
   split at this
   ·rename_i l r hl
    exact fI lf (fun _=>su hs hl) this
   ·exact fI (l:=0) (r:=.skip) 0 (fun h=>absurd h (by omega)) this
 | .goto l,hg,σ,e,σ',a,w,μ,S,Q,h,hB,A,R,Co,hK=>by
  simp only[aB] at h;cases h;exact wpIn_goto (hK a w μ S _ A R Co rfl)
 | .refuse _,hg,σ,e,σ',a,w,μ,S,Q,h,hB,A,R,Co,hK=>by simp[aB] at h
theorem r8 {Hn:Hints}{od:List Nat}{rf:Option Nat}(hrf:rf≠none→rd=none∧Dt.1=false)(hC:bI P C)(hF:cy P F)(hod:∀ i,μo i≠none→i∈od) :
  ∀ (c:Code),bR P rf c→∀ (σ:St) (e:Ex) (σ':St) (a:Act) (w:World) (μ:Mu) (S:ar) (Q:Exit→Act→World→Prop),
  aB P C Hn F lf base od rf true c σ=some (e,σ')→(∀ l,e ≠ .goto l)→Bd σ→AR So Dt μ S σ a→Rel μ S σ.heap B w0 w→Carry B μo So Ho μ S σ.heap →
  (∀ a' w' μ' S' xe,AR So Dt μ' S' σ' a'→Rel μ' S' σ'.heap B w0 w'→Carry B μo So Ho μ' S' σ'.heap→e.Is μ' S' σ'.heap xe→Q xe a' w')→c.wpIn (WF rd) 0 P (iZ (WF rd) P lf c Q) a w
 | .seq x y,hg,σ,e,σ',a,w,μ,S,Q,h,hne,hB,A,R,Co,hK=>by
  simp only[aB] at h
  cases hl:ld x with
  | some l=>
   rw[hl] at h
   have hx:=rA hl
   subst hx
   have hJ:iZ (WF rd) P lf (.seq (.label l) y) Q=oX l (gL (WF rd) 0 P l (.seq .skip y) Q lf) Q:=rfl
   rw[hJ]
   refine wpIn_seq (wpIn_label ?_)
   simp only at h
   show y.wpIn (WF rd) 0 P _ a w
   have main:∀ (σ2:St) (e2:Ex),bP lf (cx od (hintOf Hn base y σ) fun σ=>fO l (aB P C Hn F lf base od rf false y σ)) σ=some (e2,σ2) →
     (∀ e3,FN e2=some e3→∀ a' w' μ' S',AR So Dt μ' S' σ2 a'→Rel μ' S' σ2.heap B w0 w'→Carry B μo So Ho μ' S' σ2.heap→Q e3.to a' w')→y.wpIn (WF rd) 0 P (oX l (gL (WF rd) 0 P l (.seq .skip y) Q lf) Q) a w:=by
    intro σ2 e2 h hK
    refine CP (μo:=μo) (So:=So) (Ho:=Ho) (f:=cx od (hintOf Hn base y σ) fun σ=>fO l (aB P C Hn F lf base od rf false y σ)) (fun σ e σ' h hB=>?_) (fun σ e σ' a w μ S Q h hB A R Co hK=>?_) lf σ e2 σ2 a w μ S h hB A R Co hK
    ·unfold cx at h
     split at h
     ·exact DF (fun σ e σ'=>aH hF false y σ e σ') h hB
     ·split at h
      ·rename_i σ1 h1;exact DF (fun σ e σ'=>aH hF false y σ e σ') h (jG h1)
      ·simp at h
    ·have go:∀ (σ:St) (μ:Mu),fO l (aB P C Hn F lf base od rf false y σ)=some (e,σ')→Bd σ→AR So Dt μ S σ a→Rel μ S σ.heap B w0 w→Carry B μo So Ho μ S σ.heap→y.wpIn (WF rd) 0 P Q a w:=by
      intro σ μ h hB A R Co
      unfold fO at h
      split at h
      ·rename_i e1 σ1 h1
       split at h
       ·rename_i e4 h4
        cases h
        refine aD hrf hC hF hod y hg.right σ e1 _ a w μ S Q h1 hB A R Co fun a' w' μ' S' xe A' R' C' hx=>?_
        have he1:e1.cT=false:=by cases e1<;>first|rfl|(simp[eU] at h4)
        have hxe:xe=e1.to:=by cases e1<;>first|exact hx|(simp[Ex.cT] at he1)
        subst hxe
        exact hK e1 h4 a' w' μ' S' A' R' C'
       ·simp at h
      ·simp at h
     unfold cx at h
     split at h
     ·exact go σ μ h hB A R Co
     ·split at h
      ·rename_i σ1 h1
       obtain⟨μ1,A1,R1,C1,B1⟩:=qk h1 A R hod Co
       exact go σ1 μ1 h B1 A1 R1 C1
      ·simp at h
   unfold rU at h
   split at h
   ·rename_i e1 σ1 h1
    split at h
    ·rename_i e2 h2
     cases h
     rcases fF h1 with h|⟨σ2,h',h,hh⟩
     ·exact main _ _ h fun e3 h3 a' w' μ' S' A' R' C'=>by rw[h2] at h3;cases h3;exact hK a' w' μ' S' _ A' R' C' (Ex.Is.self (tP h2))
     ·refine main σ2 _ h fun e3 h3 a' w' μ' S' A' R' C'=>?_
      rw[h2] at h3;cases h3
      obtain⟨μ1,A1,R1,C1,B1⟩:=qk hh A' R' hod C'
      exact hK a' w' μ1 S' _ A1 R1 C1 (Ex.Is.self (tP h2))
    ·simp at h
   ·simp at h
  | none=>
   rw[hl] at h
   simp only at h
   have hJ:iZ (WF rd) P lf (.seq x y) Q=iZ (WF rd) P lf y Q:=by unfold iZ;simp only[bg,hl]
   rw[hJ]
   refine wpIn_seq ?_
   split at h
   ·rename_i σ1 h1
    refine aD hrf hC hF hod x hg.left σ .cL σ1 a w μ S _ h1 hB A R Co fun a1 w1 μ1 S1 xe A1 R1 C1 hx=>?_
    cases (show xe = .normal from hx)
    exact r8 hrf hC hF hod y hg.right σ1 e σ' a1 w1 μ1 S1 Q h hne (aH hF false x σ _ σ1 h1 hB) A1 R1 C1 hK
   ·rename_i i σ1 h1;cases h;exact aD hrf hC hF hod x hg.left σ (.exit i) _ a w μ S _ h1 hB A R Co fun a' w' μ' S' xe A' R' C' hx=>gN (by simp) hx (bx _ xe hx hne _ _ (hK a' w' μ' S' xe A' R' C' hx))
   ·rename_i σ1 h1;cases h;exact aD hrf hC hF hod x hg.left σ .ret _ a w μ S _ h1 hB A R Co fun a' w' μ' S' xe A' R' C' hx=>gN (by simp) hx (bx _ xe hx hne _ _ (hK a' w' μ' S' xe A' R' C' hx))
   ·rename_i v σ1 h1;cases h;exact aD hrf hC hF hod x hg.left σ (.dB v) _ a w μ S _ h1 hB A R Co fun a' w' μ' S' xe A' R' C' hx=>gN (by simp) hx (bx _ xe hx hne _ _ (hK a' w' μ' S' xe A' R' C' hx))
   ·simp at h
 | .skip,hg,σ,e,σ',a,w,μ,S,Q,h,hne,hB,A,R,Co,hK=>aD hrf hC hF hod (.skip) hg σ e σ' a w μ S _ (by rw[← cN (by rfl)];exact h) hB A R Co fun a' w' μ' S' xe A' R' C' hx=>bx e xe hx hne _ _ (hK a' w' μ' S' xe A' R' C' hx)
 | .region i o d,hg,σ,e,σ',a,w,μ,S,Q,h,hne,hB,A,R,Co,hK=>aD hrf hC hF hod (.region i o d) hg σ e σ' a w μ S _ (by rw[← cN (by rfl)];exact h) hB A R Co fun a' w' μ' S' xe A' R' C' hx=>bx e xe hx hne _ _ (hK a' w' μ' S' xe A' R' C' hx)
 | .cond i x y,hg,σ,e,σ',a,w,μ,S,Q,h,hne,hB,A,R,Co,hK=>aD hrf hC hF hod (.cond i x y) hg σ e σ' a w μ S _ (by rw[← cN (by rfl)];exact h) hB A R Co fun a' w' μ' S' xe A' R' C' hx=>bx e xe hx hne _ _ (hK a' w' μ' S' xe A' R' C' hx)
 | .block i x,hg,σ,e,σ',a,w,μ,S,Q,h,hne,hB,A,R,Co,hK=>aD hrf hC hF hod (.block i x) hg σ e σ' a w μ S _ (by rw[← cN (by rfl)];exact h) hB A R Co fun a' w' μ' S' xe A' R' C' hx=>bx e xe hx hne _ _ (hK a' w' μ' S' xe A' R' C' hx)
 | .loop x,hg,σ,e,σ',a,w,μ,S,Q,h,hne,hB,A,R,Co,hK=>aD hrf hC hF hod (.loop x) hg σ e σ' a w μ S _ (by rw[← cN (by rfl)];exact h) hB A R Co fun a' w' μ' S' xe A' R' C' hx=>bx e xe hx hne _ _ (hK a' w' μ' S' xe A' R' C' hx)
 | .exit i,hg,σ,e,σ',a,w,μ,S,Q,h,hne,hB,A,R,Co,hK=>aD hrf hC hF hod (.exit i) hg σ e σ' a w μ S _ (by rw[← cN (by rfl)];exact h) hB A R Co fun a' w' μ' S' xe A' R' C' hx=>bx e xe hx hne _ _ (hK a' w' μ' S' xe A' R' C' hx)
 | .label i,hg,σ,e,σ',a,w,μ,S,Q,h,hne,hB,A,R,Co,hK=>aD hrf hC hF hod (.label i) hg σ e σ' a w μ S _ (by rw[← cN (by rfl)];exact h) hB A R Co fun a' w' μ' S' xe A' R' C' hx=>bx e xe hx hne _ _ (hK a' w' μ' S' xe A' R' C' hx)
 | .ret,hg,σ,e,σ',a,w,μ,S,Q,h,hne,hB,A,R,Co,hK=>aD hrf hC hF hod (.ret) hg σ e σ' a w μ S _ (by rw[← cN (by rfl)];exact h) hB A R Co fun a' w' μ' S' xe A' R' C' hx=>bx e xe hx hne _ _ (hK a' w' μ' S' xe A' R' C' hx)
 | .rangeFunc g p x y,hg,σ,e,σ',a,w,μ,S,Q,h,hne,hB,A,R,Co,hK=>aD hrf hC hF hod (.rangeFunc g p x y) hg σ e σ' a w μ S _ (by rw[← cN (by rfl)];exact h) hB A R Co fun a' w' μ' S' xe A' R' C' hx=>bx e xe hx hne _ _ (hK a' w' μ' S' xe A' R' C' hx)
 | .scope x,hg,σ,e,σ',a,w,μ,S,Q,h,hne,hB,A,R,Co,hK=>aD hrf hC hF hod (.scope x) hg σ e σ' a w μ S _ (by rw[← cN (by rfl)];exact h) hB A R Co fun a' w' μ' S' xe A' R' C' hx=>bx e xe hx hne _ _ (hK a' w' μ' S' xe A' R' C' hx)
 | .goto i,hg,σ,e,σ',a,w,μ,S,Q,h,hne,hB,A,R,Co,hK=>aD hrf hC hF hod (.goto i) hg σ e σ' a w μ S _ (by rw[← cN (by rfl)];exact h) hB A R Co fun a' w' μ' S' xe A' R' C' hx=>bx e xe hx hne _ _ (hK a' w' μ' S' xe A' R' C' hx)
 | .refuse i,hg,σ,e,σ',a,w,μ,S,Q,h,hne,hB,A,R,Co,hK=>aD hrf hC hF hod (.refuse i) hg σ e σ' a w μ S _ (by rw[← cN (by rfl)];exact h) hB A R Co fun a' w' μ' S' xe A' R' C' hx=>bx e xe hx hne _ _ (hK a' w' μ' S' xe A' R' C' hx)
end
end
def wE (tmps:Array Value):ResultVar→Sem Value
 | .tmp t=>pure (tmps.getD t undef)
 | .cell x t=>do loadVar t (← asAddr (tmps.getD x undef))
theorem Gd {σ:St}{a:Act}{w:World}{μ:Mu}{S:ar}(A:AR N Dt μ S σ a)(R:Rel μ S σ.heap B w0 w){r:ResultVar}{v:AV}(h:IB P σ r=some v) :
  ∃ u,(wE a.tmps r).run P w = .ok u w∧VR μ S σ.heap v u:=by
 cases r with
 | tmp t=>
  obtain⟨h1,rfl⟩:=ah h
  exact⟨_,rfl,A.tmp t (cq h1)⟩
 | cell x t=>
  simp only[IB] at h
  split at h
  ·rename_i i off hx
   split at h
   ·rename_i t' cs hH
    have hv:=A.val (.tmp x)
    rw[hx] at hv
    simp only[VR] at hv
    obtain⟨b,c,hm,_,e⟩:=hv
    obtain⟨vs,hb,hvs⟩:=oK R hH hm
    obtain⟨u,hu,hv⟩:=cz (P:=P) (w:=w) (ad:=⟨b,0,none⟩) hvs (fun j u hj=>by rw[aK,Nat.zero_add,cell_of hb];simpa using hj) h
    rw[aK,Nat.zero_add] at hu
    have e':a.tmps.getD x undef = .pointer (some ⟨b,off,none⟩):=e
    refine⟨u,?_,hv⟩
    simp only[wE,e',asAddr,Sem.run_bind,Sem.run_pure,Result.andThen_ok,hu]
   ·simp at h
  ·simp at h
theorem tr {σ:St}{a:Act}{w:World}{μ:Mu}{S:ar}(A:AR N Dt μ S σ a)(R:Rel μ S σ.heap B w0 w):∀ {rs:List ResultVar} {vs:List AV},cX P σ rs=some vs →
  ∃ us,(rs.mapM (wE a.tmps)).run P w = .ok us w∧aE μ S σ.heap vs us
 | [],vs,h=>by
  simp only[cX,Option.some.injEq] at h;subst h
  exact⟨[],by simp,by simp[aE]⟩
 | r::rs,vs,h=>by
  simp only[cX] at h
  split at h
  ·rename_i v vs' h1 h2
   cases h
   obtain⟨u,k1,k2⟩:=Gd A R h1
   obtain⟨us,q1,q2⟩:=tr A R h2
   refine⟨u::us,?_,by simp only[aE];exact⟨u,us,rfl,k2,q2⟩⟩
   rw[List.mapM_cons]
   simp only[Sem.run_bind,k1,q1,Result.andThen_ok,Sem.run_pure]
  ·simp at h
theorem rD {fn:Func}{σ:St}{a:Act}{w:World}{μ:Mu}{S:ar}(A:AR N Dt μ S σ a)(R:Rel μ S σ.heap B w0 w){vs:List AV}(h:cX P σ fn.results.toList=some vs) :
  ∃ u,(results fn a.tmps).run P w = .ok u w∧VR μ S σ.heap (eA vs) u:=by
 obtain⟨us,h1,h2⟩:=tr A R h
 refine⟨fP us,?_,qC h2⟩
 have e:results fn a.tmps=(do
   let vs ← fn.results.mapM (wE a.tmps)
   pure (if h:vs.size=1 then vs[0] else .tuple vs)):=by
  unfold results
  congr 1
  all_goals (congr 1;try (funext r;cases r<;>rfl))
 rw[e,Array.mapM_eq_mapM_toList]
 simp only[Sem.run_bind,Sem.run_map,Result.andThen_ok,h1,Sem.run_pure]
 match us with
 | []=>rfl
 | [u]=>rfl
 | u::v::us=>simp[fP]
omit [aq] in
theorem lD {μ:Mu}{S:ar}{H:Heap}:∀ {as:List AV} {vs:List Value},aE μ S H as vs→∀ t,VR μ S H (dw as t) (vs.getD t undef)
 | [],vs,h,t=>by simp only[aE] at h;subst h;simp[dw,VR]
 | a::as,vs,h,t=>by
  simp only[aE] at h
  obtain⟨v,r,rfl,h1,h2⟩:=h
  cases t with
  | zero=>simpa [dw] using h1
  | succ t=>simpa [dw] using lD h2 t
omit [aq] in
theorem F6 {i k r:Nat}{f g:St→Option (Ex×St)}{σ:St}{v:AV}{H':Heap}{L':List Nat}(hf:∀ σ e σ',f σ=some (e,σ')→Bd σ→Bd σ')(hg:∀ σ e σ',g σ=some (e,σ')→Bd σ→Bd σ')
  (h:tV i k r f g σ=some (v,H',L')) (hB:Bd σ):∀ q,H' q≠none→q∈L':=by
 unfold tV at h
 split at h
 ·rename_i σ1 h1
  split at h
  ·rename_i σ2 h2
   split at h
   ·rename_i e σ3 h3
    have B1:=hf _ _ _ h1 hB
    have B2:Bd σ2:=by
     unfold lJ at h2
     split at h2
     ·rename_i hH
      obtain⟨_,e2⟩:=ah h2
      cases e2
      intro q hq
      by_cases eq:q=i
      ·subst eq;exact B1 q (by rw[hH];simp)
      ·simp only at hq;rw[ax _ _ eq] at hq;exact B1 q hq
     ·simp at h2
    have B3:=hg _ _ _ h3 B2
    unfold qF at h
    split at h
    ·rename_i hH
     obtain⟨_,e2⟩:=ah h
     cases e2
     intro q hq
     by_cases eq:q=i
     ·subst eq;exact B3 q (by rw[hH];simp)
     ·rw[ax _ _ eq] at hq;exact B3 q hq
    ·simp at h
   ·simp at h
  ·simp at h
 ·simp at h
theorem Gc {Hn:Hints}:∀ n id k as H L v H' L',cy P (br P C Hn lf n)→br P C Hn lf (n+1) id k as H L=some (v,H',L')→(∀ q,H q≠none→q∈L)→∀ q,H' q≠none→q∈L':=by
 intro n id k as H L v H' L' hF h hB
 cases k with
 | fn k=>
  simp only[br] at h
  split at h
  ·rename_i fn hfn
   split at h
   ·rename_i c hc
    cases hle:Nat.ble as.length fn.ntmps with
    | false=>rw[hle] at h;simp at h
    | true=>
     rw[hle] at h
     simp only[cond_true] at h
     unfold lZ at h
     split at h
     ·rename_i σ he
      split at h
      ·cases h;exact aH hF false c _ _ σ he hB
      ·simp at h
     ·rename_i σ he
      split at h
      ·cases h;exact aH hF false c _ _ σ he hB
      ·simp at h
     ·rename_i x σ he
      cases h;exact aH hF false c _ _ σ he hB
     ·simp at h
   ·simp at h
  ·simp at h
 | fG i=>
  simp only[br] at h
  split at h
  ·rename_i k r x σ hin
   have hB0:Bd σ:=by
    unfold rz at hin
    split at hin
    ·split at hin
     ·obtain⟨_,e1⟩:=ah hin
      cases e1
      exact hB
     ·simp at hin
    ·simp at hin
   exact F6 (fun σ e σ' h hB=>aH hF false _ σ e σ' h hB) (fun σ e σ' h hB=>aH hF false _ σ e σ' h hB) h hB0
  ·simp at h
theorem Rel.ids {μ:Mu}{S:ar}{H:Heap}{w:World}{L:List Nat}(R:Rel μ S H B w0 w)(hBd:∀ q,H q≠none→q∈L):∀ i,μ i≠none→i∈L:=fun i hi=>hBd i (fun h=>by
 have:=R.dom i
 rw[h] at this
 cases hm:μ i with
 | none=>exact hi hm
 | some l=>rw[hm] at this;simp at this)
theorem Hy {Hn:Hints}(hC:bI P C){n:Nat}(ih:cy P (br P C Hn lf n)){id k:Nat}{as:List AV}{H H':Heap}{L L':List Nat}{v:AV}(h:br P C Hn lf (n+1) id (.fn k) as H L=some (v,H',L'))(hBd:∀ q,H q≠none→q∈L)
  {μ:Mu} {S:ar} {B:Nat} {w0 w:World} {us:Array Value} (R:Rel μ S H B w0 w) (hv:aE μ S H as us.toList) :
  Calls P k us w fun e w'=>∃ μ' S',cZ μ' S' H' v e∧Rel μ' S' H' B w0 w'∧Carry B μ S H μ' S' H':=by
 simp only[br] at h
 split at h
 case h_2=>simp at h
 rename_i fn hfn
 split at h
 case h_2=>simp at h
 rename_i c hc
 cases hle:Nat.ble as.length fn.ntmps with
 | false=>rw[hle] at h;simp at h
 | true=>
  rw[hle] at h
  simp only[cond_true] at h
  have hle:=Nat.le_of_ble_eq_true hle
  have hlen:=aQ hv
  simp only[Array.length_toList] at hlen
  refine (e7 (r:=none) (n:=0)).1 (callsIn_of_wp_marks hfn hc trivial ?_ rfl)
  have A0:AR S (false,[]) μ S ⟨fn.ntmps,dw as,H,L⟩ { tmps:=us++Array.replicate (fn.ntmps-us.size) undef,defers:=[] }:=by
   refine⟨⟨[],rfl,⟨List.nodup_nil,by simp⟩,fun _=>rfl⟩,by simp;omega,fun t ht=>?_⟩
   have:=lD hv t
   rw[List.getD_eq_getElem?_getD] at this
   rw[Array.getD_eq_getD_getElem?]
   by_cases hlt:t<us.size
   ·rw[Array.getElem?_append_left hlt];simpa using this
   ·rw[Array.getElem?_append_right (by omega),Array.getElem?_replicate]
    have e1:us.toList[t]? = none:=by rw[List.getElem?_eq_none];simp;omega
    rw[e1] at this
    have:t-us.size<fn.ntmps-us.size:=by simp only at ht;omega
    rw[if_pos this];assumption
  have hod:=R.ids hBd
  have leave:∀ (e:Ex) (σ:St),aB P C Hn (br P C Hn lf n) lf (Nat.succ id * 4294967296) L (some k) false c ⟨fn.ntmps,dw as,H,L⟩=some (e,σ) →
    (∀ (a':Act) w2 μ' S' S2 xe,AR S (false,[]) μ' S2 σ { tmps:=a'.tmps,defers:=[] }→Rel μ' S2 σ.heap B w0 w2→Carry B μ S H μ' S2 σ.heap→dl S' S2→e.Is μ' S' σ.heap xe →
     (bodyPostM (WF none) 0 P fn (fun e w'=>∃ μ' S',cZ μ' S' H' v e∧Rel μ' S' H' B w0 w'∧Carry B μ S H μ' S' H')) xe { tmps:=a'.tmps,defers:=[] } w2) →
    (e.to = .normal∨e.to = .ret) →
    c.wpIn (WF none) 0 P (bodyPostM (WF none) 0 P fn fun e w'=>∃ μ' S',cZ μ' S' H' v e∧Rel μ' S' H' B w0 w'∧Carry B μ S H μ' S' H') { tmps:=us++Array.replicate (fn.ntmps-us.size) undef,defers:=[] } w:=by
   intro e σ he hK hne
   refine aD (Dt:=(false,[])) (μo:=μ) (So:=S) (Ho:=H) (fun _=>⟨rfl,rfl⟩) hC ih hod c (.top hfn hc) _ e σ _ w μ S _ he hBd A0 R Carry.refl fun a' w' μ' S' xe A' R' C' hx=>?_
   have main:∀ (u:FrameMode),u ≠ .run→(∀ S2 w2,Rel μ' S2 σ.heap B w0 w2→dl S' S2→Carry B μ S H μ' S2 σ.heap→LeavesInM (WF none) 0 P fn a'.tmps (fun e w'=>∃ μ' S',cZ μ' S' H' v e∧Rel μ' S' H' B w0 w'∧Carry B μ S H μ' S' H') [] u w2) →
     LeavesInM (WF none) 0 P fn a'.tmps (fun e w'=>∃ μ' S',cZ μ' S' H' v e∧Rel μ' S' H' B w0 w'∧Carry B μ S H μ' S' H') a'.defers u w':=by
    intro u hu hL
    obtain⟨ms,hms,hmk,_⟩:=A'.defers
    rw[hms]
    refine gU hu R.pre ms S' w' R' hmk C'.sub (fun D hD=>?_) fun S2 w2 R2 hc2 hs2 hn2=>hL S2 w2 R2 hc2 ⟨fun a v h=>ga hc2 _ _ (C'.vr a v h),fun b hb=>C'.st b (hn2 b hb),hs2⟩
    rcases C'.st D (by rw[(hmk.2 D hD).2];simp) with h|h
    ·exact absurd (hmk.2 D hD).1 h
    ·exact h
   have A2:∀ {S2},dl S' S2→AR S (false,[]) μ' S2 σ { tmps:=a'.tmps,defers:=[] }:=fun {S2} hc2=>⟨⟨[],rfl,⟨List.nodup_nil,by simp⟩,fun _=>rfl⟩,A'.size,fun t ht=>ga hc2 _ _ (A'.tmp t ht)⟩
   have fin:∀ u,u ≠ .run→(∀ S2 w2,bodyPostM (WF none) 0 P fn (fun e w'=>∃ μ' S',cZ μ' S' H' v e∧Rel μ' S' H' B w0 w'∧Carry B μ S H μ' S' H') xe { tmps:=a'.tmps,defers:=[] } w2→LeavesInM (WF none) 0 P fn a'.tmps (fun e w'=>∃ μ' S',cZ μ' S' H' v e∧Rel μ' S' H' B w0 w'∧Carry B μ S H μ' S' H') [] u w2) →
     LeavesInM (WF none) 0 P fn a'.tmps (fun e w'=>∃ μ' S',cZ μ' S' H' v e∧Rel μ' S' H' B w0 w'∧Carry B μ S H μ' S' H') a'.defers u w':=fun u hu hL=>
    main u hu fun S2 w2 R2 hc2 C2=>hL S2 w2 (hK a' w2 μ' S' S2 xe (A2 hc2) R2 C2 hc2 hx)
   cases e with
   | cL=>cases (show xe = .normal from hx);exact fin .returning (by simp) fun S2 w2 h=>h
   | ret=>cases (show xe = .ret from hx);exact fin .returning (by simp) fun S2 w2 h=>h
   | dB x=>obtain⟨u,rfl,_⟩:=hx;exact fin (.panicking (zW u)) (by simp) fun S2 w2 h=>h
   | exit i=>rcases hne with h|h<;>simp[Ex.to] at h
   | goto i=>rcases hne with h|h<;>simp[Ex.to] at h
  have fin:∀ (e:Ex) (σ:St),aB P C Hn (br P C Hn lf n) lf (Nat.succ id * 4294967296) L (some k) false c ⟨fn.ntmps,dw as,H,L⟩=some (e,σ)→e = .cL∨e = .ret →
    (∃ vs,cX P σ fn.results.toList=some vs∧v=eA vs∧H'=σ.heap) →
    c.wpIn (WF none) 0 P (bodyPostM (WF none) 0 P fn fun e w'=>∃ μ' S',cZ μ' S' H' v e∧Rel μ' S' H' B w0 w'∧Carry B μ S H μ' S' H') { tmps:=us++Array.replicate (fn.ntmps-us.size) undef,defers:=[] } w:=by
   rintro e σ he hex ⟨vs,hvs,rfl,rfl⟩
   refine leave e σ he (fun a' w2 μ' S' S2 xe A2 R2 C2 hc2 hx=>?_) (by rcases hex with rfl|rfl<;>simp[Ex.to])
   obtain⟨u,k1,k2⟩:=rD A2 R2 hvs
   have hL:LeavesInM (WF none) 0 P fn a'.tmps (fun e w'=>∃ μ' S',cZ μ' S' σ.heap (eA vs) e∧Rel μ' S' σ.heap B w0 w'∧Carry B μ S H μ' S' σ.heap) [] .returning w2:=⟨u,k1,μ',S2,cZ.ret k2,R2,C2⟩
   rcases hex with rfl|rfl
   ·cases (show xe = .normal from hx);exact hL
   ·cases (show xe = .ret from hx);exact hL
  unfold lZ at h
  split at h
  ·rename_i σ he
   split at h
   ·rename_i vs hvs;cases h;exact fin .cL σ he (.inl rfl) ⟨vs,hvs,rfl,rfl⟩
   ·simp at h
  ·rename_i σ he
   split at h
   ·rename_i vs hvs;cases h;exact fin .ret σ he (.inr rfl) ⟨vs,hvs,rfl,rfl⟩
   ·simp at h
  ·rename_i x σ he
   cases h
   refine leave (.dB x) _ he (fun a' w2 μ' S' S2 xe A2 R2 C2 hc2 hx=>?_) (.inl rfl)
   obtain⟨u,rfl,hu⟩:=hx
   exact⟨μ',S2,⟨u,rfl,ga hc2 _ _ hu⟩,R2,C2⟩
  ·simp at h
theorem EH {Hn:Hints}(hC:bI P C){n:Nat}(ih:cy P (br P C Hn lf n)){id i:Nat}{as:List AV}{H H':Heap}{L L':List Nat}{v:AV}(h:br P C Hn lf (n+1) id (.fG i) as H L=some (v,H',L'))(hBd:∀ q,H q≠none→q∈L)
  {μ:Mu} {S:ar} {B:Nat} {w0 w:World} {us:Array Value} (R:Rel μ S H B w0 w) (hv:aE μ S H as us.toList) :
  pN P μ (.fG i) us w fun e w'=>∃ μ' S',cZ μ' S' H' v e∧Rel μ' S' H' B w0 w'∧Carry B μ S H μ' S' H':=by
 simp only[br] at h
 split at h
 case h_2=>simp at h
 rename_i k r x σ hin
 intro b cp hm
 unfold rz at hin
 split at hin
 case h_2=>simp at hin
 rename_i k r ts hH
 split at hin
 case h_2=>simp at hin
 rename_i x hx
 obtain⟨hps,e1⟩:=ah hin
 cases e1
 obtain⟨Lp,hL,hrng,hst,hvs⟩:=R.loop hH hm
 rw[hC.2.2,hx,Option.some.injEq] at hrng
 have hlen:=aQ hv
 simp only[Array.length_toList] at hlen
 have hps:=Nat.eq_of_beq_eq_true hps
 have hsz:us.size=Lp.params.size:=by rw[← hlen,← hps,hrng]
 have hyv:VR μ S H (.fG i) (.func (.yield b) #[] #[]):=by
  simp only[VR]
  exact⟨b,cp,hm,fun o h=>by rw[hH] at h;cases h;rfl,rfl⟩
 have getμ:∀ {μ':Mu} {S':ar} {H':Heap},Carry B μ S H μ' S' H'→∃ c,μ' i=some ⟨some b,c,aP⟩:=by
  intro μ' S' H' hc
  have:=hc.vr _ _ hyv
  simp only[VR] at this
  obtain⟨b',c',h1,_,h2⟩:=this
  injection h2 with h2;injection h2 with h2
  subst h2
  exact⟨c',h1⟩
 refine⟨Lp.fn,_,Lp.assign,Lp.body,run_yield hL hsz,roundIn_of_wpIn trivial ?_⟩
 have hT:aE μ S H (jf ts x.1.toList as) ((Lp.params.zip us).foldl (fun tmps (t,a)=>tmps.setIfInBounds t a) Lp.tmps).toList:=by
  have:=tW (ps:=x.1.toList) hvs hv
  rw[← Array.foldl_toList,Array.toList_zip,← show x.1=Lp.params by rw[hrng]]
  exact this
 have hsl:∀ (ts:List AV) (ps:List Tmp) (as:List AV),(jf ts ps as).length=ts.length:=by
  intro ts ps
  induction ps generalizing ts with
  | nil=>intro as;cases as<;>rfl
  | cons p ps ihp=>
   intro as
   cases as with
   | nil=>rfl
   | cons a as=>simp only[jf];rw[ihp];simp
 have A0:AR S (false,[]) μ S ⟨ts.length,dw (jf ts x.1.toList as),H,L⟩ { tmps:=(Lp.params.zip us).foldl (fun tmps (t,a)=>tmps.setIfInBounds t a) Lp.tmps,defers:=[] }:=by
  refine⟨⟨[],rfl,⟨List.nodup_nil,by simp⟩,fun _=>rfl⟩,?_,fun t ht=>?_⟩
  ·have:=aQ hT
   rw[hsl] at this
   simpa using this.symm
  ·have:=lD hT t
   rw[List.getD_eq_getElem?_getD,Array.getElem?_toList] at this
   rw[Array.getD_eq_getD_getElem?]
   exact this
 have hod:=R.ids hBd
 unfold tV at h
 split at h
 case h_2=>simp at h
 rename_i σ1 h1
 split at h
 case h_2=>simp at h
 rename_i σ2 h2
 split at h
 case h_2=>simp at h
 rename_i e σ3 h3
 have ea:x.2.1=Lp.assign:=by rw[hrng]
 have eb:x.2.2=Lp.body:=by rw[hrng]
 rw[← ea,← eb]
 have hB0:Bd ⟨ts.length,dw (jf ts x.1.toList as),H,L⟩:=hBd
 have hB1:=aH ih false _ _ _ _ h1 hB0
 refine aD (rd:=some b) (μo:=μ) (So:=S) (Ho:=H) (fun h=>absurd rfl h) hC ih hod x.2.1 .none _ .cL σ1 _ w μ S _ h1 hBd A0 R Carry.refl fun a1 w1 μ1 S1 xe A1 R1 C1 hx1=>?_
 cases (show xe = .normal from hx1)
 unfold lJ at h2
 split at h2
 case h_2=>simp at h2
 rename_i k' r' ts1 hH1
 obtain⟨hkr,e2⟩:=ah h2
 cases e2
 simp only[Bool.and_eq_true] at hkr
 have ek:=Nat.eq_of_beq_eq_true hkr.1
 have er:=Nat.eq_of_beq_eq_true hkr.2
 subst ek er
 obtain⟨c1,hm1⟩:=getμ C1
 obtain⟨L1,hL1,hr1,hst1,hv1⟩:=R1.loop hH1 hm1
 obtain⟨R2,E2⟩:=R1.p6 (st':=.busy) (L':={ L1 with state:=.busy }) hH1 hm1 hL1 ⟨rfl,rfl,rfl,rfl⟩ rfl
 refine⟨_,run_beginRound hL1 hst1.1,?_⟩
 have hB2:Bd ⟨σ1.nt,σ1.tmps,aM σ1.heap i (some (.loop k' r' .busy ts1)),σ1.ids⟩:=by
  intro q hq
  by_cases eq:q=i
  ·subst eq;exact hB1 q (by rw[hH1];simp)
  ·simp only at hq;rw[ax _ _ eq] at hq;exact hB1 q hq
 refine aD (rd:=some b) (μo:=μ) (So:=S) (Ho:=H) (fun h=>absurd rfl h) hC ih hod x.2.2 .none _ e σ3 a1 _ μ1 S1 _ h3 hB2 ⟨A1.defers,A1.size,fun t ht=>cJ E2 _ _ (A1.tmp t ht)⟩ R2 (C1.trans (Carry.of E2)) fun a3 w3 μ3 S3 xe A3 R3 C3 hx3=>?_
 unfold qF at h
 split at h
 case h_2=>simp at h
 rename_i k2 r2 ts3 hH3
 obtain⟨hkr,e3⟩:=ah h
 cases e3
 obtain⟨c3,hm3⟩:=getμ C3
 simp only[Bool.and_eq_true] at hkr
 have ek:=Nat.eq_of_beq_eq_true hkr.1.1
 have er:=Nat.eq_of_beq_eq_true hkr.1.2
 subst ek er
 obtain⟨L3,hL3,hr3,hst3,hv3⟩:=R3.loop hH3 hm3
 have fin:∀ (j:Option Code) (st:EF) (c:Bool),j.isNone=c→st.Is (if j.isNone then .ready else .done) j→st=e.st→c=e.on→∃ v' w',(Instr.endRound b j).run P w3 = .ok v' w' ∧
   ∃ μ' S',cZ μ' S' (aM σ3.heap i (some (.loop k2 r2 e.st ts3))) (.lit (.bool e.on)) (Ending.returned v')∧Rel μ' S' (aM σ3.heap i (some (.loop k2 r2 e.st ts3))) B w0 w'∧Carry B μ S H μ' S' (aM σ3.heap i (some (.loop k2 r2 e.st ts3))):=by
  intro j st c hj his he hc
  subst he
  subst hc
  obtain⟨R4,E4⟩:=R3.p6 (st':=e.st) (L':={ L3 with state:=if j.isNone then .ready else .done,pending:=j }) hH3 hm3 hL3 ⟨rfl,rfl,rfl,rfl⟩ his
  refine⟨_,_,run_endRound j hL3,μ3,S3,?_,R4,C3.trans (Carry.of E4)⟩
  rw[hj]
  exact cZ.ret (by simp only[VR])
 cases e with
 | cL=>cases (show xe = .normal from hx3);exact fin none .ready true rfl ⟨rfl,rfl⟩ rfl rfl
 | ret=>cases (show xe = .ret from hx3);exact fin (some .ret) (.done .ret) false rfl ⟨rfl,rfl⟩ rfl rfl
 | exit q=>cases (show xe = .exit q from hx3);exact fin (some (.exit q)) (.done (.exit q)) false rfl ⟨rfl,rfl⟩ rfl rfl
 | goto q=>cases (show xe = .goto q from hx3);exact fin (some (.goto q)) (.done (.goto q)) false rfl ⟨rfl,rfl⟩ rfl rfl
 | dB v=>have:=hkr.2;simp[Ex.cT] at this
theorem iS {Hn:Hints}(hC:bI P C):∀ n,cy P (br P C Hn lf n)
 | 0=>fun id k as H L v H' L' h=>by simp[br] at h
 | n+1=>by
  intro id k as H L v H' L' h hBd
  refine⟨Gc n id k as H L v H' L' (iS hC n) h hBd,?_⟩
  intro μ S B w0 w us R hv
  cases k with
  | fn k=>exact Hy hC (iS hC n) h hBd R hv
  | fG i=>exact EH hC (iS hC n) h hBd R hv
end
def Q9 (t:Ty)(x:t.T):AV:=cond t.isAgg (.agg (enc t x)) (IP (enc t x))
def cj:(ps:List Ty)→cC ps→List AV
 | [],_=>[]
 | t::ts,x=>Q9 t x.1::cj ts x.2
def Ay (H:Heap)(te:TypeId)(e:Ty):List AV→Option (List e.T×List AV×List Nat)
 | .sl i g::r=>match H i with
  | some (.row te' e' g' xs)=>cond (Nat.beq g g'&&Nat.beq te te') (match eB (e:=e') (e':=e) xs with
   | some ys=>some (ys,r,[i])
   | none=>none) none
  | _=>none
 | .lit (.slice none 0 0)::r=>some ([],r,[])
 | .sub i g a b::r=>match H i with
  | some (.row te' e' g' xs)=>cond (Nat.beq a 0&&Nat.beq g g'&&Nat.beq te te') (match eB (e:=e') (e':=e) (xs.take b) with
   | some ys=>some (ys,r,[i])
   | none=>none) none
  | _=>none
 | _=>none
def cO.lU:cO→Bool
 | .val _=>true
 | .own _ _=>false
 | .pair a b=>a.lU&&b.lU
 | .one a=>a.lU
 | .any=>true
 | .deep _ _ _=>false
def oJ:List cO→Bool
 | []=>true
 | t::ts=>t.lU&&oJ ts
def eO.done:eO→Nat→Bool
 | .own,_=>true
 | .iG _,_=>false
 | .eW m,n=>decide (n≤m)
 | .late _,_=>false
def jX (H:Heap):List Nat→Bool
 | []=>true
 | i::l=>(match H i with
  | some (.aL _ _ _ xs st)=>st.done xs.length
  | _=>true)&&jX H l
def DH (H:Heap)(te ti:TypeId):List AV→Option (List FT×List AV×List Nat)
 | .uz i::r=>match H i with
  | some (.aL te' ti' _ xs _)=>cond (Nat.beq te te'&&Nat.beq ti ti') (some (xs,r,[i])) none
  | _=>none
 | _=>none
def qU (Hv H:Heap):(t:cO)→List AV→Option (t.T×List AV×List Nat)
 | .val t,l=>match dec Hv t l with
  | some (x,r)=>some (x,r,[])
  | none=>none
 | .own te e,l=>Ay H te e l
 | .pair a b,l=>match qU Hv H a l with
  | some (x,l',o)=>match qU Hv H b l' with
   | some (y,l'',p)=>some ((x,y),l'',o++p)
   | none=>none
  | none=>none
 | .one a,l=>qU Hv H a l
 | .any,_=>none
 | .deep te ti false,l=>DH H te ti l
 | .deep _ _ true,_=>none
def G9 (Hv H:Heap)(t:cO)(a:AV):Option (t.T×List Nat):=
 cond (t.isAgg == a.isAgg) (match qU Hv H t a.inside with
  | some (x,[],o)=>some (x,o)
  | _=>none) none
def r0 (Hv H:Heap):(rs:List cO)→List AV→Option (tg rs×List Nat)
 | [],[]=>some ((),[])
 | t::ts,a::as=>match G9 Hv H t a with
  | some (x,o)=>match r0 Hv H ts as with
   | some (y,p)=>some ((x,y),o++p)
   | none=>none
  | none=>none
 | _,_=>none
def AV.parts (n:Nat):AV→List AV
 | .pI vs=>cond (Nat.beq n 1) [.pI vs] vs
 | a=>[a]
def e8 (rs:List cO):Option (AV×Heap×List Nat)→Option (tg rs)
 | some (v,H,_)=>cond v.cT none (match r0 (cond (oJ rs) H (fun _=>none)) H rs (v.parts rs.length) with
  | some (y,o)=>cond (distinct o&&jX H o) (some y) none
  | none=>none)
 | none=>none
def top (P:Program)(C:Cons)(Hn:Hints)(lf n k:Nat)(ps:List Ty)(rs:List cO)(x:cC ps):Option (tg rs):=
 e8 rs (br P C Hn lf n 0 (.fn k) (cj ps x) (fun _=>none) [])
section
variable [aq]{P:Program}{w w' w0:World}{μ:Mu}{S S':ar}{H Hv:Heap}{B:Nat}
omit [aq] in
theorem Mg {t:Ty}{x:t.T}{v:Value}(h:FV S t x v):VR μ S H (Q9 t x) v:=by
 unfold FV at h
 unfold Q9
 cases ha:t.isAgg with
 | true=>
  rw[ha,if_pos rfl] at h
  obtain⟨cs,rfl,h⟩:=h
  simp only[cond_true,VR]
  exact⟨cs,rfl,eN t x _ h⟩
 | false=>
  rw[ha,if_neg (by simp)] at h
  have:=eN (μ:=μ) (H:=H) t x _ h
  have hl:=aQ this
  simp only[cond_false]
  match he:enc t x,this,hl with
  | [a],this,_=>simp only[aE] at this;obtain⟨_,_,e,k,_⟩:=this;cases e;exact k
  | [],_,hl=>simp at hl
  | _::_::_,_,hl=>simp at hl
omit [aq] in
theorem iU:∀ {ps:List Ty} {x:cC ps} {vs:List Value},eZ S ps x vs→aE μ S H (cj ps x) vs
 | [],x,vs,h=>by simp only[eZ] at h;subst h;simp[cj,aE]
 | t::ts,x,vs,h=>by
  obtain⟨v,r,rfl,h1,h2⟩:=h
  simp only[cj,aE]
  exact⟨v,r,rfl,Mg h1,iU h2⟩
inductive OI (μ:Mu):List dH→List Nat→Prop
 | nil:OI μ [] []
 | Ju {q os o}:(∀ b,¬ q.loc.has b)→OI μ os o→OI μ (q::os) o
 | own {q os i o}:μ i=some q.loc→OI μ os o→OI μ (q::os) (i::o)
omit [aq] in
theorem OI.append {os os':List dH}{o o':List Nat}(h:OI μ os o)(h':OI μ os' o'):OI μ (os++os') (o++o'):=by
 induction h with
 | nil=>exact h'
 | Ju h1 _ ih=>exact .Ju h1 ih
 | own h1 _ ih=>exact .own h1 ih
omit [aq] in
theorem OI.mem {os:List dH}{o:List Nat}(h:OI μ os o):∀ q∈os,(∀ b,¬ q.loc.has b)∨∃ i∈o,μ i=some q.loc:=by
 induction h with
 | nil=>simp
 | Ju h1 _ ih=>
  intro q hq
  rcases List.mem_cons.1 hq with rfl|hq
  ·exact .inl h1
  ·exact ih q hq
 | own h1 _ ih=>
  intro q hq
  rcases List.mem_cons.1 hq with rfl|hq
  ·exact .inr ⟨_,by simp,h1⟩
  ·rcases ih q hq with h|⟨i,h2,h3⟩
   ·exact .inl h
   ·exact .inr ⟨i,by simp[h2],h3⟩
theorem OI.apart (R:Rel μ S H B w0 w){os:List dH}{o:List Nat}(h:OI μ os o):distinct o=true→os.Pairwise wF:=by
 induction h with
 | nil=>intro;exact .nil
 | Ju h1 h2 ih=>
  intro hd
  exact List.pairwise_cons.2 ⟨fun q hq b hb=>absurd hb (h1 b),ih hd⟩
 | @own p os i o h1 h2 ih=>
  intro hd
  simp only[distinct,Bool.and_eq_true,Bool.not_eq_true'] at hd
  refine List.pairwise_cons.2 ⟨fun q hq b hb=>?_,ih hd.2⟩
  rcases h2.mem q hq with h|⟨j,hj,h3⟩
  ·exact h b
  ·refine R.sep i j _ _ b (fun e=>?_) h1 h3 hb
   subst e
   have:=List.any_eq_false.1 hd.1 i hj
   simp at this
theorem LV (R:Rel μ S H B w0 w){i:Nat}{te:TypeId}{e:Ty}{g:Nat}{xs:List e.T}(hi:H i=some (.row te e g xs)){l:Lc}(hm:μ i=some l):en S w B ⟨l,.row te e xs⟩:=by
 obtain⟨l',h1,h2⟩:=R.obj i _ hi
 have:l'=l:=Option.some.inj (h1.symm.trans hm)
 subst this
 exact⟨R.fM hm hi,h2⟩
theorem ET (R:Rel μ S H B w0 w){te:TypeId}{e:Ty}{as:List AV}{vs:List Value}{x:List e.T}{r:List AV}{o:List Nat}(hv:aE μ S H as vs)(h:Ay H te e as=some (x,r,o)) :
  ∃ cs us os,vs=cs++us∧FR S (.own te e) x cs os∧aE μ S H r us∧OI μ os o∧∀ q∈os,en S w B q:=by
 unfold Ay at h
 split at h
 ·rename_i i g r'
  split at h
  ·rename_i te' e' g' xs hH
   cases hb:(Nat.beq g g'&&Nat.beq te te') with
   | false=>rw[hb] at h;simp at h
   | true=>
    rw[hb] at h
    simp only[cond_true] at h
    simp only[Bool.and_eq_true] at hb
    have hgg:=Nat.eq_of_beq_eq_true hb.1
    have htt:=Nat.eq_of_beq_eq_true hb.2
    subst htt
    split at h
    ·rename_i ys hc
     cases h
     obtain⟨he,rfl⟩:=bN hc
     subst he
     simp only[aE] at hv
     obtain⟨v,u,rfl,h1,h2⟩:=hv
     simp only[VR] at h1
     obtain⟨_,l,hm,h3⟩:=h1
     have hv':=(h3 _ _ _ _ hH).2 hgg
     subst hv'
     exact⟨[_],u,[⟨l,.row te e' xs⟩],rfl,⟨l,rfl,rfl⟩,h2,.own hm .nil,by intro q hq;simp at hq;subst hq;exact LV R hH hm⟩
    ·simp at h
  ·simp at h
 ·cases h
  simp only[aE,VR] at hv
  obtain⟨v,u,rfl,rfl,h2⟩:=hv
  exact⟨[_],u,[⟨⟨none,0,aP⟩,.row te e []⟩],rfl,⟨⟨none,0,aP⟩,rfl,rfl⟩,h2,.Ju (fun b=>by rw[Lc.dy rfl];simp) .nil,by intro q hq;simp at hq;subst hq;exact⟨rfl,⟨Nat.le_refl _,Nat.zero_le _⟩,.inl ⟨rfl,rfl⟩⟩⟩
 ·rename_i i g a b r'
  split at h
  ·rename_i te' e' g' xs hH
   cases hb:(Nat.beq a 0&&Nat.beq g g'&&Nat.beq te te') with
   | false=>rw[hb] at h;simp at h
   | true=>
    rw[hb] at h
    simp only[cond_true] at h
    simp only[Bool.and_eq_true] at hb
    have haa:=Nat.eq_of_beq_eq_true hb.1.1
    have hgg:=Nat.eq_of_beq_eq_true hb.1.2
    have htt:=Nat.eq_of_beq_eq_true hb.2
    subst htt haa
    split at h
    ·rename_i ys hc
     cases h
     obtain⟨he,rfl⟩:=bN hc
     subst he
     simp only[aE] at hv
     obtain⟨v,u,rfl,h1,h2⟩:=hv
     simp only[VR] at h1
     obtain⟨_,l,hm,h3⟩:=h1
     obtain⟨p1,p2,ad,rfl,p3,_⟩:=(h3 _ _ _ _ hH).2 hgg
     have had:=p3 (by simp)
     have had':ad=l.addr:=by
      rw[had]
      cases l.addr with
      | none=>rfl
      | some q=>simp[add_zero]
     subst had'
     have hlen:List.length (xs.take b)=b:=by rw[List.length_take];omega
     obtain⟨l',m1,m2⟩:=R.obj i _ hH
     have:l'=l:=Option.some.inj (m1.symm.trans hm)
     subst this
     have hO:=s4 b m2
     refine⟨[_],u,[⟨l',.row te e' (xs.take b)⟩],rfl,⟨l',by rw[hlen];rfl,rfl⟩,h2,.own hm .nil,by intro q hq;simp at hq;subst hq;exact⟨R.fM hm hH,hO⟩⟩
    ·simp at h
  ·simp at h
 ·simp at h
def FO (B:Nat)(S:ar)(w:World):ar:=fun b=>cond (Nat.ble B b) w.heap[b]? (S b)
theorem pW (R:Rel μ S H B w0 w)(b:Nat)(o:Obj)(h:S b=some o):FO B S w b=some o:=by
 unfold FO
 cases Nat.ble B b with
 | true=>exact R.st b o h
 | false=>exact h
theorem Of (R:Rel μ S H B w0 w)(b:Nat)(o:Obj)(h:FO B S w b=some o):w.heap[b]? = some o:=by
 unfold FO at h
 cases hb:Nat.ble B b with
 | true=>rw[hb] at h;exact h
 | false=>rw[hb] at h;exact R.st b o h
theorem JA (R:Rel μ S H B w0 w)(sub:∀ i o,Hv i=some o→H i=some o):cK μ (FO B S w) Hv:=by
 have ge:∀ {i l b},μ i=some l→l.has b→FO B S w b=w.heap[b]?:=fun hm hb=>by
  unfold FO
  rw[Nat.ble_eq_true_of_le (R.xL hm hb).1];rfl
 refine⟨fun i t e g xs l h hm=>?_,fun i t ti q xs l h hm=>?_⟩
 ·obtain⟨l',h1,h2⟩:=R.obj i _ (sub _ _ h)
  have:l'=l:=Option.some.inj (h1.symm.trans hm)
  subst this
  exact gw (pW R) (fun b hb=>ge hm (.inl hb)) h2
 ·obtain⟨l',h1,h2⟩:=R.obj i _ (sub _ _ h)
  have:l'=l:=Option.some.inj (h1.symm.trans hm)
  subst this
  exact ol (pW R) (fun b hb=>ge hm hb) h2
omit [aq] in
theorem gq:∀ (t:cO) (x:t.T) (cs:List Value) (os:List dH),t.lU=true→FR S t x cs os→os=[]
 | .val t,x,cs,os,_,h=>h.2
 | .own _ _,x,cs,os,hn,_=>by simp[cO.lU] at hn
 | .pair a b,x,cs,os,hn,h=>by
  simp only[cO.lU,Bool.and_eq_true] at hn
  obtain⟨c,d,o,p,_,rfl,h1,h2⟩:=h
  rw[gq a _ _ _ hn.1 h1,gq b _ _ _ hn.2 h2];rfl
 | .one a,x,cs,os,hn,h=>gq a x cs os hn h
 | .any,x,cs,os,hn,h=>h.2
 | .deep _ _ _,x,cs,os,hn,_=>by simp[cO.lU] at hn
omit [aq] in
theorem rV:∀ {rs:List cO} {y:tg rs} {us:List Value} {os:List dH},oJ rs=true→zV S rs y us os→os=[]
 | [],_,_,_,_,h=>h.2
 | t::ts,y,us,os,hn,h=>by
  simp only[oJ,Bool.and_eq_true] at hn
  obtain⟨v,r,o,p,_,rfl,h1,h2⟩:=h
  rw[rV hn.2 h2,List.append_nil]
  unfold iv at h1
  split at h1
  ·obtain⟨cs,_,h1⟩:=h1
   exact gq t _ _ _ hn.1 h1
  ·exact gq t _ _ _ hn.1 h1
omit [aq] in
theorem oh {H:Heap}:∀ {o p:List Nat},jX H (o++p)=true→jX H o=true∧jX H p=true
 | [],_,h=>⟨rfl,h⟩
 | i::o,p,h=>by
  simp only[List.cons_append,jX,Bool.and_eq_true] at h ⊢
  obtain⟨h1,h2⟩:=h
  obtain⟨h3,h4⟩:=oh h2
  exact⟨⟨h1,h3⟩,h4⟩
omit [aq] in
theorem Fy {l:Lc}{t ti:TypeId}{xs:List FT}{st:eO}(h:st.done xs.length=true)(D:cu S w B l t ti xs st):cu S w B l t ti xs .own:=by
 cases st with
 | own=>exact D
 | iG _=>simp[eO.done] at h
 | late _=>simp[eO.done] at h
 | eW m=>
  simp only[eO.done,decide_eq_true_eq] at h
  have lt:∀ (k:Nat) (x:FT),xs[k]? = some x→k<m:=fun k x hx=>by
   have:=(List.getElem?_eq_some_iff.1 hx).1
   omega
  refine⟨D.len,fun k hk=>D.out k (hk.imp id fun h=>absurd trivial h),fun k x hx _=>D.row k x hx (lt k x hx),D.one,D.off,D.xM.imp id fun⟨b,cs,e1,q1,q2,q3,q4,q5⟩=>⟨b,cs,e1,q1,q2,q3,q4,fun k x hx=>?_⟩⟩
  obtain⟨f0,f2,v,f1,f3,f4,_⟩:=q5 k x hx
  exact⟨f0,f2,v,f1,f3,fun _=>f4 (lt k x hx),fun h=>absurd trivial h⟩
theorem mW (R:Rel μ S H B w0 w)(hS:∀ b o,S b=some o→S' b=some o)(hrow:cK μ S' Hv)(sub:∀ i o,Hv i=some o→H i=some o) :
  ∀ (t:cO) (as:List AV) (vs:List Value) (x:t.T) (r:List AV) (o:List Nat),aE μ S H as vs→qU Hv H t as=some (x,r,o)→jX H o=true →
  ∃ cs us os,vs=cs++us∧FR S' t x cs os∧aE μ S H r us∧OI μ os o∧∀ q∈os,en S w B q
 | .val t,as,vs,x,r,o,hv,h,hdn=>by
  simp only[qU] at h
  split at h
  ·rename_i y r' hd
   cases h
   obtain⟨cs,us,h1,h2,h3⟩:=kH (S':=S') (H:=H) hS hrow sub t as vs _ _ hv hd
   exact⟨cs,us,[],h1,⟨h2,rfl⟩,h3,.nil,by simp⟩
  ·simp at h
 | .own te e,as,vs,x,r,o,hv,h,hdn=>ET R hv h
 | .pair a b,as,vs,x,r,o,hv,h,hdn=>by
  simp only[qU] at h
  split at h
  ·rename_i y l' o1 h1
   split at h
   ·rename_i z l'' o2 h2
    cases h
    obtain⟨d1,d2⟩:=oh hdn
    obtain⟨c1,u1,os1,e1,k1,r1,i1,w1⟩:=mW R hS hrow sub a as vs y l' o1 hv h1 d1
    obtain⟨c2,u2,os2,e2,k2,r2,i2,w2⟩:=mW R hS hrow sub b l' u1 z _ o2 r1 h2 d2
    refine⟨c1++c2,u2,os1++os2,by rw[e1,e2,List.append_assoc],⟨c1,c2,os1,os2,rfl,rfl,k1,k2⟩,r2,i1.append i2,fun q hq=>?_⟩
    rcases List.mem_append.1 hq with h|h
    ·exact w1 q h
    ·exact w2 q h
   ·simp at h
  ·simp at h
 | .one a,as,vs,x,r,o,hv,h,hdn=>by
  simp only[qU] at h
  exact mW R hS hrow sub a as vs x r o hv h hdn
 | .any,as,vs,x,r,o,hv,h,_=>by simp[qU] at h
 | .deep _ _ true,as,vs,x,r,o,hv,h,_=>by simp[qU] at h
 | .deep te ti false,as,vs,x,r,o,hv,h,hdn=>by
  simp only[qU] at h
  unfold DH at h
  split at h
  case h_2=>simp at h
  rename_i i r'
  split at h
  case h_2=>simp at h
  rename_i te' ti' q xs st hH
  obtain⟨hc,he⟩:=ah h
  cases he
  simp only[Bool.and_eq_true] at hc
  have c1:=Nat.eq_of_beq_eq_true hc.1
  have c2:=Nat.eq_of_beq_eq_true hc.2
  subst c1 c2
  simp only[aE] at hv
  obtain⟨v,u,rfl,h1,h2⟩:=hv
  simp only[VR] at h1
  obtain⟨_,l,hm,h3⟩:=h1
  have hv':=h3 _ _ _ _ _ hH
  subst hv'
  have hd:st.done (List.length x)=true:=by
   simp only[jX,hH,Bool.and_true] at hdn
   exact hdn
  exact⟨[_],u,[⟨l,.deep te ti false x⟩],rfl,⟨l,rfl,rfl⟩,h2,.own hm .nil,by intro q hq;simp at hq;subst hq;exact Fy hd (ff R hH hm)⟩
theorem Ks (R:Rel μ S H B w0 w)(hS:∀ b o,S b=some o→S' b=some o)(hrow:cK μ S' Hv)(sub:∀ i o,Hv i=some o→H i=some o)
  {t:cO} {a:AV} {v:Value} {x:t.T} {o:List Nat} (hv:VR μ S H a v) (h:G9 Hv H t a=some (x,o)) (hdn:jX H o=true) :
  ∃ os,iv S' t x v os∧OI μ os o∧∀ q∈os,en S w B q:=by
 unfold G9 at h
 cases hb:(t.isAgg == a.isAgg) with
 | false=>rw[hb] at h;simp at h
 | true=>
  rw[hb] at h
  simp only[cond_true] at h
  have hta:t.isAgg=a.isAgg:=by simpa using hb
  split at h
  ·rename_i y o' hd
   cases h
   unfold iv
   rw[hta]
   cases ha:a.isAgg with
   | true=>
    simp only[if_true]
    cases a<;>simp only[AV.isAgg,reduceCtorEq] at ha
    simp only[VR] at hv
    obtain⟨vs,rfl,hvs⟩:=hv
    obtain⟨c,u,os,e1,k1,k2,k3,k4⟩:=mW R hS hrow sub t _ vs.toList _ [] _ hvs hd hdn
    simp only[aE] at k2
    subst k2
    rw[List.append_nil] at e1
    exact⟨os,⟨vs,rfl,by rw[e1];exact k1⟩,k3,k4⟩
   | false=>
    simp only[Bool.false_eq_true,if_false]
    have base:aE μ S H a.inside [v]:=by
     cases a<;>first|(simp[AV.isAgg] at ha;done)|(simp only[AV.inside,aE];exact⟨v,[],rfl,hv,rfl⟩)
    obtain⟨c,u,os,e1,k1,k2,k3,k4⟩:=mW R hS hrow sub t _ [v] _ [] _ base hd hdn
    simp only[aE] at k2
    subst k2
    rw[List.append_nil] at e1
    exact⟨os,by rw[e1];exact k1,k3,k4⟩
  ·simp at h
theorem mc (R:Rel μ S H B w0 w)(hS:∀ b o,S b=some o→S' b=some o)(hrow:cK μ S' Hv)(sub:∀ i o,Hv i=some o→H i=some o) :
  ∀ {rs:List cO} {as:List AV} {vs:List Value} {y:tg rs} {o:List Nat},aE μ S H as vs→r0 Hv H rs as=some (y,o)→jX H o=true →
  ∃ os,zV S' rs y vs os∧OI μ os o∧(∀ q∈os,en S w B q)∧vs.length=rs.length
 | [],[],vs,y,o,hv,h,_=>by
  simp only[aE] at hv;subst hv
  simp only[r0,Option.some.injEq,Prod.mk.injEq] at h
  obtain⟨_,rfl⟩:=h
  exact⟨[],⟨rfl,rfl⟩,.nil,by simp,rfl⟩
 | [],_::_,vs,y,o,hv,h,_=>by simp[r0] at h
 | t::ts,[],vs,y,o,hv,h,_=>by simp[r0] at h
 | t::ts,a::as,vs,y,o,hv,h,hdn=>by
  simp only[r0] at h
  split at h
  ·rename_i x o1 h1
   split at h
   ·rename_i z o2 h2
    cases h
    simp only[aE] at hv
    obtain⟨v,r,rfl,k1,k2⟩:=hv
    obtain⟨d1,d2⟩:=oh hdn
    obtain⟨os1,a1,a2,a3⟩:=Ks R hS hrow sub k1 h1 d1
    obtain⟨os2,b1,b2,b3,b4⟩:=mc R hS hrow sub k2 h2 d2
    refine⟨os1++os2,⟨v,r,os1,os2,rfl,rfl,a1,b1⟩,a2.append b2,fun q hq=>?_,by simp[b4]⟩
    rcases List.mem_append.1 hq with h|h
    ·exact a3 q h
    ·exact b3 q h
   ·simp at h
  ·simp at h
theorem EN {w w':World}{S S':ar}{μ':Mu}{H':Heap}{L':List Nat}{v:AV}{u:Value}{rs:List cO}{y:tg rs}(R':Rel μ' S' H' w.heap.size w w')
  (C':Carry w.heap.size (fun _=>none) S (fun _=>none) μ' S' H') (k1:VR μ' S' H' v u) (ht:e8 rs (some (v,H',L'))=some y) :
  ∃ us S' os,Ending.returned u = .returned (fP us)∧Below w.heap.size w w'∧(∀ b o,S b=some o→S' b=some o) ∧
   (∀ b o,S' b=some o→w'.heap[b]? = some o)∧(∀ b,S' b≠none→S b≠none∨w.heap.size≤b)∧zV S' rs y us os ∧
   (∀ o∈os,en S' w' w.heap.size o)∧os.Pairwise wF:=by
 simp only[e8] at ht
 obtain⟨hnp,ht⟩:=bS ht
 split at ht
 case h_2=>simp at ht
 rename_i y' o hd
 obtain⟨hdis,rfl⟩:=ah ht
 simp only[Bool.and_eq_true] at hdis
 obtain⟨hdis,hdn⟩:=hdis
 have hparts:∃ us,aE μ' S' H' (v.parts rs.length) us∧(us.length=rs.length→u=fP us):=by
  have one:aE μ' S' H' [v] [u]:=by simp only[aE];exact⟨u,[],rfl,k1,rfl⟩
  cases v with
  | pI as=>
   simp only[AV.parts]
   cases hb:Nat.beq rs.length 1 with
   | true=>exact⟨[u],one,fun _=>rfl⟩
   | false=>
    simp only[VR] at k1
    obtain⟨x,rfl,k2⟩:=k1
    refine⟨x.toList,k2,fun hl=>?_⟩
    have hne:rs.length≠1:=fun e=>by rw[e] at hb;simp at hb
    match hx:x.toList with
    | []=>simp only[fP];rw[← hx]
    | [z]=>rw[hx] at hl;simp at hl;omega
    | z1::z2::l=>simp only[fP];rw[← hx]
  | _=>exact⟨[u],one,fun _=>rfl⟩
 obtain⟨us,hus,hu⟩:=hparts
 cases hno:oJ rs with
 | false=>
  rw[hno] at hd
  obtain⟨os,q1,q2,q3,q4⟩:=mc (S':=S') R' (fun b o h=>h) cK.no (fun i o h=>by simp at h) hus hd hdn
  exact⟨us,S',os,by rw[hu q4],R'.below,C'.sub,R'.st,fun b hb=>C'.st b hb,q1,q3,q2.apart R' hdis⟩
 | true=>
  rw[hno] at hd
  obtain⟨os,q1,q2,q3,q4⟩:=mc (S':=FO w.heap.size S' w') R' (pW R') (JA R' (fun _ _ h=>h)) (fun i o h=>h) hus hd hdn
  have:=rV hno q1
  subst this
  refine⟨us,FO w.heap.size S' w',[],by rw[hu q4],R'.below,fun b o h=>pW R' b o (C'.sub b o h),fun b o h=>Of R' b o h,fun b hb=>?_,q1,by simp,.nil⟩
  unfold FO at hb
  cases hble:Nat.ble w.heap.size b with
  | true=>exact .inr (Nat.le_of_ble_eq_true hble)
  | false=>rw[hble] at hb;exact C'.st b hb
theorem BC {C:Cons}{Hn:Hints}(hC:bI P C){lf n k:Nat}{c:aT}(h:∀ x y,c.f x=some y→top P C Hn lf n k c.ps c.rs x=some y):c.OK P k:=by
 intro x y hf S w vs hst hpre ha
 have ht:=h x y hf
 unfold top at ht
 cases he:br P C Hn lf n 0 (.fn k) (cj c.ps x) (fun _=>none) [] with
 | none=>rw[he] at ht;simp[e8] at ht
 | some p=>
  obtain⟨v,H',L'⟩:=p
  rw[he] at ht
  have R0:Rel (fun _=>none) S (fun _=>none) w.heap.size w w:=⟨Below.refl _ _,Nat.le_refl _,hst,fun _=>rfl,fun _ _ h=>by simp at h,fun _ _ _ _ _ _ h=>by simp at h,fun _ _ h=>by simp at h,hpre⟩
  refine pN.mono (c:=.fn k) ((iS hC n 0 (.fn k) _ _ _ _ _ _ he (fun _ h=>absurd rfl h)).2 (fun _=>none) S w.heap.size w w vs.toArray R0 (by simpa using iU ha)) ?_
  rintro e w' ⟨μ',S',q0,R',C'⟩
  obtain⟨u,rfl,k1⟩:=q0.val (by
   have ht':=ht
   simp only[e8] at ht'
   exact (bS ht').1)
  exact EN R' C' k1 ht
end
end Go.Sy
