/- Sym12, Sym12b, Sym12c, Sym13, Sym14, Sym15. -/
import Derived.Test.YtadlmipfbockgaaGreatFB
import Derived.RangeFuncRecord
namespace Go.Sy
open Go Go.RowKit
set_option linter.unusedSimpArgs false
set_option linter.unusedVariables false
def mem (L:List Nat)(i:Nat):Bool:=L.any (Nat.beq i)
theorem mem_iff {L:List Nat}{i:Nat}:mem L i=true↔i∈L:=by
 unfold mem
 rw[List.any_eq_true]
 exact⟨fun⟨x,h1,h2⟩=>by rw[Nat.eq_of_beq_eq_true h2];exact h1,fun h=>⟨i,h,by simp⟩⟩
def distinct:List Nat→Bool
 | []=>true
 | i::l=>!(l.any fun j=>Nat.beq i j)&&distinct l
mutual
def AV.refsIn (L:List Nat):AV→Bool
 | .ptr i _=>mem L i
 | .elp i _ _ _=>mem L i
 | .sl i _=>mem L i
 | .sub i _ _ _=>mem L i
 | .bsl i _=>mem L i
 | .yld i=>mem L i
 | .mp i=>mem L i
 | .dsl i=>mem L i
 | .dep i _ _=>mem L i
 | .inn i _ _ _ _=>mem L i
 | .inp i _ _ _=>mem L i
 | .fn _ a b=>refsAll L a&&refsAll L b
 | .ifc _ a=>a.refsIn L
 | .agg l=>refsAll L l
 | .tup l=>refsAll L l
 | _=>true
def refsAll (L:List Nat):List AV→Bool
 | []=>true
 | a::l=>a.refsIn L&&refsAll L l
end
def clean (L:List Nat)(a:AV):AV:=cond (a.refsIn L) a .junk
def cleanObj (L:List Nat):HObj→HObj
 | .box t cs=>.box t (cs.map (clean L))
 | .row t e g xs=>.row t e g xs
 | .siter s pos=>.siter s pos
 | .loop k r st ts=>.loop k r st (ts.map (clean L))
 | .map es=>.map es
 | .drow t ti q xs st=>.drow t ti q xs st
inductive Pl where
 | t (slot:Nat)
 | c (box off:Nat)
structure RowH where
 at':Pl
 id:Nat
 te:TypeId
 e:Ty
structure Hint where
 keep:List Nat
 ids:List Nat
 rows:List RowH
structure LoopH where
 top:Hint
 out:Option Hint
 ret:Option Hint
 moves:List (Nat×Nat×Nat):=[]
def lkT:List (Nat×AV)→Nat→AV
 | [],_=>.junk
 | (t,v)::l,q=>cond (Nat.beq q t) v (lkT l q)
def lkH:List (Nat×Option HObj)→Heap
 | [],_=>none
 | (i,o)::l,q=>cond (Nat.beq q i) o (lkH l q)
structure Src where
 id:Nat
 src:Option Nat
 te:TypeId
 e:Ty
 xs:List e.T
def nthJ:List AV→Nat→AV
 | [],_=>.junk
 | a::_,0=>a
 | _::l,n+1=>nthJ l n
def boxAt:Option HObj→Nat→AV
 | some (.box _ cs),off=>nthJ cs off
 | _,_=>.junk
def St.valAt (σ:St):Pl→AV
 | .t s=>σ.val (.tmp s)
 | .c i off=>boxAt (σ.heap i) off
def rowT:List RowH→List (Nat×AV)
 | []=>[]
 | r::rs=>match r.at' with
  | .t s=>(s,AV.sl r.id 0)::rowT rs
  | .c _ _=>rowT rs
def rowC:List RowH→Nat→List AV→List AV
 | [],_,cs=>cs
 | r::rs,i,cs=>match r.at' with
  | .t _=>rowC rs i cs
  | .c b off=>rowC rs i (cond (Nat.beq b i) (cs.set off (AV.sl r.id 0)) cs)
def headObj (rs:List RowH)(L:List Nat)(i:Nat):HObj→HObj
 | .box t cs=>.box t (rowC rs i (cs.map (clean L)))
 | o=>cleanObj L o
def srcOf (σ:St)(r:RowH):Option Src:=
 match σ.valAt r.at' with
 | .lit (.slice none 0 0)=>some ⟨r.id,none,r.te,r.e,[]⟩
 | .sl a g=>match σ.heap a with
  | some (.row te e g' xs)=>cond (Nat.beq g g'&&Nat.beq te r.te) (match castL (e:=e) (e':=r.e) xs with
   | some ys=>some ⟨r.id,some a,r.te,r.e,ys⟩
   | none=>none) none
  | _=>none
 | _=>none
def srcs (σ:St):List RowH→Option (List Src)
 | []=>some []
 | r::rs=>match srcOf σ r,srcs σ rs with
  | some s,some l=>some (s::l)
  | _,_=>none
def Src.list (l:List Src):List Nat:=l.filterMap (·.src)
def head (od:List Nat)(h:Hint)(σ:St):Option St:=
 match srcs σ h.rows with
 | none=>none
 | some l=>cond (distinct (Src.list l)&&distinct (l.map (·.id))&&l.all (fun s=>!mem (od++h.ids) s.id)&&(Src.list l).all (fun a=>!mem (od++h.ids) a))
   (some ⟨σ.nt,lkT (rowT h.rows++h.keep.map (fun t=>(t,clean (od++h.ids) (σ.val (.tmp t))))),
    lkH (l.map (fun s=>(s.id,some (.row s.te s.e 0 s.xs)))++(od++h.ids).map (fun i=>(i,(σ.heap i).map (headObj h.rows (od++h.ids) i)))),
    (od++h.ids)++l.map (·.id)⟩) none
section
variable [Glob]{N:Stable}{Dt:Bool×List Deferred}{w w0:World}{μ μ' μo:Mu}{S So:Stable}{H H' Ho:Heap}{B:Nat}{L:List Nat}{σ σ':St}{a:Act}
structure Ag (L:List Nat)(μ:Mu)(H:Heap)(μ':Mu)(H':Heap):Prop where
 mu:∀ i∈L,μ' i=μ i
 ob:∀ i∈L,∀ o,o.mv=true→H' i=some o→H i=some o
omit [Glob] in
theorem Ag.row {L:List Nat}(h:Ag L μ H μ' H'){i:Nat}(hi:i∈L){t:TypeId}{e:Ty}{g:Nat}{xs:List e.T}(hr:H' i=some (.row t e g xs)):H i=some (.row t e g xs):=h.ob i hi _ rfl hr
omit [Glob] in
theorem Ag.drow {L:List Nat}(h:Ag L μ H μ' H'){i:Nat}(hi:i∈L){t ti q:Nat}{xs:List FT}{st:DSt}(hr:H' i=some (.drow t ti q xs st)):H i=some (.drow t ti q xs st):=h.ob i hi _ rfl hr
omit [Glob] in
theorem Ag.still {L:List Nat}(h:Ag L μ H μ' H'){i:Nat}(hi:i∈L)(h2:∀ o,H i=some o→o.mv=false):∀ o,H' i=some o→o.mv=false:=by
 intro o ho
 cases hm:o.mv with
 | false=>rfl
 | true=>rw[← hm];exact h2 o (h.ob i hi o hm ho)
omit [Glob] in
theorem headObj_mv {rs:List RowH}{L:List Nat}{i:Nat}{o:Option HObj}{p:HObj}(hp:p.mv=true)(hr:o.map (headObj rs L i)=some p):o=some p:=by
 cases o with
 | none=>simp at hr
 | some o=>
  simp only[Option.map_some,Option.some.injEq] at hr
  subst hr
  cases o<;>first|rfl|simp[headObj,cleanObj,HObj.mv] at hp
omit [Glob] in
mutual
theorem VR_ag (h:Ag L μ H μ' H'):∀ (a:AV) (v:Value),a.refsIn L=true→VR μ S H a v→VR μ' S H' a v
 | .lit _,v,_,hr=>by simp only[VR] at hr ⊢;exact hr
 | .ptr i off,v,hl,hr=>by
  simp only[AV.refsIn] at hl
  have hi:=mem_iff.1 hl
  simp only[VR] at hr ⊢
  obtain⟨b,c,h1,h2,h3⟩:=hr
  exact⟨b,c,by rw[h.mu i hi];exact h1,h.still hi h2,h3⟩
 | .elc e x off,v,_,hr=>by simp only[VR] at hr ⊢;exact hr
 | .elp i g k off,v,hl,hr=>by
  simp only[AV.refsIn] at hl
  have hi:=mem_iff.1 hl
  simp only[VR] at hr ⊢
  obtain⟨h0,l,h1,h2⟩:=hr
  exact⟨h0,l,by rw[h.mu i hi];exact h1,fun t e gc xs hH=>h2 t e gc xs (h.row hi hH)⟩
 | .cont e xs,v,_,hr=>by simp only[VR] at hr ⊢;exact hr
 | .lnt i xs,v,_,hr=>by simp only[VR] at hr ⊢;exact hr
 | .sl i g,v,hl,hr=>by
  simp only[AV.refsIn] at hl
  have hi:=mem_iff.1 hl
  simp only[VR] at hr ⊢
  obtain⟨h0,l,h1,h2⟩:=hr
  exact⟨h0,l,by rw[h.mu i hi];exact h1,fun t e gc xs hH=>h2 t e gc xs (h.row hi hH)⟩
 | .sub i g lo hi,v,hl,hr=>by
  simp only[AV.refsIn] at hl
  have hi:=mem_iff.1 hl
  simp only[VR] at hr ⊢
  obtain⟨h0,l,h1,h2⟩:=hr
  exact⟨h0,l,by rw[h.mu i hi];exact h1,fun t e gc xs hH=>h2 t e gc xs (h.row hi hH)⟩
 | .bsl i n,v,hl,hr=>by
  simp only[AV.refsIn] at hl
  have hi:=mem_iff.1 hl
  simp only[VR] at hr ⊢
  obtain⟨b,c,h1,h2,h3⟩:=hr
  exact⟨b,c,by rw[h.mu i hi];exact h1,h.still hi h2,h3⟩
 | .yld i,v,hl,hr=>by
  simp only[AV.refsIn] at hl
  have hi:=mem_iff.1 hl
  simp only[VR] at hr ⊢
  obtain⟨b,c,h1,h2,h3⟩:=hr
  exact⟨b,c,by rw[h.mu i hi];exact h1,h.still hi h2,h3⟩
 | .mp i,v,hl,hr=>by
  simp only[AV.refsIn] at hl
  have hi:=mem_iff.1 hl
  simp only[VR] at hr ⊢
  obtain⟨b,c,h1,h2,h3⟩:=hr
  exact⟨b,c,by rw[h.mu i hi];exact h1,h.still hi h2,h3⟩
 | .fn f fi ca,v,hl,hr=>by
  simp only[AV.refsIn,Bool.and_eq_true] at hl
  simp only[VR] at hr ⊢
  obtain⟨x,y,h1,h2,h3⟩:=hr
  exact⟨x,y,h1,VRs_ag h fi _ hl.1 h2,VRs_ag h ca _ hl.2 h3⟩
 | .agg cs,v,hl,hr=>by
  simp only[AV.refsIn] at hl
  simp only[VR] at hr ⊢
  obtain⟨x,h1,h2⟩:=hr
  exact⟨x,h1,VRs_ag h cs _ hl h2⟩
 | .tup cs,v,hl,hr=>by
  simp only[AV.refsIn] at hl
  simp only[VR] at hr ⊢
  obtain⟨x,h1,h2⟩:=hr
  exact⟨x,h1,VRs_ag h cs _ hl h2⟩
 | .ifc t a,v,hl,hr=>by
  simp only[AV.refsIn] at hl
  simp only[VR] at hr ⊢
  obtain⟨u,h1,h2⟩:=hr
  exact⟨u,h1,VR_ag h a _ hl h2⟩
 | .pan _,_,_,hr=>by simp only[VR] at hr
 | .cel,_,_,hr=>by simpa only [VR] using hr
 | .dsl i,v,hl,hr=>by
  simp only[AV.refsIn] at hl
  have hi:=mem_iff.1 hl
  simp only[VR] at hr ⊢
  obtain⟨h0,l,h1,h2⟩:=hr
  exact⟨h0,l,by rw[h.mu i hi];exact h1,fun t ti q xs st hH=>h2 t ti q xs st (h.drow hi hH)⟩
 | .dep i k o,v,hl,hr=>by
  simp only[AV.refsIn] at hl
  have hi:=mem_iff.1 hl
  simp only[VR] at hr ⊢
  obtain⟨h0,l,h1,h2⟩:=hr
  exact⟨h0,l,by rw[h.mu i hi];exact h1,fun t ti q xs st hH=>h2 t ti q xs st (h.drow hi hH)⟩
 | .inn i q k lo h',v,hl,hr=>by
  simp only[AV.refsIn] at hl
  have hi:=mem_iff.1 hl
  simp only[VR] at hr ⊢
  obtain⟨h0,l,h1,h2⟩:=hr
  exact⟨h0,l,by rw[h.mu i hi];exact h1,fun t ti q xs st hH=>h2 t ti q xs st (h.drow hi hH)⟩
 | .inp i q k p,v,hl,hr=>by
  simp only[AV.refsIn] at hl
  have hi:=mem_iff.1 hl
  simp only[VR] at hr ⊢
  obtain⟨h0,l,h1,h2⟩:=hr
  exact⟨h0,l,by rw[h.mu i hi];exact h1,fun t ti q xs st hH=>h2 t ti q xs st (h.drow hi hH)⟩
 | .junk,_,_,_=>by simp only[VR]
theorem VRs_ag (h:Ag L μ H μ' H'):∀ (as:List AV) (vs:List Value),refsAll L as=true→VRs μ S H as vs→VRs μ' S H' as vs
 | [],vs,_,hr=>by simp only[VRs] at hr ⊢;exact hr
 | a::as,vs,hl,hr=>by
  simp only[refsAll,Bool.and_eq_true] at hl
  simp only[VRs] at hr ⊢
  obtain⟨v,r,h1,h2,h3⟩:=hr
  exact⟨v,r,h1,VR_ag h a v hl.1 h2,VRs_ag h as r hl.2 h3⟩
end
omit [Glob] in
theorem clean_VR (h:Ag L μ H μ' H'){a:AV}{v:Value}(hr:VR μ S H a v):VR μ' S H' (clean L a) v:=by
 unfold clean
 cases hl:a.refsIn L with
 | true=>exact VR_ag h a v hl hr
 | false=>simp only[cond_false,VR]
omit [Glob] in
theorem clean_VRs (h:Ag L μ H μ' H'):∀ {as:List AV} {vs:List Value},VRs μ S H as vs→VRs μ' S H' (as.map (clean L)) vs
 | [],vs,hr=>by simp only[VRs] at hr;subst hr;simp[VRs]
 | a::as,vs,hr=>by
  simp only[VRs] at hr
  obtain⟨v,r,rfl,h2,h3⟩:=hr
  simp only[List.map_cons,VRs]
  exact⟨v,r,rfl,clean_VR h h2,clean_VRs h h3⟩
omit [Glob] in
mutual
theorem VR_refs (h:∀ i,μ i≠none→i∈L):∀ (a:AV) (v:Value),VR μ S H a v→a.refsIn L=true
 | .lit _,v,_=>rfl
 | .ptr i off,v,hr=>by
  simp only[VR] at hr
  obtain⟨b,c,h1,_⟩:=hr
  simp only[AV.refsIn];exact mem_iff.2 (h i (by rw[h1];simp))
 | .elc e x off,v,_=>rfl
 | .elp i g k off,v,hr=>by
  simp only[VR] at hr
  obtain⟨_,l,h1,_⟩:=hr
  simp only[AV.refsIn];exact mem_iff.2 (h i (by rw[h1];simp))
 | .cont e xs,v,_=>rfl
 | .lnt i xs,v,_=>rfl
 | .sl i g,v,hr=>by
  simp only[VR] at hr
  obtain⟨_,l,h1,_⟩:=hr
  simp only[AV.refsIn];exact mem_iff.2 (h i (by rw[h1];simp))
 | .sub i g lo hi,v,hr=>by
  simp only[VR] at hr
  obtain⟨_,l,h1,_⟩:=hr
  simp only[AV.refsIn];exact mem_iff.2 (h i (by rw[h1];simp))
 | .bsl i n,v,hr=>by
  simp only[VR] at hr
  obtain⟨b,c,h1,_⟩:=hr
  simp only[AV.refsIn];exact mem_iff.2 (h i (by rw[h1];simp))
 | .yld i,v,hr=>by
  simp only[VR] at hr
  obtain⟨b,c,h1,_⟩:=hr
  simp only[AV.refsIn];exact mem_iff.2 (h i (by rw[h1];simp))
 | .mp i,v,hr=>by
  simp only[VR] at hr
  obtain⟨b,c,h1,_⟩:=hr
  simp only[AV.refsIn];exact mem_iff.2 (h i (by rw[h1];simp))
 | .dsl i,v,hr=>by
  simp only[VR] at hr
  obtain⟨_,l,h1,_⟩:=hr
  simp only[AV.refsIn];exact mem_iff.2 (h i (by rw[h1];simp))
 | .dep i k o,v,hr=>by
  simp only[VR] at hr
  obtain⟨_,l,h1,_⟩:=hr
  simp only[AV.refsIn];exact mem_iff.2 (h i (by rw[h1];simp))
 | .inn i q k lo h',v,hr=>by
  simp only[VR] at hr
  obtain⟨_,l,h1,_⟩:=hr
  simp only[AV.refsIn];exact mem_iff.2 (h i (by rw[h1];simp))
 | .inp i q k p,v,hr=>by
  simp only[VR] at hr
  obtain⟨_,l,h1,_⟩:=hr
  simp only[AV.refsIn];exact mem_iff.2 (h i (by rw[h1];simp))
 | .fn f fi ca,v,hr=>by
  simp only[VR] at hr
  obtain⟨x,y,h1,h2,h3⟩:=hr
  simp only[AV.refsIn,Bool.and_eq_true]
  exact⟨VRs_refs h fi _ h2,VRs_refs h ca _ h3⟩
 | .agg cs,v,hr=>by
  simp only[VR] at hr
  obtain⟨x,_,h2⟩:=hr
  simp only[AV.refsIn];exact VRs_refs h cs _ h2
 | .tup cs,v,hr=>by
  simp only[VR] at hr
  obtain⟨x,_,h2⟩:=hr
  simp only[AV.refsIn];exact VRs_refs h cs _ h2
 | .ifc t a,v,hr=>by
  simp only[VR] at hr
  obtain⟨u,_,h2⟩:=hr
  simp only[AV.refsIn];exact VR_refs h a _ h2
 | .pan _,_,hr=>by simp only[VR] at hr
 | .cel,_,_=>rfl
 | .junk,_,_=>rfl
theorem VRs_refs (h:∀ i,μ i≠none→i∈L):∀ (as:List AV) (vs:List Value),VRs μ S H as vs→refsAll L as=true
 | [],vs,_=>rfl
 | a::as,vs,hr=>by
  simp only[VRs] at hr
  obtain⟨v,r,_,h2,h3⟩:=hr
  simp only[refsAll,Bool.and_eq_true]
  exact⟨VR_refs h a v h2,VRs_refs h as r h3⟩
end
omit [Glob] in
theorem lkT_VR {μ:Mu}{S:Stable}{H:Heap}{f:Nat→Value}:∀ (l:List (Nat×AV)),(∀ p∈l,VR μ S H p.2 (f p.1))→∀ t,VR μ S H (lkT l t) (f t)
 | [],_,t=>by simp only[lkT,VR]
 | (q,v)::l,h,t=>by
  simp only[lkT]
  cases hb:Nat.beq t q with
  | true=>
   have:=Nat.eq_of_beq_eq_true hb
   subst this
   exact h (t,v) (by simp)
  | false=>exact lkT_VR l (fun p hp=>h p (by simp[hp])) t
omit [Glob] in
theorem lkH_map {f:Nat→Option HObj}:∀ (l:List Nat) (q:Nat),lkH (l.map fun i=>(i,f i)) q=cond (mem l q) (f q) none
 | [],q=>rfl
 | i::l,q=>by
  simp only[List.map_cons,lkH]
  cases hb:Nat.beq q i with
  | true=>
   have:=Nat.eq_of_beq_eq_true hb
   subst this
   have:mem (q::l) q=true:=mem_iff.2 (by simp)
   rw[this];rfl
  | false=>
   have hne:q≠i:=fun e=>by subst e;simp at hb
   rw[lkH_map l q]
   have:mem (i::l) q=mem l q:=by
    rw[Bool.eq_iff_iff,mem_iff,mem_iff];simp[hne]
   rw[this];rfl
omit [Glob] in
theorem lkH_src {g:Src→Option HObj}{rest:List (Nat×Option HObj)}:∀ (l:List Src) (s:Src),s∈l→distinct (l.map (·.id))=true→lkH (l.map (fun s=>(s.id,g s))++rest) s.id=g s
 | [],s,h,_=>by simp at h
 | p::l,s,h,hd=>by
  simp only[List.map_cons,distinct,Bool.and_eq_true,Bool.not_eq_true'] at hd
  simp only[List.map_cons,List.cons_append,lkH]
  rcases List.mem_cons.1 h with rfl|h
  ·simp
  ·have hne:Nat.beq s.id p.id=false:=by
    cases hb:Nat.beq s.id p.id with
    | false=>rfl
    | true=>
     have e:=Nat.eq_of_beq_eq_true hb
     have:=List.any_eq_false.1 hd.1 s.id (List.mem_map.2 ⟨s,h,rfl⟩)
     rw[e] at this;simp at this
   rw[hne]
   exact lkH_src l s h hd.2
omit [Glob] in
theorem lkH_rest {g:Src→Option HObj}{rest:List (Nat×Option HObj)}:∀ (l:List Src) (q:Nat),q∉l.map (·.id)→lkH (l.map (fun s=>(s.id,g s))++rest) q=lkH rest q
 | [],q,_=>rfl
 | p::l,q,h=>by
  simp only[List.map_cons,List.mem_cons,not_or] at h
  simp only[List.map_cons,List.cons_append,lkH]
  have hne:Nat.beq q p.id=false:=by
   cases hb:Nat.beq q p.id with
   | false=>rfl
   | true=>exact absurd (Nat.eq_of_beq_eq_true hb) h.1
  rw[hne]
  exact lkH_rest l q h.2
def Src.loc (μ:Mu)(s:Src):Option Lc:=
 match s.src with
 | none=>some ⟨none,0,noInn⟩
 | some a=>μ a
def muH (l:List Src)(L:List Nat)(μ:Mu):Mu:=fun q=>
 match l.find? (fun s=>Nat.beq s.id q) with
 | some s=>s.loc μ
 | none=>cond (mem L q) (μ q) none
omit [Glob] in
theorem muH_src:∀ (l:List Src) (s:Src),s∈l→distinct (l.map (·.id))=true→muH l L μ s.id=s.loc μ:=by
 intro l s hs hd
 unfold muH
 have:l.find? (fun p=>Nat.beq p.id s.id)=some s:=by
  induction l with
  | nil=>simp at hs
  | cons p l ih=>
   simp only[List.map_cons,distinct,Bool.and_eq_true,Bool.not_eq_true'] at hd
   rcases List.mem_cons.1 hs with rfl|hs
   ·simp
   ·have hne:Nat.beq p.id s.id=false:=by
     cases hb:Nat.beq p.id s.id with
     | false=>rfl
     | true=>
      have e:=Nat.eq_of_beq_eq_true hb
      have:=List.any_eq_false.1 hd.1 s.id (List.mem_map.2 ⟨s,hs,rfl⟩)
      rw[e] at this;simp at this
    rw[List.find?_cons,hne]
    exact ih hs hd.2
 rw[this]
omit [Glob] in
theorem muH_rest {l:List Src}{q:Nat}(h:q∉l.map (·.id)):muH l L μ q=cond (mem L q) (μ q) none:=by
 unfold muH
 have:l.find? (fun p=>Nat.beq p.id q)=none:=by
  rw[List.find?_eq_none]
  intro p hp hb
  exact h (List.mem_map.2 ⟨p,hp,Nat.eq_of_beq_eq_true hb⟩)
 rw[this]
structure SrcOK (H:Heap)(s:Src):Prop where
 nil:s.src=none→s.xs=[]
 row:∀ a,s.src=some a→∃ g,H a=some (.row s.te s.e g s.xs)
omit [Glob] in
theorem nthJ_VR:∀ {as:List AV} {vs:List Value},VRs μ S H as vs→∀ (n:Nat),VR μ S H (nthJ as n) (vs.getD n undef)
 | [],vs,h,n=>by simp only[nthJ,VR]
 | a::as,vs,h,n=>by
  simp only[VRs] at h
  obtain⟨v,r,rfl,h1,h2⟩:=h
  cases n with
  | zero=>simpa [nthJ] using h1
  | succ n=>simpa [nthJ] using nthJ_VR h2 n
theorem valAt_VR (A:AR N Dt μ S σ a)(R:Rel μ S σ.heap B w0 w)(p:Pl):∃ v,VR μ S σ.heap (σ.valAt p) v:=by
 cases p with
 | t s=>exact⟨_,A.val (.tmp s)⟩
 | c i off=>
  simp only[St.valAt]
  cases ho:σ.heap i with
  | none=>exact⟨undef,by simp only[boxAt,VR]⟩
  | some o=>
   cases o with
   | box t cs=>
    obtain⟨l,_,b,vs,_,_,_,_,h5⟩:=R.obj i _ ho
    exact⟨_,nthJ_VR h5 off⟩
   | _=>exact⟨undef,by simp only[boxAt,VR]⟩
omit [Glob] in
theorem srcOf_ok {r:RowH}{s:Src}{v:Value}(hv:VR μ S σ.heap (σ.valAt r.at') v)(h:srcOf σ r=some s) :
  s.id=r.id∧SrcOK σ.heap s∧∃ l,s.loc μ=some l∧∀ v,VR μ S σ.heap (σ.valAt r.at') v→v = .slice l.addr s.xs.length l.cap:=by
 unfold srcOf at h
 split at h
 ·rename_i hx
  cases h
  refine⟨rfl,⟨fun _=>rfl,fun a h=>by simp at h⟩,⟨none,0,noInn⟩,rfl,fun v hv=>?_⟩
  rw[hx] at hv
  simp only[VR] at hv
  exact hv
 ·rename_i i g hx
  split at h
  ·rename_i te e g' xs hH
   cases hb:(Nat.beq g g'&&Nat.beq te r.te) with
   | false=>rw[hb] at h;simp at h
   | true=>
    rw[hb] at h
    simp only[cond_true] at h
    simp only[Bool.and_eq_true] at hb
    have hgg:=Nat.eq_of_beq_eq_true hb.1
    have htt:=Nat.eq_of_beq_eq_true hb.2
    split at h
    ·rename_i ys hc
     obtain⟨he,hys⟩:=castL_eq hc
     obtain⟨sl,id0,te0,e0⟩:=r
     simp only at htt he hys
     subst htt
     subst he
     simp only at hys
     subst hys
     cases h
     have hv':=hv
     rw[hx] at hv'
     simp only[VR] at hv'
     obtain⟨_,l,hm,h3⟩:=hv'
     refine⟨rfl,⟨fun h=>by simp at h,fun a h=>by cases h;exact⟨g',hH⟩⟩,l,hm,fun v hv=>?_⟩
     rw[hx] at hv
     simp only[VR] at hv
     obtain⟨_,l',hm',h3'⟩:=hv
     rw[hm] at hm'
     cases hm'
     exact (h3' _ _ _ _ hH).2 hgg
    ·simp at h
  ·simp at h
 ·simp at h
theorem srcs_ok (A:AR N Dt μ S σ a)(R:Rel μ S σ.heap B w0 w):∀ {rs:List RowH} {l:List Src},srcs σ rs=some l →
  (∀ s∈l,SrcOK σ.heap s∧(s.loc μ).isSome=true)∧(∀ r∈rs,∃ s∈l,s.id=r.id∧∃ lc,s.loc μ=some lc∧∀ v,VR μ S σ.heap (σ.valAt r.at') v→v = .slice lc.addr s.xs.length lc.cap)
 | [],l,h=>by simp only[srcs,Option.some.injEq] at h;subst h;simp
 | r::rs,l,h=>by
  simp only[srcs] at h
  split at h
  ·rename_i s l' h1 h2
   cases h
   obtain⟨v,hv⟩:=valAt_VR A R r.at'
   obtain⟨k1,k2,lc,k3,k4⟩:=srcOf_ok hv h1
   obtain⟨q1,q2⟩:=srcs_ok A R h2
   refine⟨fun p hp=>?_,fun p hp=>?_⟩
   ·rcases List.mem_cons.1 hp with rfl|hp
    ·exact⟨k2,by rw[k3];rfl⟩
    ·exact q1 p hp
   ·rcases List.mem_cons.1 hp with rfl|hp
    ·exact⟨s,by simp,k1,lc,k3,k4⟩
    ·obtain⟨s',a1,a2⟩:=q2 p hp
     exact⟨s',by simp[a1],a2⟩
  ·simp at h
omit [Glob] in
theorem rowC_VRs {i:Nat}{vs:List Value}:∀ (rs:List RowH) {cs:List AV},(∀ r∈rs,∀ off,r.at' = .c i off→∀ v,vs[off]? = some v→VR μ S H (.sl r.id 0) v)→VRs μ S H cs vs→VRs μ S H (rowC rs i cs) vs
 | [],cs,_,h=>h
 | r::rs,cs,hr,h=>by
  have ih:∀ {cs:List AV},VRs μ S H cs vs→VRs μ S H (rowC rs i cs) vs:=fun h=>rowC_VRs rs (fun p hp=>hr p (by simp[hp])) h
  simp only[rowC]
  split
  ·exact ih h
  ·rename_i b off hat
   cases hb:Nat.beq b i with
   | false=>exact ih h
   | true=>
    have e:=Nat.eq_of_beq_eq_true hb
    subst e
    refine ih ?_
    simp only[cond_true]
    cases hv:vs[off]? with
    | some v=>
     have:=VRs_set h off _ v (hr r (by simp) off hat v hv)
     have e2:vs.set off v=vs:=by
      obtain⟨hlt,he⟩:=List.getElem?_eq_some_iff.1 hv
      rw[← he];exact List.set_getElem_self hlt
     rw[e2] at this
     exact this
    | none=>
     have hl:vs.length≤off:=List.getElem?_eq_none_iff.1 hv
     rw[List.set_eq_of_length_le (by rw[VRs_length h];exact hl)]
     exact h
omit [Glob] in
theorem rowT_mem {p:Nat×AV}:∀ {rs:List RowH},p∈rowT rs→∃ r∈rs,r.at' = .t p.1∧p.2 = .sl r.id 0
 | [],h=>by simp[rowT] at h
 | r::rs,h=>by
  simp only[rowT] at h
  split at h
  ·rename_i s hs
   rcases List.mem_cons.1 h with rfl|h
   ·exact⟨r,by simp,hs,rfl⟩
   ·obtain⟨q,h1,h2⟩:=rowT_mem h;exact⟨q,by simp[h1],h2⟩
  ·obtain⟨q,h1,h2⟩:=rowT_mem h;exact⟨q,by simp[h1],h2⟩
omit [Glob] in
theorem src_unique {l:List Src}(hd:distinct (Src.list l)=true):∀ {s p:Src},s∈l→p∈l→∀ {a:Nat},s.src=some a→p.src=some a→distinct (l.map (·.id))=true→s.id=p.id:=by
 induction l with
 | nil=>intro s p hs;simp at hs
 | cons q l ih=>
  intro s p hs hp a h1 h2 hi
  simp only[List.map_cons,distinct,Bool.and_eq_true,Bool.not_eq_true'] at hi
  have hd':distinct (Src.list l)=true∧∀ b,q.src=some b→b∉Src.list l:=by
   unfold Src.list at hd
   cases hq:q.src with
   | none=>rw[List.filterMap_cons,hq] at hd;exact⟨hd,fun b h=>by simp at h⟩
   | some b=>
    rw[List.filterMap_cons,hq] at hd
    simp only[distinct,Bool.and_eq_true,Bool.not_eq_true'] at hd
    refine⟨hd.2,fun c hc hm=>?_⟩
    cases hc
    have:=List.any_eq_false.1 hd.1 b hm
    simp at this
  have inl:∀ {x:Src},x∈l→x.src=some a→a∈Src.list l:=fun hx hxa=>List.mem_filterMap.2 ⟨_,hx,hxa⟩
  rcases List.mem_cons.1 hs with e1|hs'<;>rcases List.mem_cons.1 hp with e2|hp'
  ·rw[e1,e2]
  ·exact absurd (inl hp' h2) (hd'.2 a (by rw[← e1];exact h1))
  ·exact absurd (inl hs' h1) (hd'.2 a (by rw[← e2];exact h2))
  ·exact ih hd'.1 hs' hp' h1 h2 hi.2
theorem head_ok {od:List Nat}{h:Hint}(hh:head od h σ=some σ')(A:AR N Dt μ S σ a)(R:Rel μ S σ.heap B w0 w)(hod:∀ i,μo i≠none→i∈od)(Co:Carry B μo So Ho μ S σ.heap) :
  ∃ μ',AR N Dt μ' S σ' a∧Rel μ' S σ'.heap B w0 w∧Carry B μo So Ho μ' S σ'.heap∧Bd σ':=by
 unfold head at hh
 split at hh
 ·simp at hh
 ·rename_i l hl
  obtain⟨hc,rfl⟩:=cond_some hh
  simp only[Bool.and_eq_true,List.all_eq_true,Bool.not_eq_true'] at hc
  obtain⟨⟨⟨hd1,hd2⟩,hd3⟩,hd4⟩:=hc
  obtain⟨s1,s2⟩:=srcs_ok A R hl
  have notL:∀ s∈l,s.id∉od++h.ids:=fun s hs hm=>by
   have:=hd3 s hs
   rw[mem_iff.2 hm] at this;simp at this
  have srcNotL:∀ s∈l,∀ x,s.src=some x→x∉od++h.ids:=fun s hs x hx hm=>by
   have:=hd4 x (List.mem_filterMap.2 ⟨s,hs,hx⟩)
   rw[mem_iff.2 hm] at this;simp at this
  have inIds:∀ q,q∈od++h.ids→q∉l.map (·.id):=fun q hq hm=>by
   obtain⟨s,hs,rfl⟩:=List.mem_map.1 hm
   exact notL s hs hq
  let μ':Mu:=muH l (od++h.ids) μ
  let H':Heap:=lkH (l.map (fun s=>(s.id,some (.row s.te s.e 0 s.xs)))++(od++h.ids).map (fun i=>(i,(σ.heap i).map (headObj h.rows (od++h.ids) i))))
  have F1:∀ s∈l,H' s.id=some (.row s.te s.e 0 s.xs):=fun s hs=>lkH_src l s hs hd2
  have F2:∀ q,q∉l.map (·.id)→H' q=cond (mem (od++h.ids) q) ((σ.heap q).map (headObj h.rows (od++h.ids) q)) none:=fun q hq=>by
   show lkH _ q=_
   rw[lkH_rest l q hq,lkH_map]
  have M1:∀ s∈l,μ' s.id=s.loc μ:=fun s hs=>muH_src l s hs hd2
  have M2:∀ q,q∉l.map (·.id)→μ' q=cond (mem (od++h.ids) q) (μ q) none:=fun q hq=>muH_rest hq
  have ag:Ag (od++h.ids) μ σ.heap μ' H':=⟨fun i hi=>by rw[M2 i (inIds i hi),mem_iff.2 hi];rfl,fun i hi o ho hr=>by
   rw[F2 i (inIds i hi),mem_iff.2 hi] at hr
   exact headObj_mv ho hr⟩
  have cases_:∀ q l',μ' q=some l'→(∃ s∈l,s.id=q∧s.loc μ=some l')∨(q∈od++h.ids∧q∉l.map (·.id)∧μ q=some l'):=fun q l' hq=>by
   by_cases hm:q∈l.map (·.id)
   ·obtain⟨s,hs,rfl⟩:=List.mem_map.1 hm
    rw[M1 s hs] at hq
    exact .inl ⟨s,hs,rfl,hq⟩
   ·rw[M2 q hm] at hq
    cases hb:mem (od++h.ids) q with
    | true=>rw[hb] at hq;exact .inr ⟨mem_iff.1 hb,hm,hq⟩
    | false=>rw[hb] at hq;simp at hq
  have slR:∀ r∈h.rows,∀ v,VR μ S σ.heap (σ.valAt r.at') v→VR μ' S H' (.sl r.id 0) v:=by
   intro r hr v hv
   obtain⟨s,hs,e1,lc,e2,e3⟩:=s2 r hr
   have e3':=e3 v hv
   simp only[VR]
   refine⟨⟨_,_,_,e3'⟩,lc,by rw[← e1];exact (M1 s hs).trans e2,fun t1 e1' g1 xs1 hH=>?_⟩
   have hH2:H' r.id=some (.row t1 e1' g1 xs1):=hH
   rw[← e1,F1 s hs] at hH2
   injection hH2 with hH2
   injection hH2 with k1 k2 k3 k4
   refine⟨Nat.zero_le _,fun _=>?_⟩
   rw[e3']
   subst k2
   cases k4
   rfl
  refine⟨μ',⟨A.defers,A.size,fun t ht=>?_⟩,⟨R.below,R.size,R.st,fun q=>?_,fun q o hq=>?_,fun i j li lj b hij hi hj hb=>?_,fun q lq hq=>?_,R.pre⟩,⟨fun x v hv=>?_,Co.st,Co.sub⟩,fun q hq=>?_⟩
  ·refine lkT_VR (f:=fun t=>a.tmps.getD t undef) _ (fun p hp=>?_) t
   rcases List.mem_append.1 hp with hp|hp
   ·obtain⟨r,hr,hat,hpe⟩:=rowT_mem hp
    rw[hpe]
    refine slR r hr _ ?_
    rw[hat]
    exact A.val (.tmp p.1)
   ·obtain⟨t',ht',rfl⟩:=List.mem_map.1 hp
    exact clean_VR ag (A.val (.tmp t'))
  ·by_cases hm:q∈l.map (·.id)
   ·obtain⟨s,hs,rfl⟩:=List.mem_map.1 hm
    show (H' s.id).isSome=(μ' s.id).isSome
    rw[F1 s hs,M1 s hs,(s1 s hs).2];rfl
   ·show (H' q).isSome=(μ' q).isSome
    rw[F2 q hm,M2 q hm]
    cases mem (od++h.ids) q with
    | true=>simp only[cond_true,Option.isSome_map];exact R.dom q
    | false=>rfl
  ·by_cases hm:q∈l.map (·.id)
   ·obtain⟨s,hs,rfl⟩:=List.mem_map.1 hm
    have hq':H' s.id=some o:=hq
    rw[F1 s hs] at hq'
    cases hq'
    obtain⟨ok,hsome⟩:=s1 s hs
    cases hsrc:s.src with
    | none=>
     have hloc:s.loc μ=some ⟨none,0,noInn⟩:=by unfold Src.loc;rw[hsrc]
     refine⟨_,(M1 s hs).trans hloc,?_,.inl ⟨rfl,rfl⟩⟩
     rw[ok.nil hsrc];exact⟨Nat.le_refl _,Nat.zero_le _⟩
    | some x=>
     obtain⟨g,hx⟩:=ok.row x hsrc
     obtain⟨lx,k1,k2⟩:=R.obj x _ hx
     have hloc:s.loc μ=some lx:=by unfold Src.loc;rw[hsrc];exact k1
     exact⟨lx,(M1 s hs).trans hloc,k2⟩
   ·have hq':H' q=some o:=hq
    rw[F2 q hm] at hq'
    cases hb:mem (od++h.ids) q with
    | false=>rw[hb] at hq';simp at hq'
    | true=>
     rw[hb] at hq'
     simp only[cond_true] at hq'
     cases ho:σ.heap q with
     | none=>rw[ho] at hq';simp at hq'
     | some o'=>
      rw[ho] at hq'
      simp only[Option.map_some,Option.some.injEq] at hq'
      subst hq'
      obtain⟨lq,k1,k2⟩:=R.obj q o' ho
      refine⟨lq,by show μ' q=_;rw[M2 q hm,hb];exact k1,?_⟩
      cases o' with
      | box t cs=>
       obtain⟨b,vs,a1,a2,a3,a4,a5⟩:=k2
       refine⟨b,vs,a1,a2,a3,a4,rowC_VRs h.rows (fun r hr off hat v hv=>slR r hr v ?_) (clean_VRs ag a5)⟩
       have:=nthJ_VR a5 off
       rw[hat]
       simp only[St.valAt,ho,boxAt]
       rw[List.getD_eq_getElem?_getD,hv] at this
       exact this
      | siter s pos=>exact k2
      | map es=>exact k2
      | loop k r st ts=>
       obtain⟨b,fn,ss,pe,vs,ps,asn,body,df,q1,q2,q3,q4,q5,q6,q7⟩:=k2
       exact⟨b,fn,ss,pe,vs,ps,asn,body,df,q1,q2,q3,q4,q5,q6,clean_VRs ag q7⟩
      | row t e g xs=>exact k2
      | drow t ti q xs st=>exact k2
  ·rcases cases_ i li hi with⟨s,hs,e1,e2⟩|⟨h1,h2,h3⟩<;>rcases cases_ j lj hj with⟨p,hp,f1,f2⟩|⟨k1,k2,k3⟩
   ·unfold Src.loc at e2 f2
    cases hs1:s.src with
    | none=>rw[hs1] at e2;cases e2;rw[Lc.has_no rfl] at hb;simp at hb
    | some x=>
     rw[hs1] at e2
     cases hp1:p.src with
     | none=>rw[hp1] at f2;cases f2;rw[Lc.has_no rfl];simp
     | some y=>
      rw[hp1] at f2
      by_cases exy:x=y
      ·subst exy
       exact absurd (src_unique hd1 hs hp hs1 hp1 hd2) (by rw[e1,f1];exact hij)
      ·exact R.sep x y li lj b exy e2 f2 hb
   ·unfold Src.loc at e2
    cases hs1:s.src with
    | none=>rw[hs1] at e2;cases e2;rw[Lc.has_no rfl] at hb;simp at hb
    | some x=>
     rw[hs1] at e2
     exact R.sep x j li lj b (fun e=>srcNotL s hs x hs1 (e ▸ k1)) e2 k3 hb
   ·unfold Src.loc at f2
    cases hp1:p.src with
    | none=>rw[hp1] at f2;cases f2;rw[Lc.has_no rfl];simp
    | some y=>
     rw[hp1] at f2
     exact R.sep i y li lj b (fun e=>srcNotL p hp y hp1 (e ▸ h1)) h3 f2 hb
   ·exact R.sep i j li lj b hij h3 k3 hb
  ·rcases cases_ q lq hq with⟨s,hs,e1,e2⟩|⟨h1,h2,h3⟩
   ·obtain⟨ok,hsome⟩:=s1 s hs
    unfold Src.loc at e2
    cases hsrc:s.src with
    | none=>rw[hsrc] at e2;cases e2;exact .inl rfl
    | some x=>
     rw[hsrc] at e2
     obtain⟨g,hx⟩:=ok.row x hsrc
     exact .inl (R.inn_row e2 hx)
   ·rcases R.inn q lq h3 with h|⟨t',ti',q',ys,st,h⟩
    ·exact .inl h
    ·refine .inr ⟨t',ti',q',ys,st,?_⟩
     show H' q=_
     rw[F2 q h2,mem_iff.2 h1,h];rfl
  ·have h1:=VR_refs hod x v hv
   exact VR_ag ag x v (by
    have:=VR_refs (L:=od++h.ids) (fun i hi=>List.mem_append.2 (.inl (hod i hi))) x v hv
    exact this) (Co.vr x v hv)
  ·by_cases hm:q∈l.map (·.id)
   ·exact List.mem_append.2 (.inr hm)
   ·have hq':H' q≠none:=hq
    rw[F2 q hm] at hq'
    cases hb:mem (od++h.ids) q with
    | true=>exact List.mem_append.2 (.inl (mem_iff.1 hb))
    | false=>rw[hb] at hq';simp at hq'
omit [Glob] in
theorem lkH_keys:∀ (l:List (Nat×Option HObj)) (q:Nat),lkH l q≠none→q∈l.map (·.1)
 | [],q,h=>absurd rfl h
 | (i,o)::l,q,h=>by
  simp only[lkH] at h
  cases hb:Nat.beq q i with
  | true=>rw[Nat.eq_of_beq_eq_true hb];simp
  | false=>
   rw[hb] at h
   have:=lkH_keys l q h
   simp only[List.map_cons,List.mem_cons];exact .inr this
omit [Glob] in
theorem head_bd {od:List Nat}{h:Hint}(hh:head od h σ=some σ'):Bd σ':=by
 unfold head at hh
 split at hh
 ·simp at hh
 ·obtain⟨_,rfl⟩:=cond_some hh
  intro q hq
  have:=lkH_keys _ q hq
  simp only[List.map_append,List.map_map,List.mem_append,List.mem_map,Function.comp_apply] at this ⊢
  rcases this with⟨s,h1,h2⟩|⟨i,h1,h2⟩|⟨i,h1,h2⟩
  ·exact .inr ⟨s,h1,h2⟩
  ·subst h2;exact .inl (.inl h1)
  ·subst h2;exact .inl (.inr h1)
end
def CellsSub (S S':Stable):Prop:=∀ a v,cellS S a=some v→cellS S' a=some v
theorem Rd_cells {S S':Stable}(h:CellsSub S S'):∀ (t:Ty) (x:t.T) (cs:List Value),Rd S t x cs→Rd S' t x cs
 | .int _,_,_,hr=>hr
 | .bool,_,_,hr=>hr
 | .str,_,_,hr=>hr
 | .row e,xs,cs,hr=>by
  obtain⟨a,cap,h1,h2,h3⟩:=hr
  refine⟨a,cap,h1,h2,fun j x hj=>?_⟩
  obtain⟨ad,c,e1,e2,e3⟩:=h3 j x hj
  exact⟨ad,c,e1,Rd_cells h e x c e2,fun m v hv=>h _ _ (e3 m v hv)⟩
 | .pair a b,x,cs,hr=>by
  obtain⟨c,d,h1,h2,h3⟩:=hr
  exact⟨c,d,h1,Rd_cells h a _ _ h2,Rd_cells h b _ _ h3⟩
 | .one a,x,cs,hr=>Rd_cells h a x cs hr
 | .fnc _,_,_,hr=>hr
 | .nil,_,_,hr=>hr
section
variable {μ:Mu}{S S':Stable}{H:Heap}
mutual
theorem VR_cells (h:CellsSub S S'):∀ (a:AV) (v:Value),VR μ S H a v→VR μ S' H a v
 | .lit _,v,hr=>by simp only[VR] at hr ⊢;exact hr
 | .ptr i off,v,hr=>by simp only[VR] at hr ⊢;exact hr
 | .elc e x off,v,hr=>by
  simp only[VR] at hr ⊢
  obtain⟨ad,c,h1,h2,h3⟩:=hr
  exact⟨ad,c,Rd_cells h _ _ _ h1,fun m u hm=>h _ _ (h2 m u hm),h3⟩
 | .elp i g k off,v,hr=>by simp only[VR] at hr ⊢;exact hr
 | .cont e xs,v,hr=>by simp only[VR] at hr ⊢;exact Rd_cells h (.row e) xs [v] hr
 | .lnt i xs,v,hr=>by simp only[VR] at hr ⊢;exact Rd_cells h (.row (.int .u8)) xs [v] hr
 | .sl i g,v,hr=>by simp only[VR] at hr ⊢;exact hr
 | .sub i g lo hi,v,hr=>by simp only[VR] at hr ⊢;exact hr
 | .bsl i n,v,hr=>by simp only[VR] at hr ⊢;exact hr
 | .yld i,v,hr=>by simp only[VR] at hr ⊢;exact hr
 | .mp i,v,hr=>by simp only[VR] at hr ⊢;exact hr
 | .dsl i,v,hr=>by simp only[VR] at hr ⊢;exact hr
 | .dep i k o,v,hr=>by simp only[VR] at hr ⊢;exact hr
 | .inn i q k lo h',v,hr=>by simp only[VR] at hr ⊢;exact hr
 | .inp i q k p,v,hr=>by simp only[VR] at hr ⊢;exact hr
 | .fn f fi ca,v,hr=>by
  simp only[VR] at hr ⊢
  obtain⟨x,y,h1,h2,h3⟩:=hr
  exact⟨x,y,h1,VRs_cells h fi _ h2,VRs_cells h ca _ h3⟩
 | .agg cs,v,hr=>by
  simp only[VR] at hr ⊢
  obtain⟨x,h1,h2⟩:=hr
  exact⟨x,h1,VRs_cells h cs _ h2⟩
 | .tup cs,v,hr=>by
  simp only[VR] at hr ⊢
  obtain⟨x,h1,h2⟩:=hr
  exact⟨x,h1,VRs_cells h cs _ h2⟩
 | .ifc t a,v,hr=>by
  simp only[VR] at hr ⊢
  obtain⟨u,h1,h2⟩:=hr
  exact⟨u,h1,VR_cells h a _ h2⟩
 | .pan _,_,hr=>by simp only[VR] at hr
 | .cel,_,hr=>by simpa only [VR] using hr
 | .junk,_,_=>by simp only[VR]
theorem VRs_cells (h:CellsSub S S'):∀ (as:List AV) (vs:List Value),VRs μ S H as vs→VRs μ S' H as vs
 | [],vs,hr=>by simp only[VRs] at hr ⊢;exact hr
 | a::as,vs,hr=>by
  simp only[VRs] at hr ⊢
  obtain⟨v,r,h1,h2,h3⟩:=hr
  exact⟨v,r,h1,VR_cells h a v h2,VRs_cells h as r h3⟩
end
end
section
variable [Glob]{P:Program}{w w' w0:World}{μ μ' μo:Mu}{S S' So N:Stable}{H H' Ho:Heap}{B:Nat}
def cutS (S:Stable)(D:Nat):Stable:=fun b=>cond (Nat.beq b D) none (S b)
omit [Glob] in
theorem cutS_ne {S:Stable}{D b:Nat}(h:b≠D):cutS S D b=S b:=by
 unfold cutS
 cases hb:Nat.beq b D with
 | true=>exact absurd (Nat.eq_of_beq_eq_true hb) h
 | false=>rfl
omit [Glob] in
theorem cutS_same {S:Stable}{D:Nat}:cutS S D D=none:=by simp[cutS]
omit [Glob] in
theorem cutS_cells {S:Stable}{D:Nat}{x:Option (List Deferred)}(h:S D=some (.deferred x)):CellsSub S (cutS S D):=by
 intro a v hv
 unfold cellS at hv ⊢
 by_cases e:a.block=D
 ·rw[e,h] at hv;simp at hv
 ·rw[cutS_ne e];exact hv
omit [Glob] in
theorem RowR_cells {S':Stable}{w':World}(hc:CellsSub S S'){l:Lc}{t:TypeId}{e:Ty}{xs:List e.T}(hw:∀ b,l.blk=some b→w'.heap[b]? = w.heap[b]?)(hs:∀ b,l.blk=some b→S' b=S b)
  (h:RowR S w B l t e xs):RowR S' w' B l t e xs:=
 ⟨h.1,h.2.imp id fun⟨b,cs,a1,a2,a3,a4,a5,a6⟩=>⟨b,cs,a1,a2,by rw[hs b a1];exact a3,by rw[hw b a1];exact a4,a5,fun j x hj=>by
  obtain⟨c,k1,k2⟩:=a6 j x hj
  exact⟨c,Rd_cells hc _ _ _ k1,k2⟩⟩⟩
theorem Rel.take (R:Rel μ S H B w0 w){D:Nat}(hD:S D=some (.deferred (some [])))(hB:B≤D)(hN:∀ b o,N b=some o→S b=some o)(hND:N D=none)(hp:Glob.pre N) :
  Rel μ (cutS S D) H B w0 (w.putObj D (.deferred none)):=by
 have hlt:=R.st_lt hD
 have hsub:∀ b o,N b=some o→cutS S D b=some o:=fun b o h=>by
  have:b≠D:=fun e=>by subst e;rw[hND] at h;simp at h
  rw[cutS_ne this];exact hN b o h
 have hbl:Below B w (w.putObj D (.deferred none)):=below_put hB _
 refine⟨R.below.trans hbl,by simpa using R.size,fun b o h=>?_,R.dom,fun i o hi=>?_,R.sep,R.inn,Glob.mono _ _ hsub hp⟩
 ·have:b≠D:=fun e=>by subst e;rw[cutS_same] at h;simp at h
  rw[cutS_ne this] at h
  rw[World.putObj_heap_other this];exact R.st b o h
 ·obtain⟨l,h1,h2⟩:=R.obj i o hi
  refine⟨l,h1,?_⟩
  have hneH:∀ b,l.has b→b≠D:=fun b hb e=>by
   have:=(R.geH h1 hb).2
   rw[e,hD] at this;simp at this
  have hne:∀ b,l.blk=some b→b≠D:=fun b hb=>hneH b (.inl hb)
  have hc:=cutS_cells hD
  cases o with
  | box t cells=>
   obtain⟨b,cs,q1,q2,q3,q4,q5⟩:=h2
   exact⟨b,cs,q1,q2,by rw[cutS_ne (hne b q1)];exact q3,by rw[World.putObj_heap_other (hne b q1)];exact q4,VRs_cells hc _ _ q5⟩
  | siter s pos=>
   obtain⟨b,q1,q2,q3,q4⟩:=h2
   exact⟨b,q1,q2,by rw[cutS_ne (hne b q1)];exact q3,by rw[World.putObj_heap_other (hne b q1)];exact q4⟩
  | map es=>
   obtain⟨b,q1,q2,q3,q4⟩:=h2
   exact⟨b,q1,q2,by rw[cutS_ne (hne b q1)];exact q3,by rw[World.putObj_heap_other (hne b q1)];exact q4⟩
  | loop k r st ts=>
   obtain⟨b,fn,ss,pe,vs,ps,asn,body,df,q1,q2,q3,q4,q5,q6,q7⟩:=h2
   exact⟨b,fn,ss,pe,vs,ps,asn,body,df,q1,q2,by rw[cutS_ne (hne b q1)];exact q3,q4,q5,by rw[World.putObj_heap_other (hne b q1)];exact q6,VRs_cells hc _ _ q7⟩
  | row t e g xs=>exact RowR_cells hc (fun b hb=>World.putObj_heap_other (hne b hb)) (fun b hb=>cutS_ne (hne b hb)) h2
  | drow t ti q xs st=>
   have h2:DeepR S w B l t ti xs st:=h2
   exact⟨h2.len,h2.out,fun k x hx hm=>RowR_cells hc (fun b hb=>World.putObj_heap_other (hneH b (Lc.has_at hb))) (fun b hb=>cutS_ne (hneH b (Lc.has_at hb))) (h2.row k x hx hm),h2.one,h2.off,
    h2.cel.imp id fun⟨b,cs,q1,q2,q3,q4,q5,q6⟩=>⟨b,cs,q1,q2,by rw[cutS_ne (hne b q1)];exact q3,by rw[World.putObj_heap_other (hne b q1)];exact q4,q5,fun k x hx=>by
     obtain⟨f0,f2,v,f1,f3,f4,f5⟩:=q6 k x hx
     exact⟨f0,f2,v,f1,f3,f4,fun h=>Rd_cells hc _ _ _ (f5 h)⟩⟩⟩
def addS (S:Stable)(D:Nat)(o:Obj):Stable:=fun b=>cond (Nat.beq b D) (some o) (S b)
omit [Glob] in
theorem addS_ne {S:Stable}{D b:Nat}{o:Obj}(h:b≠D):addS S D o b=S b:=by
 unfold addS
 cases hb:Nat.beq b D with
 | true=>exact absurd (Nat.eq_of_beq_eq_true hb) h
 | false=>rfl
omit [Glob] in
theorem addS_same {S:Stable}{D:Nat}{o:Obj}:addS S D o D=some o:=by simp[addS]
theorem Rel.mark (R:Rel μ S H B w0 w)(o:Obj):Rel μ (addS S w.heap.size o) H B w0 (w.alloc o)∧Carry B μ S H μ (addS S w.heap.size o) H:=by
 have hsub:∀ b o',S b=some o'→addS S w.heap.size o b=some o':=fun b o' h=>by
  rw[addS_ne (by have:=R.st_lt h;omega)];exact h
 have E:Ext μ S H μ (addS S w.heap.size o) H:=⟨fun _ _ h=>.inl h,hsub,fun _ t _ g xs _ h=>⟨t,g,xs,h,Nat.le_refl _,fun _=>rfl⟩,fun _ t ti q xs st _ h=>⟨t,ti,q,xs,st,h,Nat.le_refl _,rfl,fun _ _ h=>h⟩⟩
 refine⟨⟨R.below.alloc R.size o,by have:=R.size;simp;omega,fun b o' h=>?_,R.dom,fun i o' hi=>?_,R.sep,R.inn,Glob.mono _ _ hsub R.pre⟩,fun a v h=>VR_mono E a v h,fun b hb=>?_,hsub⟩
 ·by_cases e:b=w.heap.size
  ·subst e;rw[addS_same] at h;cases h;exact alloc_heap_new w o
  ·rw[addS_ne e] at h
   rw[alloc_heap_lt w o (R.st_lt h)];exact R.st b o' h
 ·obtain⟨l,h1,h2⟩:=R.obj i o' hi
  exact⟨l,h1,ObjR_mono E (fun b hb=>alloc_heap_lt w o (R.ltH h1 hb)) (fun b hb=>by
   have:=R.ltH h1 hb
   rw[addS_ne (by omega)];exact (R.geH h1 hb).2) h2⟩
 ·by_cases e:b=w.heap.size
  ·subst e;exact .inr R.size
  ·rw[addS_ne e] at hb;exact .inl hb
omit [Glob] in
theorem Ext.loop {i k r:Nat}{st:LSt}{ts:List AV}:Ext μ S H μ S (upd H i (some (.loop k r st ts))):=Ext.still' rfl
theorem Rel.loop (R:Rel μ S H B w0 w){i k r b:Nat}{cp:Nat}{st:LSt}{ts:List AV}(h:H i=some (.loop k r st ts))(hm:μ i=some ⟨some b,cp,noInn⟩) :
  ∃ L:Loop,w.heap[b]? = some (.loop L)∧Glob.rng k r=some (L.params,L.assign,L.body)∧st.Is L.state L.pending∧VRs μ S H ts L.tmps.toList:=by
 obtain⟨l,h1,h2⟩:=R.obj i _ h
 rw[hm] at h1;cases h1
 obtain⟨b',fn,ss,pe,vs,ps,asn,body,df,q1,q2,q3,q4,q5,q6,q7⟩:=h2
 cases q1
 exact⟨⟨ss,pe,fn,vs,ps,asn,body,df⟩,q6,q4,q5,q7⟩
theorem Rel.setLoop (R:Rel μ S H B w0 w){i k r b:Nat}{cp:Nat}{st st':LSt}{ts:List AV}(h:H i=some (.loop k r st ts))(hm:μ i=some ⟨some b,cp,noInn⟩){L L':Loop}
  (hL:w.heap[b]? = some (.loop L)) (hc:L'.params=L.params∧L'.assign=L.assign∧L'.body=L.body∧L'.tmps=L.tmps) (hst:st'.Is L'.state L'.pending) :
  Rel μ S (upd H i (some (.loop k r st' ts))) B w0 (w.putObj b (.loop L'))∧Ext μ S H μ S (upd H i (some (.loop k r st' ts))):=by
 obtain⟨l,h1,h2⟩:=R.obj i _ h
 rw[hm] at h1;cases h1
 obtain⟨b',fn,ss,pe,vs,ps,asn,body,df,q1,q2,q3,q4,q5,q6,q7⟩:=h2
 cases q1
 rw[hL] at q6;cases q6
 obtain⟨c1,c2,c3,c4⟩:=hc
 obtain⟨ss',pe',fn',vs',ps',asn',body',df'⟩:=L'
 simp only at c1 c2 c3 c4 hst
 subst c1 c2 c3 c4
 have E:Ext μ S H μ S (upd H i (some (.loop k r st' ts))):=Ext.loop
 refine⟨R.wr hm (.inl rfl) _ (below_put (Nat.le_refl _) _) (by simp) (fun k hk=>World.putObj_heap_other hk) E ?_ (.inl rfl),E⟩
 exact⟨b,fn',ss',pe',_,_,_,_,df',rfl,q2,q3,q4,hst,World.putObj_heap_same (R.lt hm rfl),VRs_mono E _ _ q7⟩
theorem leaves_marks {F:Fence}{fn:Func}{tmps:Array Value}{Rs:Ending→World→Prop}{Dt:List Deferred}{u:FrameMode}(hu:u ≠ .run)(hN:Glob.pre N):∀ (ms:List Nat) (S:Stable) (w:World),Rel μ S H B w0 w→Mark S N ms→(∀ b o,N b=some o→S b=some o)→(∀ D∈ms,B≤D) →
  (∀ (S':Stable) (w':World),Rel μ S' H B w0 w'→CellsSub S S'→(∀ b o,N b=some o→S' b=some o)→(∀ b,S' b≠none→S b≠none)→LeavesInM F 0 P fn tmps Rs Dt u w') →
  LeavesInM F 0 P fn tmps Rs ((ms.map fun D=>⟨.collected D,#[]⟩)++Dt) u w
 | [],S,w,R,hm,hsub,hB,hK=>hK S w R (fun _ _ h=>h) hsub (fun _ h=>h)
 | D::ms,S,w,R,hm,hsub,hB,hK=>by
  obtain⟨hnd,hms⟩:=hm
  obtain⟨hND,hSD⟩:=hms D (by simp)
  have hw:=R.st _ _ hSD
  refine⟨hu,.inl ⟨D,_,rfl,run_takeDeferred hw,?_⟩⟩
  have R1:=R.take hSD (hB D (by simp)) hsub hND hN
  have hnd':=List.nodup_cons.1 hnd
  refine leaves_marks hu hN ms _ _ R1 ⟨hnd'.2,fun D' hD'=>⟨(hms D' (by simp[hD'])).1,?_⟩⟩ (fun b o h=>?_) (fun D' hD'=>hB D' (by simp[hD'])) (fun S' w' R' hc h1 h2=>?_)
  ·rw[cutS_ne (fun e=>by subst e;exact hnd'.1 hD')];exact (hms D' (by simp[hD'])).2
  ·rw[cutS_ne (fun e=>by subst e;rw[hND] at h;simp at h)];exact hsub b o h
  ·refine hK S' w' R' (fun a v h=>hc _ _ (cutS_cells hSD _ _ h)) h1 (fun b hb=>?_)
   have:=h2 b hb
   unfold cutS at this
   intro hn
   rw[hn] at this
   apply this
   cases Nat.beq b D<;>rfl
omit [Glob] in
theorem VRs_range {f:Nat→AV}:∀ (vs:List Value) (k:Nat),(∀ t,t<vs.length→VR μ S H (f (k+t)) (vs.getD t undef))→VRs μ S H ((List.range' k vs.length).map f) vs
 | [],k,h=>by simp[VRs]
 | v::vs,k,h=>by
  simp only[List.length_cons,List.range'_succ,List.map_cons,VRs]
  refine⟨v,vs,rfl,by simpa using h 0 (by simp),VRs_range vs (k+1) fun t ht=>?_⟩
  have:=h (t+1) (by simp;omega)
  rw[show k+1+t=k+(t+1) by omega]
  simpa using this
def setPs:List AV→List Tmp→List AV→List AV
 | ts,p::ps,a::as=>setPs (ts.set p a) ps as
 | ts,_,_=>ts
omit [Glob] in
theorem setPs_VRs:∀ {ts:List AV} {vs:Array Value} {ps:List Tmp} {as:List AV} {us:List Value},VRs μ S H ts vs.toList→VRs μ S H as us →
  VRs μ S H (setPs ts ps as) ((ps.zip us).foldl (fun tmps (t,a)=>tmps.setIfInBounds t a) vs).toList
 | ts,vs,[],as,us,h,h'=>by simpa [setPs] using h
 | ts,vs,p::ps,[],us,h,h'=>by
  simp only[VRs] at h';subst h'
  simpa [setPs] using h
 | ts,vs,p::ps,a::as,us,h,h'=>by
  simp only[VRs] at h'
  obtain⟨v,r,rfl,h2,h3⟩:=h'
  simp only[setPs,List.zip_cons_cons,List.foldl_cons]
  refine setPs_VRs ?_ h3
  rw[Array.toList_setIfInBounds]
  exact VRs_set h p a v h2
end
section
variable {P:Program}{b:Frame}{a:Act}{k:List Item}{cs:List Frame}{w:World}
theorem stepR_scope {c:Code}:step P (lone (b.atR a (.code (.scope c)::k)) cs w) = .next (lone (b.atR a (.code c :: .inScope c::k)) cs w):=
 step_lone_go (by simp[stepG,stepG.exec,Frame.atR])
theorem stepR_inScope {c:Code}:step P (lone (b.atR a (.inScope c::k)) cs w) = .next (lone (b.atR a k) cs w):=
 step_lone_go (by simp[stepG,stepG.exec,Frame.atR])
end
def jumpQ (l:Nat)(J:Act→World→Prop)(Q:Exit→Act→World→Prop):Exit→Act→World→Prop
 | .goto l',a,w=>l'=l∧J a w
 | e,a,w=>Q e a w
def scopeR (F:Fence)(n:Nat)(P:Program)(l:Nat)(r:Code)(Q:Exit→Act→World→Prop):Nat→Act→World→Prop
 | 0,_,_=>False
 | m+1,a,w=>r.wpIn F n P (jumpQ l (scopeR F n P l r Q m) Q) a w
theorem wpIn_scope_rounds {F:Fence}{n:Nat}{P:Program}{Q:Exit→Act→World→Prop}{a:Act}{w:World}{c r:Code}{l:Nat}(m:Nat)(hf:0<m→findLabel c l=some r)
  (h:c.wpIn F n P (jumpQ l (scopeR F n P l r Q m) Q) a w):(Code.scope c).wpIn F n P Q a w:=by
 intro b k cs hro hb hr
 have hx:∀ i,exitTo i (.inScope c::k)=exitTo i k:=fun i=>by simp[exitTo]
 have key:∀ m a w,(0<m→findLabel c l=some r)→scopeR F n P l r Q m a w →
   ∃ e a' w',Q e a' w'∧ArrivesIn (Machine.fenced P F) P (lone (b.atR a (.code r :: .inScope c::k)) cs w) b k cs e a' w':=by
  intro m
  induction m with
  | zero=>intro a w _ h;exact h.elim
  | succ m ih=>
   intro a w hf h
   obtain⟨e,a₁,w₁,hq,harr⟩:=h b (.inScope c::k) cs hro hb hr
   cases e with
   | normal=>exact⟨.normal,a₁,w₁,hq,StepsIn.trans harr (.one (fenced_calm hb hr rfl) stepR_inScope)⟩
   | exit i=>exact⟨.exit i,a₁,w₁,hq,fun k' hk=>harr.1 k' (by rw[hx];exact hk),fun hr' hk=>harr.2 hr' (by rw[hx];exact hk)⟩
   | goto l'=>
    obtain⟨rfl,hJ⟩:=hq
    obtain⟨e₂,a₂,w₂,hq₂,harr₂⟩:=ih a₁ w₁ (fun _=>hf (Nat.succ_pos _)) hJ
    have hg:gotoIn l' (.inScope c::k)=some (.code r :: .inScope c::k):=by simp[gotoIn,hf (Nat.succ_pos _)]
    exact⟨e₂,a₂,w₂,hq₂,.of_steps (harr.1 _ hg) harr₂⟩
   | ret=>exact⟨_,a₁,w₁,hq,harr⟩
   | panic ch=>exact⟨_,a₁,w₁,hq,harr⟩
   | outgrown=>exact⟨_,a₁,w₁,hq,harr⟩
 have h0:(lone (b.atR a (.code (.scope c)::k)) cs w).fenced P F:=fenced_calm hb hr rfl
 obtain⟨e,a₁,w₁,hq,harr⟩:=h b (.inScope c::k) cs hro hb hr
 cases e with
 | normal=>exact⟨.normal,a₁,w₁,hq,.head h0 stepR_scope (StepsIn.trans harr (.one (fenced_calm hb hr rfl) stepR_inScope))⟩
 | exit i=>exact⟨.exit i,a₁,w₁,hq,fun k' hk=>.head h0 stepR_scope (harr.1 k' (by rw[hx];exact hk)),fun hr' hk=>let ⟨k₁,h1,h2⟩:=harr.2 hr' (by rw[hx];exact hk);⟨k₁,h1,.head h0 stepR_scope h2⟩⟩
 | goto l'=>
  obtain⟨rfl,hJ⟩:=hq
  cases m with
  | zero=>exact hJ.elim
  | succ m=>
   obtain⟨e₂,a₂,w₂,hq₂,harr₂⟩:=key (m+1) a₁ w₁ hf hJ
   have hg:gotoIn l' (.inScope c::k)=some (.code r :: .inScope c::k):=by simp[gotoIn,hf (Nat.succ_pos _)]
   exact⟨e₂,a₂,w₂,hq₂,.of_steps (.head h0 stepR_scope (harr.1 _ hg)) harr₂⟩
 | ret=>exact⟨_,a₁,w₁,hq,.of_steps (.one h0 stepR_scope) harr⟩
 | panic ch=>exact⟨_,a₁,w₁,hq,.of_steps (.one h0 stepR_scope) harr⟩
 | outgrown=>exact⟨_,a₁,w₁,hq,.of_steps (.one h0 stepR_scope) harr⟩
def noLab:Code→Bool
 | .seq x y=>noLab x&&noLab y
 | .label _=>false
 | _=>true
theorem noLab_find {l:Nat}:∀ {c:Code},noLab c=true→findLabel c l=none
 | .seq x y,h=>by
  simp only[noLab,Bool.and_eq_true] at h
  simp[findLabel,noLab_find h.1,noLab_find h.2]
 | .label _,h=>by simp[noLab] at h
 | .skip,_=>rfl
 | .region _ _ _,_=>rfl
 | .cond _ _ _,_=>rfl
 | .block _ _,_=>rfl
 | .loop _,_=>rfl
 | .exit _,_=>rfl
 | .ret,_=>rfl
 | .rangeFunc _ _ _ _,_=>rfl
 | .scope _,_=>rfl
 | .goto _,_=>rfl
 | .refuse _,_=>rfl
def labOf:Code→Option Nat
 | .label l=>some l
 | _=>none
theorem labOf_eq {c:Code}{l:Nat}(h:labOf c=some l):c = .label l:=by
 cases c<;>simp_all [labOf]
def spineOK:Code→Bool
 | .seq x y=>match labOf x with
  | some _=>true
  | none=>noLab x&&spineOK y
 | .label _=>false
 | _=>true
def spineLab:Code→Option (Nat×Code)
 | .seq x y=>match labOf x with
  | some l=>some (l,.seq .skip y)
  | none=>spineLab y
 | _=>none
theorem spine_find:∀ {c:Code} {l:Nat} {r:Code},spineOK c=true→spineLab c=some (l,r)→findLabel c l=some r
 | .seq x y,l,r,h,hs=>by
  simp only[spineOK,spineLab] at h hs
  cases hl:labOf x with
  | some l'=>
   rw[hl] at hs
   simp only[Option.some.injEq,Prod.mk.injEq] at hs
   obtain⟨rfl,rfl⟩:=hs
   have:=labOf_eq hl
   subst this
   simp[findLabel]
  | none=>
   rw[hl] at h hs
   simp only[Bool.and_eq_true] at h
   simp only at hs
   simp[findLabel,noLab_find h.1,spine_find h.2 hs]
 | .skip,_,_,_,hs=>by simp[spineLab] at hs
 | .region _ _ _,_,_,_,hs=>by simp[spineLab] at hs
 | .cond _ _ _,_,_,_,hs=>by simp[spineLab] at hs
 | .block _ _,_,_,_,hs=>by simp[spineLab] at hs
 | .loop _,_,_,_,hs=>by simp[spineLab] at hs
 | .exit _,_,_,_,hs=>by simp[spineLab] at hs
 | .label _,_,_,_,hs=>by simp[spineLab] at hs
 | .ret,_,_,_,hs=>by simp[spineLab] at hs
 | .rangeFunc _ _ _ _,_,_,_,hs=>by simp[spineLab] at hs
 | .scope _,_,_,_,hs=>by simp[spineLab] at hs
 | .goto _,_,_,_,hs=>by simp[spineLab] at hs
 | .refuse _,_,_,_,hs=>by simp[spineLab] at hs
def Jmp.ex:Jmp→Ex
 | .ret=>.ret
 | .exit i=>.exit i
 | .goto l=>.goto l
def exLoop:Nat→(St→Option (Ex×St))→St→Option (Ex×St)
 | 0,_,_=>none
 | n+1,f,σ=>match f σ with
  | some (.nrm,σ')=>exLoop n f σ'
  | some (.exit i,σ')=>some (.exit i,σ')
  | some (.goto i,σ')=>some (.goto i,σ')
  | some (.ret,σ')=>some (.ret,σ')
  | some (.pan _,_)=>none
  | none=>none
def site (base id:Nat):Nat:=base+id * 4096
abbrev Hints:=Nat→Nat→St→Option LoopH
def hintOf (Hn:Hints)(base:Nat)(x:Code)(σ:St):Option LoopH:=
 match firstReg x with
 | some r=>Hn base r σ
 | none=>none
def mvOf:Option LoopH→St→St
 | none,σ=>σ
 | some h,σ=>σ.moves h.moves
theorem mvOf_bd {h:Option LoopH}{σ:St}(hB:Bd σ):Bd (mvOf h σ):=by
 cases h with
 | none=>exact hB
 | some h=>exact moves_bd _ hB
theorem mvOf_ok [Glob]{N:Stable}{Dt:Bool×List Deferred}{σ:St}{a:Act}{μ μo:Mu}{S So:Stable}{Ho:Heap}{B:Nat}{w0 w:World}{h:Option LoopH}(A:AR N Dt μ S σ a)(R:Rel μ S σ.heap B w0 w)(Co:Carry B μo So Ho μ S σ.heap) :
  ∃ μ',AR N Dt μ' S (mvOf h σ) a∧Rel μ' S (mvOf h σ).heap B w0 w∧Carry B μo So Ho μ' S (mvOf h σ).heap:=by
 cases h with
 | none=>exact⟨μ,A,R,Co⟩
 | some h=>exact moves_ok _ A R Co
def exRound (od:List Nat)(h:Option LoopH)(f:St→Option (Ex×St))(σ:St):Option (Ex×St):=
 match h with
 | none=>f σ
 | some h=>match head od h.top σ with
  | some σ'=>f σ'
  | none=>none
def exOut (od:List Nat)(h:Option LoopH):Option (Ex×St)→Option (Ex×St)
 | some (e,σ)=>match h with
  | none=>some (e,σ)
  | some h=>match e with
   | .exit i=>match h.out with
    | some h'=>match head od h' σ with
     | some σ'=>some (.exit i,σ')
     | none=>none
    | none=>some (.exit i,σ)
   | .ret=>match h.ret with
    | some h'=>match head od h' σ with
     | some σ'=>some (.ret,σ')
     | none=>none
    | none=>some (.ret,σ)
   | e=>some (e,σ)
 | none=>none
def opsUse (ops:Array Oper):List Nat:=ops.toList.flatMap fun o=>o.op.operands.toList.flatMap fun x=>match x with
 | .tmp t=>[t]
 | _=>[]
def usesOf:Code→List Nat
 | .region _ ops _=>opsUse ops
 | .seq x y=>usesOf x++usesOf y
 | .cond c x y=>(match c with
  | .tmp t=>[t]
  | _=>[])++(usesOf x++usesOf y)
 | .block _ x=>usesOf x
 | .loop x=>usesOf x
 | _=>[]
def callable (P:Program)(k:Nat):Bool:=match P.funcs[k]? with
 | some fn=>match fn.body with
  | some _=>!(fn.name == "runtime.NumGoroutine")
  | none=>false
 | none=>false
def liveT (σ:St)(x:RCode):List AV:=(List.range' 0 σ.nt).map fun t=>cond (mem (usesOf x.2.1++usesOf x.2.2) t) (σ.tmps t) .junk
def rngIn (σ:St)(base fid r:Nat)(x:RCode):Option (St×Nat):=
 cond ((σ.heap (site base r)).isNone) (some (⟨σ.nt,σ.tmps,upd σ.heap (site base r) (some (.loop fid r .ready (liveT σ x))),σ.ids++[site base r]⟩,site base r)) none
def rngOut (σ:St)(i:Nat)(H:Heap)(L:List Nat):Option (Ex×St):=
 match H i with
 | some (.loop k r .ready ts)=>some (.nrm,⟨σ.nt,σ.tmps,upd H i (some (.loop k r .over ts)),L⟩)
 | some (.loop k r (.done j) ts)=>some (j.ex,⟨σ.nt,σ.tmps,upd H i (some (.loop k r .over ts)),L⟩)
 | _=>none
def exRange (P:Program)(F:Inl)(base:Nat)(rf:Option Nat)(g:Operand)(body:Code)(σ:St):Option (Ex×St):=
 match rf,σ.val g,firstReg body with
 | some fid,.fn (.func k) first caps,some r=>match rangeIn P fid r with
  | some x=>match rngIn σ base fid r x with
   | some (σ1,i)=>match callable P k,F (i+1) (.fn k) (first++[.yld i]++caps) σ1.heap σ1.ids with
    | true,some (v,H,L)=>cond v.isPan none (rngOut σ i H L)
    | _,_=>none
   | none=>none
  | none=>none
 | _,_,_=>none
def endN:Nat:=1000000007
def flipX (l:Nat):Ex→Option Ex
 | .nrm=>some (.exit endN)
 | .goto i=>cond (Nat.beq i l) (some .nrm) none
 | .exit i=>cond (Nat.beq i endN) none (some (.exit i))
 | .ret=>some .ret
 | .pan _=>none
def flipE (l:Nat):Option (Ex×St)→Option (Ex×St)
 | some (e,σ)=>match flipX l e with
  | some e'=>some (e',σ)
  | none=>none
 | none=>none
def unX:Ex→Option Ex
 | .exit i=>cond (Nat.beq i endN) (some .nrm) (some (.exit i))
 | .ret=>some .ret
 | _=>none
def unflip:Option (Ex×St)→Option (Ex×St)
 | some (e,σ)=>match unX e with
  | some e'=>some (e',σ)
  | none=>none
 | none=>none
def noGoto:Option (Ex×St)→Option (Ex×St)
 | some (.goto _,_)=>none
 | r=>r
def exCode (P:Program)(C:Cons)(Hn:Hints)(F:Inl)(lf base:Nat)(od:List Nat)(rf:Option Nat):Bool→Code→St→Option (Ex×St)
 | _,.skip,σ=>some (.nrm,σ)
 | _,.region id ops draw,σ=>
  cond draw (exDrawA P C F ops (site base id) σ) (exOps P C F ops (site base id) (List.range ops.size) σ)
 | false,.seq x y,σ=>match exCode P C Hn F lf base od rf false x σ with
  | some (.nrm,σ')=>exCode P C Hn F lf base od rf false y σ'
  | some (.exit i,σ')=>some (.exit i,σ')
  | some (.goto i,σ')=>some (.goto i,σ')
  | some (.ret,σ')=>some (.ret,σ')
  | some (.pan v,σ')=>some (.pan v,σ')
  | none=>none
 | true,.seq x y,σ=>match labOf x with
  | some l=>unflip (exOut od (hintOf Hn base y σ) (exLoop lf (exRound od (hintOf Hn base y σ) fun σ=>flipE l (exCode P C Hn F lf base od rf false y σ)) σ))
  | none=>match exCode P C Hn F lf base od rf false x σ with
   | some (.nrm,σ')=>exCode P C Hn F lf base od rf true y σ'
   | some (.exit i,σ')=>some (.exit i,σ')
   | some (.ret,σ')=>some (.ret,σ')
   | some (.pan v,σ')=>some (.pan v,σ')
   | _=>none
 | _,.cond c x y,σ=>match σ.val c with
  | .lit (.bool b)=>cond b (exCode P C Hn F lf base od rf false x σ) (exCode P C Hn F lf base od rf false y σ)
  | _=>none
 | _,.block id x,σ=>match exCode P C Hn F lf base od rf false x σ with
  | some (.exit i,σ')=>cond (Nat.beq i id) (some (.nrm,σ')) (some (.exit i,σ'))
  | r=>r
 | _,.loop x,σ=>exOut od (hintOf Hn base x σ) (exLoop lf (exRound od (hintOf Hn base x σ) (exCode P C Hn F lf base od rf false x)) (mvOf (hintOf Hn base x σ) σ))
 | _,.exit id,σ=>some (.exit id,σ)
 | _,.label _,σ=>some (.nrm,σ)
 | _,.ret,σ=>some (.ret,σ)
 | _,.rangeFunc g _ _ body,σ=>exRange P F base rf g body σ
 | _,.scope x,σ=>cond (spineOK x) (noGoto (exCode P C Hn F lf base od rf true x σ)) none
 | _,.goto l,σ=>some (.goto l,σ)
 | _,_,_=>none
def resOf (P:Program)(σ:St):ResultVar→Option AV
 | .tmp t=>cond (ltN t σ.nt) (some (σ.tmps t)) none
 | .cell a t=>match σ.val (.tmp a) with
  | .ptr i off=>match σ.heap i with
   | some (.box _ cs)=>cut P t cs off
   | _=>none
  | _=>none
def resAll (P:Program)(σ:St):List ResultVar→Option (List AV)
 | []=>some []
 | r::rs=>match resOf P σ r,resAll P σ rs with
  | some v,some vs=>some (v::vs)
  | _,_=>none
def nthAV:List AV→Nat→AV
 | [],_=>.lit undef
 | a::_,0=>a
 | _::l,n+1=>nthAV l n
def exEnd (P:Program)(rs:List ResultVar):Option (Ex×St)→Option (AV×Heap×List Nat)
 | some (.nrm,σ)=>match resAll P σ rs with
  | some vs=>some (resAV vs,σ.heap,σ.ids)
  | none=>none
 | some (.ret,σ)=>match resAll P σ rs with
  | some vs=>some (resAV vs,σ.heap,σ.ids)
  | none=>none
 | some (.pan v,σ)=>some (.pan v,σ.heap,σ.ids)
 | _=>none
def rndIn (P:Program)(i:Nat)(as:List AV)(H:Heap)(L:List Nat):Option (Nat×Nat×RCode×St):=
 match H i with
 | some (.loop k r .ready ts)=>match rangeIn P k r with
  | some x=>cond (Nat.beq x.1.size as.length) (some (k,r,x,⟨ts.length,nthAV (setPs ts x.1.toList as),H,L⟩)) none
  | none=>none
 | _=>none
def rndBusy (i k r:Nat)(σ:St):Option St:=
 match σ.heap i with
 | some (.loop k' r' .ready ts)=>cond (Nat.beq k' k&&Nat.beq r' r) (some ⟨σ.nt,σ.tmps,upd σ.heap i (some (.loop k r .busy ts)),σ.ids⟩) none
 | _=>none
def Ex.st:Ex→LSt
 | .nrm=>.ready
 | .ret=>.done .ret
 | .exit i=>.done (.exit i)
 | .goto l=>.done (.goto l)
 | .pan _=>.ready
def Ex.isPan:Ex→Bool
 | .pan _=>true
 | _=>false
def Ex.on:Ex→Bool
 | .nrm=>true
 | _=>false
def rndOut (i k r:Nat)(e:Ex)(σ:St):Option (AV×Heap×List Nat):=
 match σ.heap i with
 | some (.loop k' r' .busy ts)=>cond (Nat.beq k' k&&Nat.beq r' r && !e.isPan) (some (.lit (.bool e.on),upd σ.heap i (some (.loop k r e.st ts)),σ.ids)) none
 | _=>none
def exRnd (i k r:Nat)(asn body:St→Option (Ex×St))(σ:St):Option (AV×Heap×List Nat):=
 match asn σ with
 | some (.nrm,σ1)=>match rndBusy i k r σ1 with
  | some σ2=>match body σ2 with
   | some (e,σ3)=>rndOut i k r e σ3
   | none=>none
  | none=>none
 | _=>none
def exFun (P:Program)(C:Cons)(Hn:Hints)(lf:Nat):Nat→Inl
 | 0=>fun _ _ _ _ _=>none
 | n+1=>fun base c as H L=>match c with
  | .fn k=>match P.funcs[k]? with
   | some fn=>match fn.body with
    | some c=>cond (Nat.ble as.length fn.ntmps) (exEnd P fn.results.toList (exCode P C Hn (exFun P C Hn lf n) lf (Nat.succ base * 4294967296) L (some k) false c ⟨fn.ntmps,nthAV as,H,L⟩)) none
    | none=>none
   | none=>none
  | .yld i=>match rndIn P i as H L with
   | some (k,r,x,σ)=>exRnd i k r (exCode P C Hn (exFun P C Hn lf n) lf (Nat.succ base * 4294967296) L none false x.2.1) (exCode P C Hn (exFun P C Hn lf n) lf (Nat.succ base * 4294967296) L none false x.2.2) σ
   | none=>none
section
variable [Glob]{P:Program}{C:Cons}{F:Inl}{rd:Option Nat}{N:Stable}{Dt:Bool×List Deferred}{B lf base:Nat}{w0:World}
omit [Glob] in
theorem exLoop_bd {f:St→Option (Ex×St)}(hf:∀ σ e σ',f σ=some (e,σ')→Bd σ→Bd σ'):∀ (n:Nat) (σ:St) (e:Ex) (σ':St),exLoop n f σ=some (e,σ')→Bd σ→Bd σ'
 | 0,σ,e,σ',h,_=>by simp[exLoop] at h
 | n+1,σ,e,σ',h,hB=>by
  simp only[exLoop] at h
  split at h
  ·rename_i σ1 h1;exact exLoop_bd hf n σ1 e σ' h (hf _ _ _ h1 hB)
  ·rename_i h1;cases h;exact hf _ _ _ h1 hB
  ·rename_i h1;cases h;exact hf _ _ _ h1 hB
  ·rename_i h1;cases h;exact hf _ _ _ h1 hB
  ·simp at h
  ·simp at h
omit [Glob] in
theorem exOut_cases {od:List Nat}{h:Option LoopH}{r:Option (Ex×St)}{e:Ex}{σ':St}(hr:exOut od h r=some (e,σ')) :
  r=some (e,σ')∨∃ σ h',r=some (e,σ)∧head od h' σ=some σ':=by
 unfold exOut at hr
 split at hr
 ·rename_i e0 σ
  split at hr
  ·exact .inl hr
  ·split at hr
   ·split at hr
    ·rename_i h' _
     split at hr
     ·rename_i σ1 h1;cases hr;exact .inr ⟨σ,h',rfl,h1⟩
     ·simp at hr
    ·exact .inl hr
   ·split at hr
    ·rename_i h' _
     split at hr
     ·rename_i σ1 h1;cases hr;exact .inr ⟨σ,h',rfl,h1⟩
     ·simp at hr
    ·exact .inl hr
   ·exact .inl hr
 ·simp at hr
omit [Glob] in
theorem rngOut_bd {σ σ':St}{i:Nat}{H:Heap}{L:List Nat}{e:Ex}(h:rngOut σ i H L=some (e,σ'))(hb:∀ q,H q≠none→q∈L):Bd σ':=by
 have key:∀ o,H i≠none→∀ q,upd H i o q≠none→q∈L:=by
  intro o hi q hq
  by_cases eq:q=i
  ·subst eq;exact hb q hi
  ·rw[upd_ne _ _ eq] at hq;exact hb q hq
 unfold rngOut at h
 split at h
 ·rename_i hH;cases h;exact key _ (by rw[hH];simp)
 ·rename_i hH;cases h;exact key _ (by rw[hH];simp)
 ·simp at h
theorem exRange_bd {g:Operand}{body:Code}{rf:Option Nat}{σ σ':St}{e:Ex}(hF:InlOK P F)(h:exRange P F base rf g body σ=some (e,σ'))(hB:Bd σ):Bd σ':=by
 unfold exRange at h
 split at h
 ·rename_i fid k first caps r hg hr
  split at h
  ·rename_i x hx
   split at h
   ·rename_i σ1 i hin
    split at h
    ·rename_i v H L hc hcall
     obtain⟨hi,e1⟩:=cond_some hin
     cases e1
     have:=(hF _ _ _ _ _ _ _ _ hcall (fun q hq=>by
      show q∈σ.ids++[site base r]
      by_cases eq:q=site base r
      ·subst eq;simp
      ·simp only at hq;rw[upd_ne _ _ eq] at hq;simp[hB q hq])).1
     exact rngOut_bd (cond_no h).2 this
    ·simp at h
   ·simp at h
  ·simp at h
 ·simp at h
theorem exCode_bd {Hn:Hints}{od:List Nat}{rf:Option Nat}(hF:InlOK P F):∀ (sc:Bool) (c:Code) (σ:St) (e:Ex) (σ':St),exCode P C Hn F lf base od rf sc c σ=some (e,σ')→Bd σ→Bd σ'
 | sc,.skip,σ,e,σ',h,hB=>by simp only[exCode] at h;cases h;exact hB
 | sc,.region id ops draw,σ,e,σ',h,hB=>by
  simp only[exCode] at h
  cases draw with
  | true=>exact exDrawA_bd hF h hB
  | false=>exact exOps_bd hF _ _ _ _ h hB
 | false,.seq x y,σ,e,σ',h,hB=>by
  simp only[exCode] at h
  split at h
  ·rename_i σ1 h1;exact exCode_bd hF false y σ1 e σ' h (exCode_bd hF false x σ _ σ1 h1 hB)
  ·rename_i h1;cases h;exact exCode_bd hF false x σ _ _ h1 hB
  ·rename_i h1;cases h;exact exCode_bd hF false x σ _ _ h1 hB
  ·rename_i h1;cases h;exact exCode_bd hF false x σ _ _ h1 hB
  ·rename_i h1;cases h;exact exCode_bd hF false x σ _ _ h1 hB
  ·simp at h
 | true,.seq x y,σ,e,σ',h,hB=>by
  simp only[exCode] at h
  split at h
  ·rename_i l hl
   have fl:∀ σ e σ',flipE l (exCode P C Hn F lf base od rf false y σ)=some (e,σ')→Bd σ→Bd σ':=by
    intro σ e σ' h hB
    unfold flipE at h
    split at h
    ·rename_i e1 σ1 h1
     split at h
     ·cases h;exact exCode_bd hF false y σ _ _ h1 hB
     ·simp at h
    ·simp at h
   unfold unflip at h
   split at h
   ·rename_i e1 σ1 h1
    split at h
    ·cases h
     rcases exOut_cases h1 with h|⟨σ2,h',h,hh⟩
     ·refine exLoop_bd (fun σ e σ' h hB=>?_) lf σ _ _ h hB
      unfold exRound at h
      split at h
      ·exact fl σ e σ' h hB
      ·split at h
       ·rename_i σ1 h1;exact fl σ1 e σ' h (head_bd h1)
       ·simp at h
     ·exact head_bd hh
    ·simp at h
   ·simp at h
  ·split at h
   ·rename_i σ1 h1;exact exCode_bd hF true y σ1 e σ' h (exCode_bd hF false x σ _ σ1 h1 hB)
   ·rename_i h1;cases h;exact exCode_bd hF false x σ _ _ h1 hB
   ·rename_i h1;cases h;exact exCode_bd hF false x σ _ _ h1 hB
   ·rename_i h1;cases h;exact exCode_bd hF false x σ _ _ h1 hB
   ·simp at h
 | sc,.cond c x y,σ,e,σ',h,hB=>by
  simp only[exCode] at h
  split at h
  ·rename_i b hb
   cases b with
   | true=>exact exCode_bd hF false x σ e σ' h hB
   | false=>exact exCode_bd hF false y σ e σ' h hB
  ·simp at h
 | sc,.block id x,σ,e,σ',h,hB=>by
  simp only[exCode] at h
  split at h
  ·rename_i i σ1 h1
   have:=exCode_bd hF false x σ _ σ1 h1 hB
   cases hb:Nat.beq i id<;>rw[hb] at h<;>cases h<;>exact this
  ·exact exCode_bd hF false x σ e σ' h hB
 | sc,.loop x,σ,e,σ',h,hB=>by
  simp only[exCode] at h
  rcases exOut_cases h with h|⟨σ1,h',h,hh⟩
  ·refine exLoop_bd (fun σ e σ' h hB=>?_) lf _ e σ' h (mvOf_bd hB)
   unfold exRound at h
   split at h
   ·exact exCode_bd hF false x σ e σ' h hB
   ·split at h
    ·rename_i σ1 h1;exact exCode_bd hF false x σ1 e σ' h (head_bd h1)
    ·simp at h
  ·exact head_bd hh
 | sc,.exit id,σ,e,σ',h,hB=>by simp only[exCode] at h;cases h;exact hB
 | sc,.label l,σ,e,σ',h,hB=>by simp only[exCode] at h;cases h;exact hB
 | sc,.ret,σ,e,σ',h,hB=>by simp only[exCode] at h;cases h;exact hB
 | sc,.rangeFunc g ps asn body,σ,e,σ',h,hB=>by simp only[exCode] at h;exact exRange_bd hF h hB
 | sc,.scope x,σ,e,σ',h,hB=>by
  simp only[exCode] at h
  cases hs:spineOK x with
  | false=>rw[hs] at h;simp at h
  | true=>
   rw[hs] at h
   simp only[cond_true] at h
   unfold noGoto at h
   split at h
   ·simp at h
   ·exact exCode_bd hF true x σ e σ' h hB
 | sc,.goto l,σ,e,σ',h,hB=>by simp only[exCode] at h;cases h;exact hB
 | sc,.refuse _,σ,e,σ',h,hB=>by simp[exCode] at h
section
variable {μo:Mu}{So:Stable}{Ho:Heap}
omit [Glob] in
theorem then_of {next:Act→World→Prop}{Q:Exit→Act→World→Prop}{μ:Mu}{S:Stable}{H:Heap}{e:Ex}{xe:Exit}(hn:e ≠ .nrm)(hx:e.Is μ S H xe){a:Act}{w:World}(h:Q xe a w):Exit.then next Q xe a w:=by
 cases e with
 | nrm=>exact absurd rfl hn
 | pan v=>obtain⟨u,rfl,_⟩:=hx;exact h
 | ret=>cases (show xe = .ret from hx);exact h
 | exit i=>cases (show xe = .exit i from hx);exact h
 | goto i=>cases (show xe = .goto i from hx);exact h
omit [Glob] in
theorem block_of {id:Nat}{Q:Exit→Act→World→Prop}{μ:Mu}{S:Stable}{H:Heap}{e:Ex}{xe:Exit}(hn:∀ i,e ≠ .exit i)(hx:e.Is μ S H xe){a:Act}{w:World}(h:Q xe a w):Exit.inBlock id Q xe a w:=by
 cases e with
 | nrm=>cases (show xe = .normal from hx);exact h
 | pan v=>obtain⟨u,rfl,_⟩:=hx;exact h
 | ret=>cases (show xe = .ret from hx);exact h
 | exit i=>exact absurd rfl (hn i)
 | goto i=>cases (show xe = .goto i from hx);exact h
omit [Glob] in
theorem exLoop_nopan {f:St→Option (Ex×St)}:∀ (n:Nat) (σ:St) (e:Ex) (σ':St),exLoop n f σ=some (e,σ')→e.isPan=false
 | 0,σ,e,σ',h=>by simp[exLoop] at h
 | n+1,σ,e,σ',h=>by
  simp only[exLoop] at h
  split at h
  ·exact exLoop_nopan n _ e σ' h
  ·cases h;rfl
  ·cases h;rfl
  ·cases h;rfl
  ·simp at h
  ·simp at h
omit [Glob] in
theorem Ex.Is.of {μ μ':Mu}{S S':Stable}{H H':Heap}{e:Ex}{xe:Exit}(hp:e.isPan=false)(hx:e.Is μ S H xe):e.Is μ' S' H' xe:=by
 cases e<;>first|exact hx|(simp[Ex.isPan] at hp)
omit [Glob] in
theorem Ex.Is.self {μ:Mu}{S:Stable}{H:Heap}{e:Ex}(hp:e.isPan=false):e.Is μ S H e.to:=by
 cases e<;>first|rfl|(simp[Ex.isPan] at hp)
theorem exLoop_ok {f:St→Option (Ex×St)}{x:Code}(hf:∀ σ e σ',f σ=some (e,σ')→Bd σ→Bd σ')
  (ih:∀ (σ:St) (e:Ex) (σ':St) (a:Act) (w:World) (μ:Mu) (S:Stable) (Q:Exit→Act→World→Prop),f σ=some (e,σ')→Bd σ→AR So Dt μ S σ a→Rel μ S σ.heap B w0 w→Carry B μo So Ho μ S σ.heap →
   (∀ a' w' μ' S' xe,AR So Dt μ' S' σ' a'→Rel μ' S' σ'.heap B w0 w'→Carry B μo So Ho μ' S' σ'.heap→e.Is μ' S' σ'.heap xe→Q xe a' w')→x.wpIn (WF rd) 0 P Q a w) :
  ∀ (n:Nat) (σ:St) (e:Ex) (σ':St) (a:Act) (w:World) (μ:Mu) (S:Stable) (Q:Exit→Act→World→Prop),exLoop n f σ=some (e,σ')→Bd σ→AR So Dt μ S σ a→Rel μ S σ.heap B w0 w→Carry B μo So Ho μ S σ.heap →
   (∀ a' w' μ' S' xe,AR So Dt μ' S' σ' a'→Rel μ' S' σ'.heap B w0 w'→Carry B μo So Ho μ' S' σ'.heap→e.Is μ' S' σ'.heap xe→Q xe a' w')→Code.roundsIn (WF rd) 0 P x Q n a w:=by
 intro n
 induction n with
 | zero=>intro σ e σ' a w μ S Q h;simp[exLoop] at h
 | succ n ihn=>
  intro σ e σ' a w μ S Q h hB A R Co hK
  rw[roundsIn_succ]
  simp only[exLoop] at h
  split at h
  ·rename_i σ1 h1
   refine ih σ .nrm σ1 a w μ S _ h1 hB A R Co fun a1 w1 μ1 S1 xe A1 R1 C1 hx=>?_
   cases (show xe = .normal from hx)
   exact ihn σ1 e σ' a1 w1 μ1 S1 Q h (hf _ _ _ h1 hB) A1 R1 C1 hK
  ·rename_i i σ1 h1;cases h;exact ih σ (.exit i) _ a w μ S _ h1 hB A R Co fun a1 w1 μ1 S1 xe A1 R1 C1 hx=>by cases (show xe = .exit i from hx);exact hK a1 w1 μ1 S1 _ A1 R1 C1 rfl
  ·rename_i i σ1 h1;cases h;exact ih σ (.goto i) _ a w μ S _ h1 hB A R Co fun a1 w1 μ1 S1 xe A1 R1 C1 hx=>by cases (show xe = .goto i from hx);exact hK a1 w1 μ1 S1 _ A1 R1 C1 rfl
  ·rename_i σ1 h1;cases h;exact ih σ .ret _ a w μ S _ h1 hB A R Co fun a1 w1 μ1 S1 xe A1 R1 C1 hx=>by cases (show xe = .ret from hx);exact hK a1 w1 μ1 S1 _ A1 R1 C1 rfl
  ·simp at h
  ·simp at h
def RngOK (P:Program)(rf:Option Nat)(c:Code):Prop:=∀ fid,rf=some fid→∀ x∈rangesOf c,∀ r y,RCode.is x r=true→rangeIn P fid r=some y→y=x
omit [Glob] in
theorem RngOK.left {rf:Option Nat}{x y:Code}(h:RngOK P rf (.seq x y)):RngOK P rf x:=fun fid hf z hz=>h fid hf z (by simp[rangesOf,hz])
omit [Glob] in
theorem RngOK.right {rf:Option Nat}{x y:Code}(h:RngOK P rf (.seq x y)):RngOK P rf y:=fun fid hf z hz=>h fid hf z (by simp[rangesOf,hz])
omit [Glob] in
theorem RngOK.cleft {rf:Option Nat}{c:Operand}{x y:Code}(h:RngOK P rf (.cond c x y)):RngOK P rf x:=fun fid hf z hz=>h fid hf z (by simp[rangesOf,hz])
omit [Glob] in
theorem RngOK.cright {rf:Option Nat}{c:Operand}{x y:Code}(h:RngOK P rf (.cond c x y)):RngOK P rf y:=fun fid hf z hz=>h fid hf z (by simp[rangesOf,hz])
omit [Glob] in
theorem RngOK.block {rf:Option Nat}{id:Nat}{x:Code}(h:RngOK P rf (.block id x)):RngOK P rf x:=h
omit [Glob] in
theorem RngOK.scope {rf:Option Nat}{x:Code}(h:RngOK P rf (.scope x)):RngOK P rf x:=h
omit [Glob] in
theorem RngOK.loop {rf:Option Nat}{x:Code}(h:RngOK P rf (.loop x)):RngOK P rf x:=h
omit [Glob] in
theorem RngOK.none {c:Code}:RngOK P none c:=fun _ h=>by simp at h
omit [Glob] in
theorem RngOK.top {k:Nat}{fn:Func}{c:Code}(hfn:P.funcs[k]? = some fn)(hc:fn.body=some c):RngOK P (some k) c:=by
 intro fid hf x hx r y hr hy
 cases hf
 unfold rangeIn at hy
 rw[hfn] at hy
 simp only[hc] at hy
 exact lookR_mem hy hx hr
omit [Glob] in
theorem liveT_VRs {σ:St}{x:RCode}{tmps:Array Value}{μ:Mu}{S:Stable}{H:Heap}(hs:tmps.size=σ.nt)(h:∀ t,t<σ.nt→VR μ S H (σ.tmps t) (tmps.getD t undef)):VRs μ S H (liveT σ x) tmps.toList:=by
 unfold liveT
 rw[show σ.nt=tmps.toList.length by simp[hs]]
 refine VRs_range _ 0 fun t ht=>?_
 have ht:t<σ.nt:=by rw[← hs];simpa using ht
 rw[Nat.zero_add]
 cases mem (usesOf x.2.1++usesOf x.2.2) t with
 | false=>simp only[cond_false,VR]
 | true=>
  simp only[cond_true]
  have:=h t ht
  rw[Array.getD_eq_getD_getElem?] at this
  rw[List.getD_eq_getElem?_getD,Array.getElem?_toList]
  exact this
theorem rng_lay (hC:TabsOK P C){σ:St}{a:Act}{w:World}{μ:Mu}{S:Stable}{fid r i:Nat}{ps:Array Tmp}{asn body:Code}(hx:rangeIn P fid r=some (ps,asn,body))(hi0:σ.heap i=none)
  (A:AR N Dt μ S σ a) (R:Rel μ S σ.heap B w0 w) (fnid:FuncId) :
  ∃ μ1 S1,Rel μ1 S1 (upd σ.heap i (some (.loop fid r .ready (liveT σ (ps,asn,body))))) B w0
    ((w.alloc (.deferred (some []))).alloc (.loop { state:=.ready,pending:=none,fn:=fnid,tmps:=a.tmps,params:=ps,assign:=asn,body:=body,defers:=w.heap.size })) ∧
   Carry B μ S σ.heap μ1 S1 (upd σ.heap i (some (.loop fid r .ready (liveT σ (ps,asn,body))))) ∧
   VR μ1 S1 (upd σ.heap i (some (.loop fid r .ready (liveT σ (ps,asn,body))))) (.yld i) (.func (.yield (w.heap.size+1)) #[] #[])∧S1 w.heap.size=some (.deferred (some [])):=by
 obtain⟨RD,CD⟩:=R.mark (.deferred (some []))
 have hm:μ i=none:=by
  have:=R.dom i
  rw[hi0] at this
  cases hm:μ i with
  | none=>rfl
  | some _=>rw[hm] at this;simp at this
 have E0:Ext μ (addS S w.heap.size (.deferred (some []))) σ.heap (upd μ i (some ⟨some (w.alloc (.deferred (some []))).heap.size,0,noInn⟩)) (addS S w.heap.size (.deferred (some []))) (upd σ.heap i (some (.loop fid r .ready (liveT σ (ps,asn,body))))):=Ext.new hm
 obtain⟨R1,E1⟩:=RD.new hi0 (.loop { state:=.ready,pending:=none,fn:=fnid,tmps:=a.tmps,params:=ps,assign:=asn,body:=body,defers:=w.heap.size })
  (.loop fid r .ready (liveT σ (ps,asn,body))) ⟨some (w.alloc (.deferred (some []))).heap.size,0,noInn⟩ rfl ⟨_,fnid,.ready,none,a.tmps,ps,asn,body,w.heap.size,rfl,RD.size,st_new RD,by rw[hC.2.2];exact hx,⟨rfl,rfl⟩,alloc_heap_new _ _,
   liveT_VRs A.size fun t ht=>VR_mono E0 _ _ (CD.vr _ _ (A.tmp t ht))⟩
 refine⟨_,_,R1,CD.trans (Carry.of (B:=B) E1),?_,addS_same⟩
 simp only[VR]
 exact⟨_,_,upd_same _ _ _,fun o h=>by rw[upd_same] at h;cases h;rfl,by simp⟩
omit [Glob] in
theorem Carry.vrs {μ μ':Mu}{S S':Stable}{H H':Heap}(h:Carry B μ S H μ' S' H'){as:List AV}{us:Array Value}(hv:VRs μ S H as us.toList):VRs μ' S' H' as us.toList:=by
 have:=h.vr (.tup as) (.tuple us) (by simp only[VR];exact⟨us,rfl,hv⟩)
 simp only[VR] at this
 obtain⟨x,h1,h2⟩:=this
 cases h1
 exact h2
omit [Glob] in
theorem resolve_range {a:Act}{g:Operand}{k l:Nat}{x y:Array Value}{w:World}(h:a.eval g = .func (.func k) x y) :
  (resolve a.eval (rangeCall g l) 0).run P w = .ok { target:=.fn (.func k) y,args:=x ++ #[.func (.yield l) #[] #[]] } w:=by
 show (Deferred.ofValue (a.eval g) _).run P w=_
 rw[h]
 simp[Deferred.ofValue,rangeCall,Act.eval]
theorem rng_end {σ σ':St}{e:Ex}{a:Act}{w3:World}{μ μ2:Mu}{S S2:Stable}{i b cp:Nat}{H2:Heap}{L2:List Nat}{Q:Exit→Act→World→Prop}(h:rngOut σ i H2 L2=some (e,σ'))
  (hm2:μ2 i=some ⟨some b,cp,noInn⟩) (R2:Rel μ2 S2 H2 B w0 w3) (AD:∀ {H3:Heap} (E:Ext μ2 S2 H2 μ2 S2 H3),AR N Dt μ2 S2 ⟨σ.nt,σ.tmps,H3,L2⟩ a) (CT:Carry B μ S σ.heap μ2 S2 H2)
  (hK:∀ w' μ' S',AR N Dt μ' S' σ' a→Rel μ' S' σ'.heap B w0 w'→Carry B μ S σ.heap μ' S' σ'.heap→Q e.to a w') (u:Value):rangePost (WF none) 0 P b Q a (.returned u) w3:=by
 unfold rngOut at h
 split at h
 ·rename_i k' r' ts hH
  cases h
  obtain⟨L,hL,hr1,hst,hvs⟩:=R2.loop hH hm2
  obtain⟨R4,E4⟩:=R2.setLoop (st':=.over) (L':={ L with state:=.exhausted }) hH hm2 hL ⟨rfl,rfl,rfl,rfl⟩ trivial
  refine⟨none,_,?_,hK _ μ2 S2 (AD E4) R4 (CT.trans (Carry.of E4))⟩
  rw[← hst.2]
  exact run_endLoop hL (by rw[hst.1];simp)
 ·rename_i k' r' j ts hH
  cases h
  obtain⟨L,hL,hr1,hst,hvs⟩:=R2.loop hH hm2
  obtain⟨R4,E4⟩:=R2.setLoop (st':=.over) (L':={ L with state:=.exhausted }) hH hm2 hL ⟨rfl,rfl,rfl,rfl⟩ trivial
  refine⟨some j.code,_,by rw[← hst.2];exact run_endLoop hL (by rw[hst.1];simp),?_⟩
  have fin:=hK _ μ2 S2 (AD E4) R4 (CT.trans (Carry.of E4))
  cases j with
  | ret=>exact wpIn_ret fin
  | exit i=>exact wpIn_exit fin
  | goto l=>exact wpIn_goto fin
 ·simp at h
omit [Glob] in
theorem callable_ok {k:Nat}(hcb:callable P k=true):∃ fn c,P.funcs[k]? = some fn∧fn.body=some c∧(fn.name == "runtime.NumGoroutine")=false:=by
 unfold callable at hcb
 split at hcb
 ·rename_i fn hfn
  split at hcb
  ·rename_i c hc;exact⟨fn,c,hfn,hc,by simpa using hcb⟩
  ·simp at hcb
 ·simp at hcb
omit [Glob] in
theorem invoke_fn {k:Nat}(hcb:callable P k=true)(x y:Array Value)(w:World):(invoke (.fn (.func k) y) x).run P w = .ok (.enter k (x++y)) w:=by
 obtain⟨fn,cb,hfn,hbody,hname⟩:=callable_ok hcb
 simp only[invoke,callFunc,Sem.run_bind,Sem.run_pure,Result.andThen_ok,run_program,hfn,hname,Bool.false_eq_true,if_false,hbody,Option.isNone_some]
theorem exRange_ok {g:Operand}{ps:Array Tmp}{asn body:Code}{rf:Option Nat}{σ σ':St}{e:Ex}{a:Act}{w:World}{μ:Mu}{S:Stable}{Q:Exit→Act→World→Prop}(hrf:rf≠none→rd=none∧Dt.1=false)(hC:TabsOK P C)(hF:InlOK P F)
  (hg:RngOK P rf (.rangeFunc g ps asn body)) (h:exRange P F base rf g body σ=some (e,σ')) (hB:Bd σ) (A:AR N Dt μ S σ a) (R:Rel μ S σ.heap B w0 w) (hsub:∀ b o,N b=some o→S b=some o)
  (hK:∀ a' w' μ' S',AR N Dt μ' S' σ' a'→Rel μ' S' σ'.heap B w0 w'→Carry B μ S σ.heap μ' S' σ'.heap→Q e.to a' w'):(Code.rangeFunc g ps asn body).wpIn (WF rd) 0 P Q a w:=by
 unfold exRange at h
 split at h
 case h_2=>simp at h
 rename_i fid k first caps r hgv hfr
 split at h
 case h_2=>simp at h
 rename_i x hx
 have hxe:x=(ps,asn,body):=hg fid rfl (ps,asn,body) (by simp[rangesOf]) r x (by simp[RCode.is,hfr]) hx
 subst hxe
 split at h
 case h_2=>simp at h
 rename_i σ1 i hin
 obtain⟨hi0,e1⟩:=cond_some hin
 cases e1
 split at h
 case h_2=>simp at h
 rename_i v H2 L2 hcb hcall
 obtain⟨hnp,h⟩:=cond_no h
 have hrd:rd=none:=(hrf (by simp)).1
 have hfl:Dt.1=false:=(hrf (by simp)).2
 subst hrd
 have hv:=A.val g
 rw[hgv] at hv
 simp only[VR] at hv
 obtain⟨x1,y1,hge,hf1,hf2⟩:=hv
 have hi0:σ.heap (site base r)=none:=by simpa using hi0
 refine wpIn_rangeFunc fun fnid _=>?_
 obtain⟨μ1,S1,R1,CT1,hyv,hSD⟩:=rng_lay hC hx hi0 A R fnid
 refine⟨w.heap.size+1,_,_,_,_,k,_,_,run_enterLoop_outer fnid a.tmps ps asn body,resolve_range hge,fun _ _=>trivial,invoke_fn hcb _ _ _,fun h=>(by cases h),callsIn_WF.2 ?_⟩
 have hB1:∀ q,upd σ.heap (site base r) (some (.loop fid r .ready (liveT σ (ps,asn,body)))) q≠none→q∈σ.ids++[site base r]:=by
  intro q hq
  by_cases eq:q=site base r
  ·subst eq;simp
  ·rw[upd_ne _ _ eq] at hq;simp[hB q hq]
 have hvs:VRs μ1 S1 (upd σ.heap (site base r) (some (.loop fid r .ready (liveT σ (ps,asn,body))))) (first++[.yld (site base r)]++caps) (x1 ++ #[Value.func (.yield (w.heap.size+1)) #[] #[]]++y1).toList:=by
  simp only[Array.toList_append]
  exact VRs_append (VRs_append (CT1.vrs hf1) (by simp only[VRs];exact⟨_,[],rfl,hyv,rfl⟩)) (CT1.vrs hf2)
 have hrun:=(hF _ _ _ _ _ _ _ _ hcall hB1).2 μ1 S1 B w0 _ _ R1 hvs
 clear hB1 hcall hF
 show RunC P μ1 (.fn k) _ _ _
 refine RunC.mono hrun ?_
 rintro e' w3 ⟨μ2,S2,q0,R2,C2⟩
 obtain⟨u,rfl,q1⟩:=q0.val hnp
 have hm2:=C2.vr _ _ hyv
 simp only[VR] at hm2
 obtain⟨b,cp,hm2,_,heq⟩:=hm2
 injection heq with heq;injection heq with heq
 subst heq
 have CT:=CT1.trans C2
 refine rng_end h hm2 R2 (fun {H3} E=>?_) CT (fun w' μ' S'=>hK _ w' μ' S') u
 obtain⟨ms,hms,⟨hnd,hmk⟩,_⟩:=A.defers
 refine⟨⟨w.heap.size::ms,by rw[hms];rfl,⟨List.nodup_cons.2 ⟨fun hD=>?_,hnd⟩,fun D hD=>?_⟩,fun h=>by rw[hfl] at h;simp at h⟩,A.size,fun t ht=>VR_mono E _ _ (CT.vr _ _ (A.tmp t ht))⟩
 ·have:=R.st_lt (hmk _ hD).2;omega
 ·rcases List.mem_cons.1 hD with rfl|hD
  ·refine⟨?_,C2.sub _ _ hSD⟩
   cases hn:N w.heap.size with
   | none=>rfl
   | some o=>have:=R.st_lt (hsub _ _ hn);omega
  ·exact⟨(hmk _ hD).1,C2.sub _ _ (CT1.sub _ _ (hmk _ hD).2)⟩
omit [Glob] in
theorem exRange_nopan {g:Operand}{body:Code}{rf:Option Nat}{σ σ':St}{e:Ex}(h:exRange P F base rf g body σ=some (e,σ')):e.isPan=false:=by
 unfold exRange at h
 split at h
 case h_2=>simp at h
 split at h
 case h_2=>simp at h
 split at h
 case h_2=>simp at h
 split at h
 case h_2=>simp at h
 have h:=(cond_no h).2
 unfold rngOut at h
 split at h
 ·cases h;rfl
 ·rename_i j _ _;cases h;cases j<;>rfl
 ·simp at h
def spineJ (F:Fence)(P:Program)(lf:Nat)(c:Code)(Q:Exit→Act→World→Prop):Exit→Act→World→Prop:=
 match spineLab c with
 | some (l,r)=>jumpQ l (scopeR F 0 P l r Q lf) Q
 | none=>jumpQ 0 (scopeR F 0 P 0 .skip Q 0) Q
omit [Glob] in
theorem spineJ_of {F:Fence}{c:Code}{Q:Exit→Act→World→Prop}{μ:Mu}{S:Stable}{H:Heap}(e:Ex)(xe:Exit)(hx:e.Is μ S H xe)(hne:∀ l,e ≠ .goto l)(a:Act)(w:World)(h:Q xe a w):spineJ F P lf c Q xe a w:=by
 unfold spineJ
 cases e with
 | goto l=>exact absurd rfl (hne l)
 | pan v=>
  obtain⟨u,rfl,_⟩:=hx
  cases spineLab c<;>exact h
 | nrm=>cases (show xe = .normal from hx);cases spineLab c<;>exact h
 | ret=>cases (show xe = .ret from hx);cases spineLab c<;>exact h
 | exit i=>cases (show xe = .exit i from hx);cases spineLab c<;>exact h
def Code.isSeq:Code→Bool
 | .seq _ _=>true
 | _=>false
omit [Glob] in
theorem sc_same {Hn:Hints}{od:List Nat}{rf:Option Nat}{c:Code}{σ:St}(h:Code.isSeq c=false):exCode P C Hn F lf base od rf true c σ=exCode P C Hn F lf base od rf false c σ:=by
 cases c<;>first|rfl|(simp[Code.isSeq] at h)
omit [Glob] in
theorem flip_bd {l:Nat}{f:St→Option (Ex×St)}(hf:∀ σ e σ',f σ=some (e,σ')→Bd σ→Bd σ'){σ:St}{e:Ex}{σ':St}(h:flipE l (f σ)=some (e,σ'))(hB:Bd σ):Bd σ':=by
 unfold flipE at h
 split at h
 ·rename_i e1 σ1 h1
  split at h
  ·cases h;exact hf _ _ _ h1 hB
  ·simp at h
 ·simp at h
omit [Glob] in
theorem unX_nopan {e e':Ex}(h:unX e=some e'):e'.isPan=false:=by
 cases e with
 | exit i=>simp only[unX] at h;cases hb:Nat.beq i endN<;>rw[hb] at h<;>cases h<;>rfl
 | ret=>simp only[unX,Option.some.injEq] at h;subst h;rfl
 | nrm=>simp[unX] at h
 | goto i=>simp[unX] at h
 | pan v=>simp[unX] at h
theorem labLoop_ok {f:St→Option (Ex×St)}{y:Code}{l:Nat}(hf:∀ σ e σ',f σ=some (e,σ')→Bd σ→Bd σ')
  (ih:∀ (σ:St) (e:Ex) (σ':St) (a:Act) (w:World) (μ:Mu) (S:Stable) (Q:Exit→Act→World→Prop),f σ=some (e,σ')→Bd σ→AR So Dt μ S σ a→Rel μ S σ.heap B w0 w→Carry B μo So Ho μ S σ.heap →
   (∀ e1,flipX l e1=some e→∀ a' w' μ' S',AR So Dt μ' S' σ' a'→Rel μ' S' σ'.heap B w0 w'→Carry B μo So Ho μ' S' σ'.heap→Q e1.to a' w')→y.wpIn (WF rd) 0 P Q a w) {Q:Exit→Act→World→Prop} :
  ∀ (n:Nat) (σ:St) (e:Ex) (σ':St) (a:Act) (w:World) (μ:Mu) (S:Stable),exLoop n f σ=some (e,σ')→Bd σ→AR So Dt μ S σ a→Rel μ S σ.heap B w0 w→Carry B μo So Ho μ S σ.heap →
   (∀ e3,unX e=some e3→∀ a' w' μ' S',AR So Dt μ' S' σ' a'→Rel μ' S' σ'.heap B w0 w'→Carry B μo So Ho μ' S' σ'.heap→Q e3.to a' w')→y.wpIn (WF rd) 0 P (jumpQ l (scopeR (WF rd) 0 P l (.seq .skip y) Q n) Q) a w:=by
 intro n
 induction n with
 | zero=>intro σ e σ' a w μ S h;simp[exLoop] at h
 | succ n ihn=>
  intro σ e σ' a w μ S h hB A R Co hK
  simp only[exLoop] at h
  have last:∀ {e0:Ex} {σ0:St},f σ=some (e0,σ0)→e0=e→σ0=σ'→e0 ≠ .nrm→y.wpIn (WF rd) 0 P (jumpQ l (scopeR (WF rd) 0 P l (.seq .skip y) Q (n+1)) Q) a w:=by
   intro e0 σ0 h1 he hσ hn
   subst he hσ
   refine ih σ _ _ a w μ S _ h1 hB A R Co fun e1 h1 a1 w1 μ1 S1 A1 R1 C1=>?_
   cases e1 with
   | nrm=>
    simp only[flipX,Option.some.injEq] at h1
    subst h1
    exact hK .nrm (by simp[unX]) a1 w1 μ1 S1 A1 R1 C1
   | goto i=>
    simp only[flipX] at h1
    obtain⟨_,h1⟩:=cond_some h1
    exact absurd h1.symm hn
   | exit i=>
    simp only[flipX] at h1
    obtain⟨hi,h1⟩:=cond_no h1
    cases h1
    exact hK (.exit i) (by simp only[unX,hi,cond_false]) a1 w1 μ1 S1 A1 R1 C1
   | ret=>
    simp only[flipX,Option.some.injEq] at h1
    subst h1
    exact hK .ret rfl a1 w1 μ1 S1 A1 R1 C1
   | pan v=>simp[flipX] at h1
  split at h
  ·rename_i σ1 h1
   refine ih σ .nrm σ1 a w μ S _ h1 hB A R Co fun e1 h2 a1 w1 μ1 S1 A1 R1 C1=>?_
   cases e1 with
   | goto i=>
    simp only[flipX] at h2
    obtain⟨hi,_⟩:=cond_some h2
    refine⟨Nat.eq_of_beq_eq_true hi,?_⟩
    show (Code.seq .skip y).wpIn (WF rd) 0 P _ a1 w1
    refine wpIn_seq (wpIn_skip ?_)
    exact ihn σ1 e σ' a1 w1 μ1 S1 h (hf _ _ _ h1 hB) A1 R1 C1 hK
   | nrm=>simp[flipX] at h2
   | exit i=>
    simp only[flipX] at h2
    obtain⟨_,h2⟩:=cond_no h2
    simp at h2
   | ret=>simp[flipX] at h2
   | pan v=>simp[flipX] at h2
  ·rename_i i σ1 h1;cases h;exact last h1 rfl rfl (by simp)
  ·rename_i i σ1 h1;cases h;exact last h1 rfl rfl (by simp)
  ·rename_i σ1 h1;cases h;exact last h1 rfl rfl (by simp)
  ·simp at h
  ·simp at h
set_option maxHeartbeats 4000000 in
mutual
theorem exCode_ok {Hn:Hints}{od:List Nat}{rf:Option Nat}(hrf:rf≠none→rd=none∧Dt.1=false)(hC:TabsOK P C)(hF:InlOK P F)(hod:∀ i,μo i≠none→i∈od) :
  ∀ (c:Code),RngOK P rf c→∀ (σ:St) (e:Ex) (σ':St) (a:Act) (w:World) (μ:Mu) (S:Stable) (Q:Exit→Act→World→Prop),
  exCode P C Hn F lf base od rf false c σ=some (e,σ')→Bd σ→AR So Dt μ S σ a→Rel μ S σ.heap B w0 w→Carry B μo So Ho μ S σ.heap →
  (∀ a' w' μ' S' xe,AR So Dt μ' S' σ' a'→Rel μ' S' σ'.heap B w0 w'→Carry B μo So Ho μ' S' σ'.heap→e.Is μ' S' σ'.heap xe→Q xe a' w')→c.wpIn (WF rd) 0 P Q a w
 | .skip,hg,σ,e,σ',a,w,μ,S,Q,h,hB,A,R,Co,hK=>by
  simp only[exCode] at h;cases h;exact wpIn_skip (hK a w μ S _ A R Co rfl)
 | .region id ops draw,hg,σ,e,σ',a,w,μ,S,Q,h,hB,A,R,Co,hK=>by
  simp only[exCode] at h
  cases draw with
  | true=>exact exDrawA_ok hC hF h hB A R fun a' w' μ' S' x A' R' C' hx=>hK a' w' μ' S' x A' R' (Co.trans C') hx
  | false=>exact wpIn_region (exOps_ok hC hF _ _ _ _ a w μ S h hB A R fun a' w' μ' S' x A' R' C' hx=>hK a' w' μ' S' x A' R' (Co.trans C') hx)
 | .seq x y,hg,σ,e,σ',a,w,μ,S,Q,h,hB,A,R,Co,hK=>by
  simp only[exCode] at h
  refine wpIn_seq ?_
  split at h
  ·rename_i σ1 h1
   refine exCode_ok hrf hC hF hod x hg.left σ .nrm σ1 a w μ S _ h1 hB A R Co fun a1 w1 μ1 S1 xe A1 R1 C1 hx=>?_
   cases (show xe = .normal from hx)
   exact exCode_ok hrf hC hF hod y hg.right σ1 e σ' a1 w1 μ1 S1 Q h (exCode_bd hF false x σ _ σ1 h1 hB) A1 R1 C1 hK
  ·rename_i i σ1 h1;cases h;exact exCode_ok hrf hC hF hod x hg.left σ (.exit i) _ a w μ S _ h1 hB A R Co fun a1 w1 μ1 S1 xe A1 R1 C1 hx=>then_of (by simp) hx (hK a1 w1 μ1 S1 xe A1 R1 C1 hx)
  ·rename_i i σ1 h1;cases h;exact exCode_ok hrf hC hF hod x hg.left σ (.goto i) _ a w μ S _ h1 hB A R Co fun a1 w1 μ1 S1 xe A1 R1 C1 hx=>then_of (by simp) hx (hK a1 w1 μ1 S1 xe A1 R1 C1 hx)
  ·rename_i σ1 h1;cases h;exact exCode_ok hrf hC hF hod x hg.left σ .ret _ a w μ S _ h1 hB A R Co fun a1 w1 μ1 S1 xe A1 R1 C1 hx=>then_of (by simp) hx (hK a1 w1 μ1 S1 xe A1 R1 C1 hx)
  ·rename_i v σ1 h1;cases h;exact exCode_ok hrf hC hF hod x hg.left σ (.pan v) _ a w μ S _ h1 hB A R Co fun a1 w1 μ1 S1 xe A1 R1 C1 hx=>then_of (by simp) hx (hK a1 w1 μ1 S1 xe A1 R1 C1 hx)
  ·simp at h
 | .cond c x y,hg,σ,e,σ',a,w,μ,S,Q,h,hB,A,R,Co,hK=>by
  simp only[exCode] at h
  split at h
  ·rename_i b hb
   have hv:=A.val c
   rw[hb] at hv
   simp only[VR] at hv
   refine wpIn_cond hv ?_
   cases b with
   | true=>exact exCode_ok hrf hC hF hod x hg.cleft σ e σ' a w μ S Q h hB A R Co hK
   | false=>exact exCode_ok hrf hC hF hod y hg.cright σ e σ' a w μ S Q h hB A R Co hK
  ·simp at h
 | .block id x,hg,σ,e,σ',a,w,μ,S,Q,h,hB,A,R,Co,hK=>by
  simp only[exCode] at h
  refine wpIn_block ?_
  split at h
  ·rename_i i σ1 h1
   refine exCode_ok hrf hC hF hod x hg.block σ (.exit i) σ1 a w μ S _ h1 hB A R Co fun a1 w1 μ1 S1 xe A1 R1 C1 hx=>?_
   cases (show xe = .exit i from hx)
   simp only[Exit.inBlock]
   cases hb:Nat.beq i id with
   | true=>
    rw[hb] at h;simp only[cond_true,Option.some.injEq,Prod.mk.injEq] at h
    obtain⟨rfl,rfl⟩:=h
    rw[if_pos (Nat.eq_of_beq_eq_true hb)]
    exact hK a1 w1 μ1 S1 _ A1 R1 C1 rfl
   | false=>
    rw[hb] at h;simp only[cond_false,Option.some.injEq,Prod.mk.injEq] at h
    obtain⟨rfl,rfl⟩:=h
    rw[if_neg (fun e=>by subst e;simp at hb)]
    exact hK a1 w1 μ1 S1 _ A1 R1 C1 rfl
  ·rename_i r hne
   refine exCode_ok hrf hC hF hod x hg.block σ e σ' a w μ S _ h hB A R Co fun a1 w1 μ1 S1 xe A1 R1 C1 hx=>?_
   exact block_of (fun i he=>hne i σ' (he ▸ h)) hx (hK a1 w1 μ1 S1 xe A1 R1 C1 hx)
 | .loop x,hg,σ,e,σ',a,w,μ,S,Q,h,hB,A,R,Co,hK=>by
  simp only[exCode] at h
  have main:∀ (σ2:St),exLoop lf (exRound od (hintOf Hn base x σ) (exCode P C Hn F lf base od rf false x)) (mvOf (hintOf Hn base x σ) σ)=some (e,σ2) →
    (∀ a' w' μ' S' xe,AR So Dt μ' S' σ2 a'→Rel μ' S' σ2.heap B w0 w'→Carry B μo So Ho μ' S' σ2.heap→e.Is μ' S' σ2.heap xe→Q xe a' w')→(Code.loop x).wpIn (WF rd) 0 P Q a w:=by
   intro σ2 h hK
   obtain⟨μ0,A0,R0,C0⟩:=mvOf_ok (h:=hintOf Hn base x σ) A R Co
   refine wpIn_loop_rounds lf (exLoop_ok (μo:=μo) (So:=So) (Ho:=Ho) (fun σ e σ' h hB=>?_) (fun σ e σ' a w μ S Q h hB A R Co hK=>?_) lf _ e σ2 a w μ0 S Q h (mvOf_bd hB) A0 R0 C0 hK)
   ·unfold exRound at h
    split at h
    ·exact exCode_bd hF false x σ e σ' h hB
    ·split at h
     ·rename_i σ1 h1;exact exCode_bd hF false x σ1 e σ' h (head_bd h1)
     ·simp at h
   ·unfold exRound at h
    split at h
    ·exact exCode_ok hrf hC hF hod x hg.loop σ e σ' a w μ S Q h hB A R Co hK
    ·split at h
     ·rename_i σ1 h1
      obtain⟨μ1,A1,R1,C1,B1⟩:=head_ok h1 A R hod Co
      exact exCode_ok hrf hC hF hod x hg.loop σ1 e σ' a w μ1 S Q h B1 A1 R1 C1 hK
     ·simp at h
  rcases exOut_cases h with h|⟨σ2,h',h,hh⟩
  ·exact main σ' h hK
  ·refine main σ2 h fun a' w' μ' S' xe A' R' C' hx=>?_
   obtain⟨μ1,A1,R1,C1,B1⟩:=head_ok hh A' R' hod C'
   exact hK a' w' μ1 S' xe A1 R1 C1 (hx.of (exLoop_nopan _ _ _ _ h))
 | .exit id,hg,σ,e,σ',a,w,μ,S,Q,h,hB,A,R,Co,hK=>by
  simp only[exCode] at h;cases h;exact wpIn_exit (hK a w μ S _ A R Co rfl)
 | .label l,hg,σ,e,σ',a,w,μ,S,Q,h,hB,A,R,Co,hK=>by
  simp only[exCode] at h;cases h;exact wpIn_label (hK a w μ S _ A R Co rfl)
 | .ret,hg,σ,e,σ',a,w,μ,S,Q,h,hB,A,R,Co,hK=>by
  simp only[exCode] at h;cases h;exact wpIn_ret (hK a w μ S _ A R Co rfl)
 | .rangeFunc g ps asn body,hg,σ,e,σ',a,w,μ,S,Q,h,hB,A,R,Co,hK=>by
  simp only[exCode] at h
  exact exRange_ok hrf hC hF hg h hB A R Co.sub fun a' w' μ' S' A' R' C'=>hK a' w' μ' S' _ A' R' (Co.trans C') (Ex.Is.self (exRange_nopan h))
 | .scope x,hg,σ,e,σ',a,w,μ,S,Q,h,hB,A,R,Co,hK=>by
  simp only[exCode] at h
  cases hs:spineOK x with
  | false=>rw[hs] at h;simp at h
  | true=>
  rw[hs] at h
  simp only[cond_true] at h
  unfold noGoto at h
  split at h
  ·simp at h
  ·rename_i hne
   have:=exSpine_ok hrf hC hF hod x hg.scope σ e σ' a w μ S Q h (fun l he=>by subst he;exact hne _ _ h) hB A R Co hK
   unfold spineJ at this
   split at this
   ·rename_i l r hl
    exact wpIn_scope_rounds lf (fun _=>spine_find hs hl) this
   ·exact wpIn_scope_rounds (l:=0) (r:=.skip) 0 (fun h=>absurd h (by omega)) this
 | .goto l,hg,σ,e,σ',a,w,μ,S,Q,h,hB,A,R,Co,hK=>by
  simp only[exCode] at h;cases h;exact wpIn_goto (hK a w μ S _ A R Co rfl)
 | .refuse _,hg,σ,e,σ',a,w,μ,S,Q,h,hB,A,R,Co,hK=>by simp[exCode] at h
theorem exSpine_ok {Hn:Hints}{od:List Nat}{rf:Option Nat}(hrf:rf≠none→rd=none∧Dt.1=false)(hC:TabsOK P C)(hF:InlOK P F)(hod:∀ i,μo i≠none→i∈od) :
  ∀ (c:Code),RngOK P rf c→∀ (σ:St) (e:Ex) (σ':St) (a:Act) (w:World) (μ:Mu) (S:Stable) (Q:Exit→Act→World→Prop),
  exCode P C Hn F lf base od rf true c σ=some (e,σ')→(∀ l,e ≠ .goto l)→Bd σ→AR So Dt μ S σ a→Rel μ S σ.heap B w0 w→Carry B μo So Ho μ S σ.heap →
  (∀ a' w' μ' S' xe,AR So Dt μ' S' σ' a'→Rel μ' S' σ'.heap B w0 w'→Carry B μo So Ho μ' S' σ'.heap→e.Is μ' S' σ'.heap xe→Q xe a' w')→c.wpIn (WF rd) 0 P (spineJ (WF rd) P lf c Q) a w
 | .seq x y,hg,σ,e,σ',a,w,μ,S,Q,h,hne,hB,A,R,Co,hK=>by
  simp only[exCode] at h
  cases hl:labOf x with
  | some l=>
   rw[hl] at h
   have hx:=labOf_eq hl
   subst hx
   have hJ:spineJ (WF rd) P lf (.seq (.label l) y) Q=jumpQ l (scopeR (WF rd) 0 P l (.seq .skip y) Q lf) Q:=rfl
   rw[hJ]
   refine wpIn_seq (wpIn_label ?_)
   simp only at h
   show y.wpIn (WF rd) 0 P _ a w
   have main:∀ (σ2:St) (e2:Ex),exLoop lf (exRound od (hintOf Hn base y σ) fun σ=>flipE l (exCode P C Hn F lf base od rf false y σ)) σ=some (e2,σ2) →
     (∀ e3,unX e2=some e3→∀ a' w' μ' S',AR So Dt μ' S' σ2 a'→Rel μ' S' σ2.heap B w0 w'→Carry B μo So Ho μ' S' σ2.heap→Q e3.to a' w')→y.wpIn (WF rd) 0 P (jumpQ l (scopeR (WF rd) 0 P l (.seq .skip y) Q lf) Q) a w:=by
    intro σ2 e2 h hK
    refine labLoop_ok (μo:=μo) (So:=So) (Ho:=Ho) (f:=exRound od (hintOf Hn base y σ) fun σ=>flipE l (exCode P C Hn F lf base od rf false y σ)) (fun σ e σ' h hB=>?_) (fun σ e σ' a w μ S Q h hB A R Co hK=>?_) lf σ e2 σ2 a w μ S h hB A R Co hK
    ·unfold exRound at h
     split at h
     ·exact flip_bd (fun σ e σ'=>exCode_bd hF false y σ e σ') h hB
     ·split at h
      ·rename_i σ1 h1;exact flip_bd (fun σ e σ'=>exCode_bd hF false y σ e σ') h (head_bd h1)
      ·simp at h
    ·have go:∀ (σ:St) (μ:Mu),flipE l (exCode P C Hn F lf base od rf false y σ)=some (e,σ')→Bd σ→AR So Dt μ S σ a→Rel μ S σ.heap B w0 w→Carry B μo So Ho μ S σ.heap→y.wpIn (WF rd) 0 P Q a w:=by
      intro σ μ h hB A R Co
      unfold flipE at h
      split at h
      ·rename_i e1 σ1 h1
       split at h
       ·rename_i e4 h4
        cases h
        refine exCode_ok hrf hC hF hod y hg.right σ e1 _ a w μ S Q h1 hB A R Co fun a' w' μ' S' xe A' R' C' hx=>?_
        have he1:e1.isPan=false:=by cases e1<;>first|rfl|(simp[flipX] at h4)
        have hxe:xe=e1.to:=by cases e1<;>first|exact hx|(simp[Ex.isPan] at he1)
        subst hxe
        exact hK e1 h4 a' w' μ' S' A' R' C'
       ·simp at h
      ·simp at h
     unfold exRound at h
     split at h
     ·exact go σ μ h hB A R Co
     ·split at h
      ·rename_i σ1 h1
       obtain⟨μ1,A1,R1,C1,B1⟩:=head_ok h1 A R hod Co
       exact go σ1 μ1 h B1 A1 R1 C1
      ·simp at h
   unfold unflip at h
   split at h
   ·rename_i e1 σ1 h1
    split at h
    ·rename_i e2 h2
     cases h
     rcases exOut_cases h1 with h|⟨σ2,h',h,hh⟩
     ·exact main _ _ h fun e3 h3 a' w' μ' S' A' R' C'=>by rw[h2] at h3;cases h3;exact hK a' w' μ' S' _ A' R' C' (Ex.Is.self (unX_nopan h2))
     ·refine main σ2 _ h fun e3 h3 a' w' μ' S' A' R' C'=>?_
      rw[h2] at h3;cases h3
      obtain⟨μ1,A1,R1,C1,B1⟩:=head_ok hh A' R' hod C'
      exact hK a' w' μ1 S' _ A1 R1 C1 (Ex.Is.self (unX_nopan h2))
    ·simp at h
   ·simp at h
  | none=>
   rw[hl] at h
   simp only at h
   have hJ:spineJ (WF rd) P lf (.seq x y) Q=spineJ (WF rd) P lf y Q:=by unfold spineJ;simp only[spineLab,hl]
   rw[hJ]
   refine wpIn_seq ?_
   split at h
   ·rename_i σ1 h1
    refine exCode_ok hrf hC hF hod x hg.left σ .nrm σ1 a w μ S _ h1 hB A R Co fun a1 w1 μ1 S1 xe A1 R1 C1 hx=>?_
    cases (show xe = .normal from hx)
    exact exSpine_ok hrf hC hF hod y hg.right σ1 e σ' a1 w1 μ1 S1 Q h hne (exCode_bd hF false x σ _ σ1 h1 hB) A1 R1 C1 hK
   ·rename_i i σ1 h1;cases h;exact exCode_ok hrf hC hF hod x hg.left σ (.exit i) _ a w μ S _ h1 hB A R Co fun a' w' μ' S' xe A' R' C' hx=>then_of (by simp) hx (spineJ_of _ xe hx hne _ _ (hK a' w' μ' S' xe A' R' C' hx))
   ·rename_i σ1 h1;cases h;exact exCode_ok hrf hC hF hod x hg.left σ .ret _ a w μ S _ h1 hB A R Co fun a' w' μ' S' xe A' R' C' hx=>then_of (by simp) hx (spineJ_of _ xe hx hne _ _ (hK a' w' μ' S' xe A' R' C' hx))
   ·rename_i v σ1 h1;cases h;exact exCode_ok hrf hC hF hod x hg.left σ (.pan v) _ a w μ S _ h1 hB A R Co fun a' w' μ' S' xe A' R' C' hx=>then_of (by simp) hx (spineJ_of _ xe hx hne _ _ (hK a' w' μ' S' xe A' R' C' hx))
   ·simp at h
 | .skip,hg,σ,e,σ',a,w,μ,S,Q,h,hne,hB,A,R,Co,hK=>exCode_ok hrf hC hF hod (.skip) hg σ e σ' a w μ S _ (by rw[← sc_same (by rfl)];exact h) hB A R Co fun a' w' μ' S' xe A' R' C' hx=>spineJ_of e xe hx hne _ _ (hK a' w' μ' S' xe A' R' C' hx)
 | .region i o d,hg,σ,e,σ',a,w,μ,S,Q,h,hne,hB,A,R,Co,hK=>exCode_ok hrf hC hF hod (.region i o d) hg σ e σ' a w μ S _ (by rw[← sc_same (by rfl)];exact h) hB A R Co fun a' w' μ' S' xe A' R' C' hx=>spineJ_of e xe hx hne _ _ (hK a' w' μ' S' xe A' R' C' hx)
 | .cond i x y,hg,σ,e,σ',a,w,μ,S,Q,h,hne,hB,A,R,Co,hK=>exCode_ok hrf hC hF hod (.cond i x y) hg σ e σ' a w μ S _ (by rw[← sc_same (by rfl)];exact h) hB A R Co fun a' w' μ' S' xe A' R' C' hx=>spineJ_of e xe hx hne _ _ (hK a' w' μ' S' xe A' R' C' hx)
 | .block i x,hg,σ,e,σ',a,w,μ,S,Q,h,hne,hB,A,R,Co,hK=>exCode_ok hrf hC hF hod (.block i x) hg σ e σ' a w μ S _ (by rw[← sc_same (by rfl)];exact h) hB A R Co fun a' w' μ' S' xe A' R' C' hx=>spineJ_of e xe hx hne _ _ (hK a' w' μ' S' xe A' R' C' hx)
 | .loop x,hg,σ,e,σ',a,w,μ,S,Q,h,hne,hB,A,R,Co,hK=>exCode_ok hrf hC hF hod (.loop x) hg σ e σ' a w μ S _ (by rw[← sc_same (by rfl)];exact h) hB A R Co fun a' w' μ' S' xe A' R' C' hx=>spineJ_of e xe hx hne _ _ (hK a' w' μ' S' xe A' R' C' hx)
 | .exit i,hg,σ,e,σ',a,w,μ,S,Q,h,hne,hB,A,R,Co,hK=>exCode_ok hrf hC hF hod (.exit i) hg σ e σ' a w μ S _ (by rw[← sc_same (by rfl)];exact h) hB A R Co fun a' w' μ' S' xe A' R' C' hx=>spineJ_of e xe hx hne _ _ (hK a' w' μ' S' xe A' R' C' hx)
 | .label i,hg,σ,e,σ',a,w,μ,S,Q,h,hne,hB,A,R,Co,hK=>exCode_ok hrf hC hF hod (.label i) hg σ e σ' a w μ S _ (by rw[← sc_same (by rfl)];exact h) hB A R Co fun a' w' μ' S' xe A' R' C' hx=>spineJ_of e xe hx hne _ _ (hK a' w' μ' S' xe A' R' C' hx)
 | .ret,hg,σ,e,σ',a,w,μ,S,Q,h,hne,hB,A,R,Co,hK=>exCode_ok hrf hC hF hod (.ret) hg σ e σ' a w μ S _ (by rw[← sc_same (by rfl)];exact h) hB A R Co fun a' w' μ' S' xe A' R' C' hx=>spineJ_of e xe hx hne _ _ (hK a' w' μ' S' xe A' R' C' hx)
 | .rangeFunc g p x y,hg,σ,e,σ',a,w,μ,S,Q,h,hne,hB,A,R,Co,hK=>exCode_ok hrf hC hF hod (.rangeFunc g p x y) hg σ e σ' a w μ S _ (by rw[← sc_same (by rfl)];exact h) hB A R Co fun a' w' μ' S' xe A' R' C' hx=>spineJ_of e xe hx hne _ _ (hK a' w' μ' S' xe A' R' C' hx)
 | .scope x,hg,σ,e,σ',a,w,μ,S,Q,h,hne,hB,A,R,Co,hK=>exCode_ok hrf hC hF hod (.scope x) hg σ e σ' a w μ S _ (by rw[← sc_same (by rfl)];exact h) hB A R Co fun a' w' μ' S' xe A' R' C' hx=>spineJ_of e xe hx hne _ _ (hK a' w' μ' S' xe A' R' C' hx)
 | .goto i,hg,σ,e,σ',a,w,μ,S,Q,h,hne,hB,A,R,Co,hK=>exCode_ok hrf hC hF hod (.goto i) hg σ e σ' a w μ S _ (by rw[← sc_same (by rfl)];exact h) hB A R Co fun a' w' μ' S' xe A' R' C' hx=>spineJ_of e xe hx hne _ _ (hK a' w' μ' S' xe A' R' C' hx)
 | .refuse i,hg,σ,e,σ',a,w,μ,S,Q,h,hne,hB,A,R,Co,hK=>exCode_ok hrf hC hF hod (.refuse i) hg σ e σ' a w μ S _ (by rw[← sc_same (by rfl)];exact h) hB A R Co fun a' w' μ' S' xe A' R' C' hx=>spineJ_of e xe hx hne _ _ (hK a' w' μ' S' xe A' R' C' hx)
end
end
def resSem (tmps:Array Value):ResultVar→Sem Value
 | .tmp t=>pure (tmps.getD t undef)
 | .cell x t=>do loadVar t (← asAddr (tmps.getD x undef))
theorem resOf_ok {σ:St}{a:Act}{w:World}{μ:Mu}{S:Stable}(A:AR N Dt μ S σ a)(R:Rel μ S σ.heap B w0 w){r:ResultVar}{v:AV}(h:resOf P σ r=some v) :
  ∃ u,(resSem a.tmps r).run P w = .ok u w∧VR μ S σ.heap v u:=by
 cases r with
 | tmp t=>
  obtain⟨h1,rfl⟩:=cond_some h
  exact⟨_,rfl,A.tmp t (of_ltN h1)⟩
 | cell x t=>
  simp only[resOf] at h
  split at h
  ·rename_i i off hx
   split at h
   ·rename_i t' cs hH
    have hv:=A.val (.tmp x)
    rw[hx] at hv
    simp only[VR] at hv
    obtain⟨b,c,hm,_,e⟩:=hv
    obtain⟨vs,hb,hvs⟩:=box_cells R hH hm
    obtain⟨u,hu,hv⟩:=cut_loadVar (P:=P) (w:=w) (ad:=⟨b,0,none⟩) hvs (fun j u hj=>by rw[plain_add,Nat.zero_add,cell_of hb];simpa using hj) h
    rw[plain_add,Nat.zero_add] at hu
    have e':a.tmps.getD x undef = .pointer (some ⟨b,off,none⟩):=e
    refine⟨u,?_,hv⟩
    simp only[resSem,e',asAddr,Sem.run_bind,Sem.run_pure,Result.andThen_ok,hu]
   ·simp at h
  ·simp at h
theorem resAll_ok {σ:St}{a:Act}{w:World}{μ:Mu}{S:Stable}(A:AR N Dt μ S σ a)(R:Rel μ S σ.heap B w0 w):∀ {rs:List ResultVar} {vs:List AV},resAll P σ rs=some vs →
  ∃ us,(rs.mapM (resSem a.tmps)).run P w = .ok us w∧VRs μ S σ.heap vs us
 | [],vs,h=>by
  simp only[resAll,Option.some.injEq] at h;subst h
  exact⟨[],by simp,by simp[VRs]⟩
 | r::rs,vs,h=>by
  simp only[resAll] at h
  split at h
  ·rename_i v vs' h1 h2
   cases h
   obtain⟨u,k1,k2⟩:=resOf_ok A R h1
   obtain⟨us,q1,q2⟩:=resAll_ok A R h2
   refine⟨u::us,?_,by simp only[VRs];exact⟨u,us,rfl,k2,q2⟩⟩
   rw[List.mapM_cons]
   simp only[Sem.run_bind,k1,q1,Result.andThen_ok,Sem.run_pure]
  ·simp at h
theorem results_ok {fn:Func}{σ:St}{a:Act}{w:World}{μ:Mu}{S:Stable}(A:AR N Dt μ S σ a)(R:Rel μ S σ.heap B w0 w){vs:List AV}(h:resAll P σ fn.results.toList=some vs) :
  ∃ u,(results fn a.tmps).run P w = .ok u w∧VR μ S σ.heap (resAV vs) u:=by
 obtain⟨us,h1,h2⟩:=resAll_ok A R h
 refine⟨resVal us,?_,resAV_VR h2⟩
 have e:results fn a.tmps=(do
   let vs ← fn.results.mapM (resSem a.tmps)
   pure (if h:vs.size=1 then vs[0] else .tuple vs)):=by
  unfold results
  congr 1
  all_goals (congr 1;try (funext r;cases r<;>rfl))
 rw[e,Array.mapM_eq_mapM_toList]
 simp only[Sem.run_bind,Sem.run_map,Result.andThen_ok,h1,Sem.run_pure]
 match us with
 | []=>rfl
 | [u]=>rfl
 | u::v::us=>simp[resVal]
omit [Glob] in
theorem nthAV_VR {μ:Mu}{S:Stable}{H:Heap}:∀ {as:List AV} {vs:List Value},VRs μ S H as vs→∀ t,VR μ S H (nthAV as t) (vs.getD t undef)
 | [],vs,h,t=>by simp only[VRs] at h;subst h;simp[nthAV,VR]
 | a::as,vs,h,t=>by
  simp only[VRs] at h
  obtain⟨v,r,rfl,h1,h2⟩:=h
  cases t with
  | zero=>simpa [nthAV] using h1
  | succ t=>simpa [nthAV] using nthAV_VR h2 t
omit [Glob] in
theorem exRnd_bd {i k r:Nat}{f g:St→Option (Ex×St)}{σ:St}{v:AV}{H':Heap}{L':List Nat}(hf:∀ σ e σ',f σ=some (e,σ')→Bd σ→Bd σ')(hg:∀ σ e σ',g σ=some (e,σ')→Bd σ→Bd σ')
  (h:exRnd i k r f g σ=some (v,H',L')) (hB:Bd σ):∀ q,H' q≠none→q∈L':=by
 unfold exRnd at h
 split at h
 ·rename_i σ1 h1
  split at h
  ·rename_i σ2 h2
   split at h
   ·rename_i e σ3 h3
    have B1:=hf _ _ _ h1 hB
    have B2:Bd σ2:=by
     unfold rndBusy at h2
     split at h2
     ·rename_i hH
      obtain⟨_,e2⟩:=cond_some h2
      cases e2
      intro q hq
      by_cases eq:q=i
      ·subst eq;exact B1 q (by rw[hH];simp)
      ·simp only at hq;rw[upd_ne _ _ eq] at hq;exact B1 q hq
     ·simp at h2
    have B3:=hg _ _ _ h3 B2
    unfold rndOut at h
    split at h
    ·rename_i hH
     obtain⟨_,e2⟩:=cond_some h
     cases e2
     intro q hq
     by_cases eq:q=i
     ·subst eq;exact B3 q (by rw[hH];simp)
     ·rw[upd_ne _ _ eq] at hq;exact B3 q hq
    ·simp at h
   ·simp at h
  ·simp at h
 ·simp at h
theorem exFun_bd {Hn:Hints}:∀ n id k as H L v H' L',InlOK P (exFun P C Hn lf n)→exFun P C Hn lf (n+1) id k as H L=some (v,H',L')→(∀ q,H q≠none→q∈L)→∀ q,H' q≠none→q∈L':=by
 intro n id k as H L v H' L' hF h hB
 cases k with
 | fn k=>
  simp only[exFun] at h
  split at h
  ·rename_i fn hfn
   split at h
   ·rename_i c hc
    cases hle:Nat.ble as.length fn.ntmps with
    | false=>rw[hle] at h;simp at h
    | true=>
     rw[hle] at h
     simp only[cond_true] at h
     unfold exEnd at h
     split at h
     ·rename_i σ he
      split at h
      ·cases h;exact exCode_bd hF false c _ _ σ he hB
      ·simp at h
     ·rename_i σ he
      split at h
      ·cases h;exact exCode_bd hF false c _ _ σ he hB
      ·simp at h
     ·rename_i x σ he
      cases h;exact exCode_bd hF false c _ _ σ he hB
     ·simp at h
   ·simp at h
  ·simp at h
 | yld i=>
  simp only[exFun] at h
  split at h
  ·rename_i k r x σ hin
   have hB0:Bd σ:=by
    unfold rndIn at hin
    split at hin
    ·split at hin
     ·obtain⟨_,e1⟩:=cond_some hin
      cases e1
      exact hB
     ·simp at hin
    ·simp at hin
   exact exRnd_bd (fun σ e σ' h hB=>exCode_bd hF false _ σ e σ' h hB) (fun σ e σ' h hB=>exCode_bd hF false _ σ e σ' h hB) h hB0
  ·simp at h
theorem Rel.ids {μ:Mu}{S:Stable}{H:Heap}{w:World}{L:List Nat}(R:Rel μ S H B w0 w)(hBd:∀ q,H q≠none→q∈L):∀ i,μ i≠none→i∈L:=fun i hi=>hBd i (fun h=>by
 have:=R.dom i
 rw[h] at this
 cases hm:μ i with
 | none=>exact hi hm
 | some l=>rw[hm] at this;simp at this)
theorem exFun_fn {Hn:Hints}(hC:TabsOK P C){n:Nat}(ih:InlOK P (exFun P C Hn lf n)){id k:Nat}{as:List AV}{H H':Heap}{L L':List Nat}{v:AV}(h:exFun P C Hn lf (n+1) id (.fn k) as H L=some (v,H',L'))(hBd:∀ q,H q≠none→q∈L)
  {μ:Mu} {S:Stable} {B:Nat} {w0 w:World} {us:Array Value} (R:Rel μ S H B w0 w) (hv:VRs μ S H as us.toList) :
  Calls P k us w fun e w'=>∃ μ' S',EndIs μ' S' H' v e∧Rel μ' S' H' B w0 w'∧Carry B μ S H μ' S' H':=by
 simp only[exFun] at h
 split at h
 case h_2=>simp at h
 rename_i fn hfn
 split at h
 case h_2=>simp at h
 rename_i c hc
 cases hle:Nat.ble as.length fn.ntmps with
 | false=>rw[hle] at h;simp at h
 | true=>
  rw[hle] at h
  simp only[cond_true] at h
  have hle:=Nat.le_of_ble_eq_true hle
  have hlen:=VRs_length hv
  simp only[Array.length_toList] at hlen
  refine (callsIn_WF (r:=none) (n:=0)).1 (callsIn_of_wp_marks hfn hc trivial ?_ rfl)
  have A0:AR S (false,[]) μ S ⟨fn.ntmps,nthAV as,H,L⟩ { tmps:=us++Array.replicate (fn.ntmps-us.size) undef,defers:=[] }:=by
   refine⟨⟨[],rfl,⟨List.nodup_nil,by simp⟩,fun _=>rfl⟩,by simp;omega,fun t ht=>?_⟩
   have:=nthAV_VR hv t
   rw[List.getD_eq_getElem?_getD] at this
   rw[Array.getD_eq_getD_getElem?]
   by_cases hlt:t<us.size
   ·rw[Array.getElem?_append_left hlt];simpa using this
   ·rw[Array.getElem?_append_right (by omega),Array.getElem?_replicate]
    have e1:us.toList[t]? = none:=by rw[List.getElem?_eq_none];simp;omega
    rw[e1] at this
    have:t-us.size<fn.ntmps-us.size:=by simp only at ht;omega
    rw[if_pos this];assumption
  have hod:=R.ids hBd
  have leave:∀ (e:Ex) (σ:St),exCode P C Hn (exFun P C Hn lf n) lf (Nat.succ id * 4294967296) L (some k) false c ⟨fn.ntmps,nthAV as,H,L⟩=some (e,σ) →
    (∀ (a':Act) w2 μ' S' S2 xe,AR S (false,[]) μ' S2 σ { tmps:=a'.tmps,defers:=[] }→Rel μ' S2 σ.heap B w0 w2→Carry B μ S H μ' S2 σ.heap→CellsSub S' S2→e.Is μ' S' σ.heap xe →
     (bodyPostM (WF none) 0 P fn (fun e w'=>∃ μ' S',EndIs μ' S' H' v e∧Rel μ' S' H' B w0 w'∧Carry B μ S H μ' S' H')) xe { tmps:=a'.tmps,defers:=[] } w2) →
    (e.to = .normal∨e.to = .ret) →
    c.wpIn (WF none) 0 P (bodyPostM (WF none) 0 P fn fun e w'=>∃ μ' S',EndIs μ' S' H' v e∧Rel μ' S' H' B w0 w'∧Carry B μ S H μ' S' H') { tmps:=us++Array.replicate (fn.ntmps-us.size) undef,defers:=[] } w:=by
   intro e σ he hK hne
   refine exCode_ok (Dt:=(false,[])) (μo:=μ) (So:=S) (Ho:=H) (fun _=>⟨rfl,rfl⟩) hC ih hod c (.top hfn hc) _ e σ _ w μ S _ he hBd A0 R Carry.refl fun a' w' μ' S' xe A' R' C' hx=>?_
   have main:∀ (u:FrameMode),u ≠ .run→(∀ S2 w2,Rel μ' S2 σ.heap B w0 w2→CellsSub S' S2→Carry B μ S H μ' S2 σ.heap→LeavesInM (WF none) 0 P fn a'.tmps (fun e w'=>∃ μ' S',EndIs μ' S' H' v e∧Rel μ' S' H' B w0 w'∧Carry B μ S H μ' S' H') [] u w2) →
     LeavesInM (WF none) 0 P fn a'.tmps (fun e w'=>∃ μ' S',EndIs μ' S' H' v e∧Rel μ' S' H' B w0 w'∧Carry B μ S H μ' S' H') a'.defers u w':=by
    intro u hu hL
    obtain⟨ms,hms,hmk,_⟩:=A'.defers
    rw[hms]
    refine leaves_marks hu R.pre ms S' w' R' hmk C'.sub (fun D hD=>?_) fun S2 w2 R2 hc2 hs2 hn2=>hL S2 w2 R2 hc2 ⟨fun a v h=>VR_cells hc2 _ _ (C'.vr a v h),fun b hb=>C'.st b (hn2 b hb),hs2⟩
    rcases C'.st D (by rw[(hmk.2 D hD).2];simp) with h|h
    ·exact absurd (hmk.2 D hD).1 h
    ·exact h
   have A2:∀ {S2},CellsSub S' S2→AR S (false,[]) μ' S2 σ { tmps:=a'.tmps,defers:=[] }:=fun {S2} hc2=>⟨⟨[],rfl,⟨List.nodup_nil,by simp⟩,fun _=>rfl⟩,A'.size,fun t ht=>VR_cells hc2 _ _ (A'.tmp t ht)⟩
   have fin:∀ u,u ≠ .run→(∀ S2 w2,bodyPostM (WF none) 0 P fn (fun e w'=>∃ μ' S',EndIs μ' S' H' v e∧Rel μ' S' H' B w0 w'∧Carry B μ S H μ' S' H') xe { tmps:=a'.tmps,defers:=[] } w2→LeavesInM (WF none) 0 P fn a'.tmps (fun e w'=>∃ μ' S',EndIs μ' S' H' v e∧Rel μ' S' H' B w0 w'∧Carry B μ S H μ' S' H') [] u w2) →
     LeavesInM (WF none) 0 P fn a'.tmps (fun e w'=>∃ μ' S',EndIs μ' S' H' v e∧Rel μ' S' H' B w0 w'∧Carry B μ S H μ' S' H') a'.defers u w':=fun u hu hL=>
    main u hu fun S2 w2 R2 hc2 C2=>hL S2 w2 (hK a' w2 μ' S' S2 xe (A2 hc2) R2 C2 hc2 hx)
   cases e with
   | nrm=>cases (show xe = .normal from hx);exact fin .returning (by simp) fun S2 w2 h=>h
   | ret=>cases (show xe = .ret from hx);exact fin .returning (by simp) fun S2 w2 h=>h
   | pan x=>obtain⟨u,rfl,_⟩:=hx;exact fin (.panicking (pent u)) (by simp) fun S2 w2 h=>h
   | exit i=>rcases hne with h|h<;>simp[Ex.to] at h
   | goto i=>rcases hne with h|h<;>simp[Ex.to] at h
  have fin:∀ (e:Ex) (σ:St),exCode P C Hn (exFun P C Hn lf n) lf (Nat.succ id * 4294967296) L (some k) false c ⟨fn.ntmps,nthAV as,H,L⟩=some (e,σ)→e = .nrm∨e = .ret →
    (∃ vs,resAll P σ fn.results.toList=some vs∧v=resAV vs∧H'=σ.heap) →
    c.wpIn (WF none) 0 P (bodyPostM (WF none) 0 P fn fun e w'=>∃ μ' S',EndIs μ' S' H' v e∧Rel μ' S' H' B w0 w'∧Carry B μ S H μ' S' H') { tmps:=us++Array.replicate (fn.ntmps-us.size) undef,defers:=[] } w:=by
   rintro e σ he hex ⟨vs,hvs,rfl,rfl⟩
   refine leave e σ he (fun a' w2 μ' S' S2 xe A2 R2 C2 hc2 hx=>?_) (by rcases hex with rfl|rfl<;>simp[Ex.to])
   obtain⟨u,k1,k2⟩:=results_ok A2 R2 hvs
   have hL:LeavesInM (WF none) 0 P fn a'.tmps (fun e w'=>∃ μ' S',EndIs μ' S' σ.heap (resAV vs) e∧Rel μ' S' σ.heap B w0 w'∧Carry B μ S H μ' S' σ.heap) [] .returning w2:=⟨u,k1,μ',S2,EndIs.ret k2,R2,C2⟩
   rcases hex with rfl|rfl
   ·cases (show xe = .normal from hx);exact hL
   ·cases (show xe = .ret from hx);exact hL
  unfold exEnd at h
  split at h
  ·rename_i σ he
   split at h
   ·rename_i vs hvs;cases h;exact fin .nrm σ he (.inl rfl) ⟨vs,hvs,rfl,rfl⟩
   ·simp at h
  ·rename_i σ he
   split at h
   ·rename_i vs hvs;cases h;exact fin .ret σ he (.inr rfl) ⟨vs,hvs,rfl,rfl⟩
   ·simp at h
  ·rename_i x σ he
   cases h
   refine leave (.pan x) _ he (fun a' w2 μ' S' S2 xe A2 R2 C2 hc2 hx=>?_) (.inl rfl)
   obtain⟨u,rfl,hu⟩:=hx
   exact⟨μ',S2,⟨u,rfl,VR_cells hc2 _ _ hu⟩,R2,C2⟩
  ·simp at h
theorem exFun_yld {Hn:Hints}(hC:TabsOK P C){n:Nat}(ih:InlOK P (exFun P C Hn lf n)){id i:Nat}{as:List AV}{H H':Heap}{L L':List Nat}{v:AV}(h:exFun P C Hn lf (n+1) id (.yld i) as H L=some (v,H',L'))(hBd:∀ q,H q≠none→q∈L)
  {μ:Mu} {S:Stable} {B:Nat} {w0 w:World} {us:Array Value} (R:Rel μ S H B w0 w) (hv:VRs μ S H as us.toList) :
  RunC P μ (.yld i) us w fun e w'=>∃ μ' S',EndIs μ' S' H' v e∧Rel μ' S' H' B w0 w'∧Carry B μ S H μ' S' H':=by
 simp only[exFun] at h
 split at h
 case h_2=>simp at h
 rename_i k r x σ hin
 intro b cp hm
 unfold rndIn at hin
 split at hin
 case h_2=>simp at hin
 rename_i k r ts hH
 split at hin
 case h_2=>simp at hin
 rename_i x hx
 obtain⟨hps,e1⟩:=cond_some hin
 cases e1
 obtain⟨Lp,hL,hrng,hst,hvs⟩:=R.loop hH hm
 rw[hC.2.2,hx,Option.some.injEq] at hrng
 have hlen:=VRs_length hv
 simp only[Array.length_toList] at hlen
 have hps:=Nat.eq_of_beq_eq_true hps
 have hsz:us.size=Lp.params.size:=by rw[← hlen,← hps,hrng]
 have hyv:VR μ S H (.yld i) (.func (.yield b) #[] #[]):=by
  simp only[VR]
  exact⟨b,cp,hm,fun o h=>by rw[hH] at h;cases h;rfl,rfl⟩
 have getμ:∀ {μ':Mu} {S':Stable} {H':Heap},Carry B μ S H μ' S' H'→∃ c,μ' i=some ⟨some b,c,noInn⟩:=by
  intro μ' S' H' hc
  have:=hc.vr _ _ hyv
  simp only[VR] at this
  obtain⟨b',c',h1,_,h2⟩:=this
  injection h2 with h2;injection h2 with h2
  subst h2
  exact⟨c',h1⟩
 refine⟨Lp.fn,_,Lp.assign,Lp.body,run_yield hL hsz,roundIn_of_wpIn trivial ?_⟩
 have hT:VRs μ S H (setPs ts x.1.toList as) ((Lp.params.zip us).foldl (fun tmps (t,a)=>tmps.setIfInBounds t a) Lp.tmps).toList:=by
  have:=setPs_VRs (ps:=x.1.toList) hvs hv
  rw[← Array.foldl_toList,Array.toList_zip,← show x.1=Lp.params by rw[hrng]]
  exact this
 have hsl:∀ (ts:List AV) (ps:List Tmp) (as:List AV),(setPs ts ps as).length=ts.length:=by
  intro ts ps
  induction ps generalizing ts with
  | nil=>intro as;cases as<;>rfl
  | cons p ps ihp=>
   intro as
   cases as with
   | nil=>rfl
   | cons a as=>simp only[setPs];rw[ihp];simp
 have A0:AR S (false,[]) μ S ⟨ts.length,nthAV (setPs ts x.1.toList as),H,L⟩ { tmps:=(Lp.params.zip us).foldl (fun tmps (t,a)=>tmps.setIfInBounds t a) Lp.tmps,defers:=[] }:=by
  refine⟨⟨[],rfl,⟨List.nodup_nil,by simp⟩,fun _=>rfl⟩,?_,fun t ht=>?_⟩
  ·have:=VRs_length hT
   rw[hsl] at this
   simpa using this.symm
  ·have:=nthAV_VR hT t
   rw[List.getD_eq_getElem?_getD,Array.getElem?_toList] at this
   rw[Array.getD_eq_getD_getElem?]
   exact this
 have hod:=R.ids hBd
 unfold exRnd at h
 split at h
 case h_2=>simp at h
 rename_i σ1 h1
 split at h
 case h_2=>simp at h
 rename_i σ2 h2
 split at h
 case h_2=>simp at h
 rename_i e σ3 h3
 have ea:x.2.1=Lp.assign:=by rw[hrng]
 have eb:x.2.2=Lp.body:=by rw[hrng]
 rw[← ea,← eb]
 have hB0:Bd ⟨ts.length,nthAV (setPs ts x.1.toList as),H,L⟩:=hBd
 have hB1:=exCode_bd ih false _ _ _ _ h1 hB0
 refine exCode_ok (rd:=some b) (μo:=μ) (So:=S) (Ho:=H) (fun h=>absurd rfl h) hC ih hod x.2.1 .none _ .nrm σ1 _ w μ S _ h1 hBd A0 R Carry.refl fun a1 w1 μ1 S1 xe A1 R1 C1 hx1=>?_
 cases (show xe = .normal from hx1)
 unfold rndBusy at h2
 split at h2
 case h_2=>simp at h2
 rename_i k' r' ts1 hH1
 obtain⟨hkr,e2⟩:=cond_some h2
 cases e2
 simp only[Bool.and_eq_true] at hkr
 have ek:=Nat.eq_of_beq_eq_true hkr.1
 have er:=Nat.eq_of_beq_eq_true hkr.2
 subst ek er
 obtain⟨c1,hm1⟩:=getμ C1
 obtain⟨L1,hL1,hr1,hst1,hv1⟩:=R1.loop hH1 hm1
 obtain⟨R2,E2⟩:=R1.setLoop (st':=.busy) (L':={ L1 with state:=.busy }) hH1 hm1 hL1 ⟨rfl,rfl,rfl,rfl⟩ rfl
 refine⟨_,run_beginRound hL1 hst1.1,?_⟩
 have hB2:Bd ⟨σ1.nt,σ1.tmps,upd σ1.heap i (some (.loop k' r' .busy ts1)),σ1.ids⟩:=by
  intro q hq
  by_cases eq:q=i
  ·subst eq;exact hB1 q (by rw[hH1];simp)
  ·simp only at hq;rw[upd_ne _ _ eq] at hq;exact hB1 q hq
 refine exCode_ok (rd:=some b) (μo:=μ) (So:=S) (Ho:=H) (fun h=>absurd rfl h) hC ih hod x.2.2 .none _ e σ3 a1 _ μ1 S1 _ h3 hB2 ⟨A1.defers,A1.size,fun t ht=>VR_mono E2 _ _ (A1.tmp t ht)⟩ R2 (C1.trans (Carry.of E2)) fun a3 w3 μ3 S3 xe A3 R3 C3 hx3=>?_
 unfold rndOut at h
 split at h
 case h_2=>simp at h
 rename_i k2 r2 ts3 hH3
 obtain⟨hkr,e3⟩:=cond_some h
 cases e3
 obtain⟨c3,hm3⟩:=getμ C3
 simp only[Bool.and_eq_true] at hkr
 have ek:=Nat.eq_of_beq_eq_true hkr.1.1
 have er:=Nat.eq_of_beq_eq_true hkr.1.2
 subst ek er
 obtain⟨L3,hL3,hr3,hst3,hv3⟩:=R3.loop hH3 hm3
 have fin:∀ (j:Option Code) (st:LSt) (c:Bool),j.isNone=c→st.Is (if j.isNone then .ready else .done) j→st=e.st→c=e.on→∃ v' w',(Instr.endRound b j).run P w3 = .ok v' w' ∧
   ∃ μ' S',EndIs μ' S' (upd σ3.heap i (some (.loop k2 r2 e.st ts3))) (.lit (.bool e.on)) (Ending.returned v')∧Rel μ' S' (upd σ3.heap i (some (.loop k2 r2 e.st ts3))) B w0 w'∧Carry B μ S H μ' S' (upd σ3.heap i (some (.loop k2 r2 e.st ts3))):=by
  intro j st c hj his he hc
  subst he
  subst hc
  obtain⟨R4,E4⟩:=R3.setLoop (st':=e.st) (L':={ L3 with state:=if j.isNone then .ready else .done,pending:=j }) hH3 hm3 hL3 ⟨rfl,rfl,rfl,rfl⟩ his
  refine⟨_,_,run_endRound j hL3,μ3,S3,?_,R4,C3.trans (Carry.of E4)⟩
  rw[hj]
  exact EndIs.ret (by simp only[VR])
 cases e with
 | nrm=>cases (show xe = .normal from hx3);exact fin none .ready true rfl ⟨rfl,rfl⟩ rfl rfl
 | ret=>cases (show xe = .ret from hx3);exact fin (some .ret) (.done .ret) false rfl ⟨rfl,rfl⟩ rfl rfl
 | exit q=>cases (show xe = .exit q from hx3);exact fin (some (.exit q)) (.done (.exit q)) false rfl ⟨rfl,rfl⟩ rfl rfl
 | goto q=>cases (show xe = .goto q from hx3);exact fin (some (.goto q)) (.done (.goto q)) false rfl ⟨rfl,rfl⟩ rfl rfl
 | pan v=>have:=hkr.2;simp[Ex.isPan] at this
theorem exFun_ok {Hn:Hints}(hC:TabsOK P C):∀ n,InlOK P (exFun P C Hn lf n)
 | 0=>fun id k as H L v H' L' h=>by simp[exFun] at h
 | n+1=>by
  intro id k as H L v H' L' h hBd
  refine⟨exFun_bd n id k as H L v H' L' (exFun_ok hC n) h hBd,?_⟩
  intro μ S B w0 w us R hv
  cases k with
  | fn k=>exact exFun_fn hC (exFun_ok hC n) h hBd R hv
  | yld i=>exact exFun_yld hC (exFun_ok hC n) h hBd R hv
end
def encV (t:Ty)(x:t.T):AV:=cond t.isAgg (.agg (enc t x)) (headAV (enc t x))
def encArgs:(ps:List Ty)→Args ps→List AV
 | [],_=>[]
 | t::ts,x=>encV t x.1::encArgs ts x.2
def decOwn (H:Heap)(te:TypeId)(e:Ty):List AV→Option (List e.T×List AV×List Nat)
 | .sl i g::r=>match H i with
  | some (.row te' e' g' xs)=>cond (Nat.beq g g'&&Nat.beq te te') (match castL (e:=e') (e':=e) xs with
   | some ys=>some (ys,r,[i])
   | none=>none) none
  | _=>none
 | .lit (.slice none 0 0)::r=>some ([],r,[])
 | .sub i g a b::r=>match H i with
  | some (.row te' e' g' xs)=>cond (Nat.beq a 0&&Nat.beq g g'&&Nat.beq te te') (match castL (e:=e') (e':=e) (xs.take b) with
   | some ys=>some (ys,r,[i])
   | none=>none) none
  | _=>none
 | _=>none
def RTy.noOwn:RTy→Bool
 | .val _=>true
 | .own _ _=>false
 | .pair a b=>a.noOwn&&b.noOwn
 | .one a=>a.noOwn
 | .any=>true
 | .deep _ _ _=>false
def noOwns:List RTy→Bool
 | []=>true
 | t::ts=>t.noOwn&&noOwns ts
def DSt.done:DSt→Nat→Bool
 | .own,_=>true
 | .stale _,_=>false
 | .lent m,n=>decide (n≤m)
 | .late _,_=>false
def dnAll (H:Heap):List Nat→Bool
 | []=>true
 | i::l=>(match H i with
  | some (.drow _ _ _ xs st)=>st.done xs.length
  | _=>true)&&dnAll H l
def decDeep (H:Heap)(te ti:TypeId):List AV→Option (List FT×List AV×List Nat)
 | .dsl i::r=>match H i with
  | some (.drow te' ti' _ xs _)=>cond (Nat.beq te te'&&Nat.beq ti ti') (some (xs,r,[i])) none
  | _=>none
 | _=>none
def decR (Hv H:Heap):(t:RTy)→List AV→Option (t.T×List AV×List Nat)
 | .val t,l=>match dec Hv t l with
  | some (x,r)=>some (x,r,[])
  | none=>none
 | .own te e,l=>decOwn H te e l
 | .pair a b,l=>match decR Hv H a l with
  | some (x,l',o)=>match decR Hv H b l' with
   | some (y,l'',p)=>some ((x,y),l'',o++p)
   | none=>none
  | none=>none
 | .one a,l=>decR Hv H a l
 | .any,_=>none
 | .deep te ti false,l=>decDeep H te ti l
 | .deep _ _ true,_=>none
def decRV (Hv H:Heap)(t:RTy)(a:AV):Option (t.T×List Nat):=
 cond (t.isAgg == a.isAgg) (match decR Hv H t a.inside with
  | some (x,[],o)=>some (x,o)
  | _=>none) none
def decRs (Hv H:Heap):(rs:List RTy)→List AV→Option (Res rs×List Nat)
 | [],[]=>some ((),[])
 | t::ts,a::as=>match decRV Hv H t a with
  | some (x,o)=>match decRs Hv H ts as with
   | some (y,p)=>some ((x,y),o++p)
   | none=>none
  | none=>none
 | _,_=>none
def AV.parts (n:Nat):AV→List AV
 | .tup vs=>cond (Nat.beq n 1) [.tup vs] vs
 | a=>[a]
def decEnd (rs:List RTy):Option (AV×Heap×List Nat)→Option (Res rs)
 | some (v,H,_)=>cond v.isPan none (match decRs (cond (noOwns rs) H (fun _=>none)) H rs (v.parts rs.length) with
  | some (y,o)=>cond (distinct o&&dnAll H o) (some y) none
  | none=>none)
 | none=>none
def top (P:Program)(C:Cons)(Hn:Hints)(lf n k:Nat)(ps:List Ty)(rs:List RTy)(x:Args ps):Option (Res rs):=
 decEnd rs (exFun P C Hn lf n 0 (.fn k) (encArgs ps x) (fun _=>none) [])
section
variable [Glob]{P:Program}{w w' w0:World}{μ:Mu}{S S':Stable}{H Hv:Heap}{B:Nat}
omit [Glob] in
theorem encV_VR {t:Ty}{x:t.T}{v:Value}(h:RdV S t x v):VR μ S H (encV t x) v:=by
 unfold RdV at h
 unfold encV
 cases ha:t.isAgg with
 | true=>
  rw[ha,if_pos rfl] at h
  obtain⟨cs,rfl,h⟩:=h
  simp only[cond_true,VR]
  exact⟨cs,rfl,enc_VRs t x _ h⟩
 | false=>
  rw[ha,if_neg (by simp)] at h
  have:=enc_VRs (μ:=μ) (H:=H) t x _ h
  have hl:=VRs_length this
  simp only[cond_false]
  match he:enc t x,this,hl with
  | [a],this,_=>simp only[VRs] at this;obtain⟨_,_,e,k,_⟩:=this;cases e;exact k
  | [],_,hl=>simp at hl
  | _::_::_,_,hl=>simp at hl
omit [Glob] in
theorem encArgs_VRs:∀ {ps:List Ty} {x:Args ps} {vs:List Value},RdArgs S ps x vs→VRs μ S H (encArgs ps x) vs
 | [],x,vs,h=>by simp only[RdArgs] at h;subst h;simp[encArgs,VRs]
 | t::ts,x,vs,h=>by
  obtain⟨v,r,rfl,h1,h2⟩:=h
  simp only[encArgs,VRs]
  exact⟨v,r,rfl,encV_VR h1,encArgs_VRs h2⟩
inductive OI (μ:Mu):List OwnR→List Nat→Prop
 | nil:OI μ [] []
 | nilr {q os o}:(∀ b,¬ q.loc.has b)→OI μ os o→OI μ (q::os) o
 | own {q os i o}:μ i=some q.loc→OI μ os o→OI μ (q::os) (i::o)
omit [Glob] in
theorem OI.append {os os':List OwnR}{o o':List Nat}(h:OI μ os o)(h':OI μ os' o'):OI μ (os++os') (o++o'):=by
 induction h with
 | nil=>exact h'
 | nilr h1 _ ih=>exact .nilr h1 ih
 | own h1 _ ih=>exact .own h1 ih
omit [Glob] in
theorem OI.mem {os:List OwnR}{o:List Nat}(h:OI μ os o):∀ q∈os,(∀ b,¬ q.loc.has b)∨∃ i∈o,μ i=some q.loc:=by
 induction h with
 | nil=>simp
 | nilr h1 _ ih=>
  intro q hq
  rcases List.mem_cons.1 hq with rfl|hq
  ·exact .inl h1
  ·exact ih q hq
 | own h1 _ ih=>
  intro q hq
  rcases List.mem_cons.1 hq with rfl|hq
  ·exact .inr ⟨_,by simp,h1⟩
  ·rcases ih q hq with h|⟨i,h2,h3⟩
   ·exact .inl h
   ·exact .inr ⟨i,by simp[h2],h3⟩
theorem OI.apart (R:Rel μ S H B w0 w){os:List OwnR}{o:List Nat}(h:OI μ os o):distinct o=true→os.Pairwise ApartR:=by
 induction h with
 | nil=>intro;exact .nil
 | nilr h1 h2 ih=>
  intro hd
  exact List.pairwise_cons.2 ⟨fun q hq b hb=>absurd hb (h1 b),ih hd⟩
 | @own p os i o h1 h2 ih=>
  intro hd
  simp only[distinct,Bool.and_eq_true,Bool.not_eq_true'] at hd
  refine List.pairwise_cons.2 ⟨fun q hq b hb=>?_,ih hd.2⟩
  rcases h2.mem q hq with h|⟨j,hj,h3⟩
  ·exact h b
  ·refine R.sep i j _ _ b (fun e=>?_) h1 h3 hb
   subst e
   have:=List.any_eq_false.1 hd.1 i hj
   simp at this
theorem row_own (R:Rel μ S H B w0 w){i:Nat}{te:TypeId}{e:Ty}{g:Nat}{xs:List e.T}(hi:H i=some (.row te e g xs)){l:Lc}(hm:μ i=some l):OwnOK S w B ⟨l,.row te e xs⟩:=by
 obtain⟨l',h1,h2⟩:=R.obj i _ hi
 have:l'=l:=Option.some.inj (h1.symm.trans hm)
 subst this
 exact⟨R.inn_row hm hi,h2⟩
theorem decOwn_ok (R:Rel μ S H B w0 w){te:TypeId}{e:Ty}{as:List AV}{vs:List Value}{x:List e.T}{r:List AV}{o:List Nat}(hv:VRs μ S H as vs)(h:decOwn H te e as=some (x,r,o)) :
  ∃ cs us os,vs=cs++us∧RdR S (.own te e) x cs os∧VRs μ S H r us∧OI μ os o∧∀ q∈os,OwnOK S w B q:=by
 unfold decOwn at h
 split at h
 ·rename_i i g r'
  split at h
  ·rename_i te' e' g' xs hH
   cases hb:(Nat.beq g g'&&Nat.beq te te') with
   | false=>rw[hb] at h;simp at h
   | true=>
    rw[hb] at h
    simp only[cond_true] at h
    simp only[Bool.and_eq_true] at hb
    have hgg:=Nat.eq_of_beq_eq_true hb.1
    have htt:=Nat.eq_of_beq_eq_true hb.2
    subst htt
    split at h
    ·rename_i ys hc
     cases h
     obtain⟨he,rfl⟩:=castL_eq hc
     subst he
     simp only[VRs] at hv
     obtain⟨v,u,rfl,h1,h2⟩:=hv
     simp only[VR] at h1
     obtain⟨_,l,hm,h3⟩:=h1
     have hv':=(h3 _ _ _ _ hH).2 hgg
     subst hv'
     exact⟨[_],u,[⟨l,.row te e' xs⟩],rfl,⟨l,rfl,rfl⟩,h2,.own hm .nil,by intro q hq;simp at hq;subst hq;exact row_own R hH hm⟩
    ·simp at h
  ·simp at h
 ·cases h
  simp only[VRs,VR] at hv
  obtain⟨v,u,rfl,rfl,h2⟩:=hv
  exact⟨[_],u,[⟨⟨none,0,noInn⟩,.row te e []⟩],rfl,⟨⟨none,0,noInn⟩,rfl,rfl⟩,h2,.nilr (fun b=>by rw[Lc.has_no rfl];simp) .nil,by intro q hq;simp at hq;subst hq;exact⟨rfl,⟨Nat.le_refl _,Nat.zero_le _⟩,.inl ⟨rfl,rfl⟩⟩⟩
 ·rename_i i g a b r'
  split at h
  ·rename_i te' e' g' xs hH
   cases hb:(Nat.beq a 0&&Nat.beq g g'&&Nat.beq te te') with
   | false=>rw[hb] at h;simp at h
   | true=>
    rw[hb] at h
    simp only[cond_true] at h
    simp only[Bool.and_eq_true] at hb
    have haa:=Nat.eq_of_beq_eq_true hb.1.1
    have hgg:=Nat.eq_of_beq_eq_true hb.1.2
    have htt:=Nat.eq_of_beq_eq_true hb.2
    subst htt haa
    split at h
    ·rename_i ys hc
     cases h
     obtain⟨he,rfl⟩:=castL_eq hc
     subst he
     simp only[VRs] at hv
     obtain⟨v,u,rfl,h1,h2⟩:=hv
     simp only[VR] at h1
     obtain⟨_,l,hm,h3⟩:=h1
     obtain⟨p1,p2,ad,rfl,p3,_⟩:=(h3 _ _ _ _ hH).2 hgg
     have had:=p3 (by simp)
     have had':ad=l.addr:=by
      rw[had]
      cases l.addr with
      | none=>rfl
      | some q=>simp[add_zero]
     subst had'
     have hlen:List.length (xs.take b)=b:=by rw[List.length_take];omega
     obtain⟨l',m1,m2⟩:=R.obj i _ hH
     have:l'=l:=Option.some.inj (m1.symm.trans hm)
     subst this
     have hO:=ObjR_take b m2
     refine⟨[_],u,[⟨l',.row te e' (xs.take b)⟩],rfl,⟨l',by rw[hlen];rfl,rfl⟩,h2,.own hm .nil,by intro q hq;simp at hq;subst hq;exact⟨R.inn_row hm hH,hO⟩⟩
    ·simp at h
  ·simp at h
 ·simp at h
def frz (B:Nat)(S:Stable)(w:World):Stable:=fun b=>cond (Nat.ble B b) w.heap[b]? (S b)
theorem frz_sub (R:Rel μ S H B w0 w)(b:Nat)(o:Obj)(h:S b=some o):frz B S w b=some o:=by
 unfold frz
 cases Nat.ble B b with
 | true=>exact R.st b o h
 | false=>exact h
theorem frz_st (R:Rel μ S H B w0 w)(b:Nat)(o:Obj)(h:frz B S w b=some o):w.heap[b]? = some o:=by
 unfold frz at h
 cases hb:Nat.ble B b with
 | true=>rw[hb] at h;exact h
 | false=>rw[hb] at h;exact R.st b o h
theorem rows_frz (R:Rel μ S H B w0 w)(sub:∀ i o,Hv i=some o→H i=some o):RowsOK μ (frz B S w) Hv:=by
 have ge:∀ {i l b},μ i=some l→l.has b→frz B S w b=w.heap[b]?:=fun hm hb=>by
  unfold frz
  rw[Nat.ble_eq_true_of_le (R.geH hm hb).1];rfl
 refine⟨fun i t e g xs l h hm=>?_,fun i t ti q xs l h hm=>?_⟩
 ·obtain⟨l',h1,h2⟩:=R.obj i _ (sub _ _ h)
  have:l'=l:=Option.some.inj (h1.symm.trans hm)
  subst this
  exact RowR_RdS (frz_sub R) (fun b hb=>ge hm (.inl hb)) h2
 ·obtain⟨l',h1,h2⟩:=R.obj i _ (sub _ _ h)
  have:l'=l:=Option.some.inj (h1.symm.trans hm)
  subst this
  exact DeepR_RdS (frz_sub R) (fun b hb=>ge hm hb) h2
omit [Glob] in
theorem noOwn_nil:∀ (t:RTy) (x:t.T) (cs:List Value) (os:List OwnR),t.noOwn=true→RdR S t x cs os→os=[]
 | .val t,x,cs,os,_,h=>h.2
 | .own _ _,x,cs,os,hn,_=>by simp[RTy.noOwn] at hn
 | .pair a b,x,cs,os,hn,h=>by
  simp only[RTy.noOwn,Bool.and_eq_true] at hn
  obtain⟨c,d,o,p,_,rfl,h1,h2⟩:=h
  rw[noOwn_nil a _ _ _ hn.1 h1,noOwn_nil b _ _ _ hn.2 h2];rfl
 | .one a,x,cs,os,hn,h=>noOwn_nil a x cs os hn h
 | .any,x,cs,os,hn,h=>h.2
 | .deep _ _ _,x,cs,os,hn,_=>by simp[RTy.noOwn] at hn
omit [Glob] in
theorem noOwns_nil:∀ {rs:List RTy} {y:Res rs} {us:List Value} {os:List OwnR},noOwns rs=true→RdRs S rs y us os→os=[]
 | [],_,_,_,_,h=>h.2
 | t::ts,y,us,os,hn,h=>by
  simp only[noOwns,Bool.and_eq_true] at hn
  obtain⟨v,r,o,p,_,rfl,h1,h2⟩:=h
  rw[noOwns_nil hn.2 h2,List.append_nil]
  unfold RdRV at h1
  split at h1
  ·obtain⟨cs,_,h1⟩:=h1
   exact noOwn_nil t _ _ _ hn.1 h1
  ·exact noOwn_nil t _ _ _ hn.1 h1
omit [Glob] in
theorem dnAll_app {H:Heap}:∀ {o p:List Nat},dnAll H (o++p)=true→dnAll H o=true∧dnAll H p=true
 | [],_,h=>⟨rfl,h⟩
 | i::o,p,h=>by
  simp only[List.cons_append,dnAll,Bool.and_eq_true] at h ⊢
  obtain⟨h1,h2⟩:=h
  obtain⟨h3,h4⟩:=dnAll_app h2
  exact⟨⟨h1,h3⟩,h4⟩
omit [Glob] in
theorem deep_done {l:Lc}{t ti:TypeId}{xs:List FT}{st:DSt}(h:st.done xs.length=true)(D:DeepR S w B l t ti xs st):DeepR S w B l t ti xs .own:=by
 cases st with
 | own=>exact D
 | stale _=>simp[DSt.done] at h
 | late _=>simp[DSt.done] at h
 | lent m=>
  simp only[DSt.done,decide_eq_true_eq] at h
  have lt:∀ (k:Nat) (x:FT),xs[k]? = some x→k<m:=fun k x hx=>by
   have:=(List.getElem?_eq_some_iff.1 hx).1
   omega
  refine⟨D.len,fun k hk=>D.out k (hk.imp id fun h=>absurd trivial h),fun k x hx _=>D.row k x hx (lt k x hx),D.one,D.off,D.cel.imp id fun⟨b,cs,e1,q1,q2,q3,q4,q5⟩=>⟨b,cs,e1,q1,q2,q3,q4,fun k x hx=>?_⟩⟩
  obtain⟨f0,f2,v,f1,f3,f4,_⟩:=q5 k x hx
  exact⟨f0,f2,v,f1,f3,fun _=>f4 (lt k x hx),fun h=>absurd trivial h⟩
theorem decR_ok (R:Rel μ S H B w0 w)(hS:∀ b o,S b=some o→S' b=some o)(hrow:RowsOK μ S' Hv)(sub:∀ i o,Hv i=some o→H i=some o) :
  ∀ (t:RTy) (as:List AV) (vs:List Value) (x:t.T) (r:List AV) (o:List Nat),VRs μ S H as vs→decR Hv H t as=some (x,r,o)→dnAll H o=true →
  ∃ cs us os,vs=cs++us∧RdR S' t x cs os∧VRs μ S H r us∧OI μ os o∧∀ q∈os,OwnOK S w B q
 | .val t,as,vs,x,r,o,hv,h,hdn=>by
  simp only[decR] at h
  split at h
  ·rename_i y r' hd
   cases h
   obtain⟨cs,us,h1,h2,h3⟩:=dec_Rd (S':=S') (H:=H) hS hrow sub t as vs _ _ hv hd
   exact⟨cs,us,[],h1,⟨h2,rfl⟩,h3,.nil,by simp⟩
  ·simp at h
 | .own te e,as,vs,x,r,o,hv,h,hdn=>decOwn_ok R hv h
 | .pair a b,as,vs,x,r,o,hv,h,hdn=>by
  simp only[decR] at h
  split at h
  ·rename_i y l' o1 h1
   split at h
   ·rename_i z l'' o2 h2
    cases h
    obtain⟨d1,d2⟩:=dnAll_app hdn
    obtain⟨c1,u1,os1,e1,k1,r1,i1,w1⟩:=decR_ok R hS hrow sub a as vs y l' o1 hv h1 d1
    obtain⟨c2,u2,os2,e2,k2,r2,i2,w2⟩:=decR_ok R hS hrow sub b l' u1 z _ o2 r1 h2 d2
    refine⟨c1++c2,u2,os1++os2,by rw[e1,e2,List.append_assoc],⟨c1,c2,os1,os2,rfl,rfl,k1,k2⟩,r2,i1.append i2,fun q hq=>?_⟩
    rcases List.mem_append.1 hq with h|h
    ·exact w1 q h
    ·exact w2 q h
   ·simp at h
  ·simp at h
 | .one a,as,vs,x,r,o,hv,h,hdn=>by
  simp only[decR] at h
  exact decR_ok R hS hrow sub a as vs x r o hv h hdn
 | .any,as,vs,x,r,o,hv,h,_=>by simp[decR] at h
 | .deep _ _ true,as,vs,x,r,o,hv,h,_=>by simp[decR] at h
 | .deep te ti false,as,vs,x,r,o,hv,h,hdn=>by
  simp only[decR] at h
  unfold decDeep at h
  split at h
  case h_2=>simp at h
  rename_i i r'
  split at h
  case h_2=>simp at h
  rename_i te' ti' q xs st hH
  obtain⟨hc,he⟩:=cond_some h
  cases he
  simp only[Bool.and_eq_true] at hc
  have c1:=Nat.eq_of_beq_eq_true hc.1
  have c2:=Nat.eq_of_beq_eq_true hc.2
  subst c1 c2
  simp only[VRs] at hv
  obtain⟨v,u,rfl,h1,h2⟩:=hv
  simp only[VR] at h1
  obtain⟨_,l,hm,h3⟩:=h1
  have hv':=h3 _ _ _ _ _ hH
  subst hv'
  have hd:st.done (List.length x)=true:=by
   simp only[dnAll,hH,Bool.and_true] at hdn
   exact hdn
  exact⟨[_],u,[⟨l,.deep te ti false x⟩],rfl,⟨l,rfl,rfl⟩,h2,.own hm .nil,by intro q hq;simp at hq;subst hq;exact deep_done hd (deepOf R hH hm)⟩
theorem decRV_ok (R:Rel μ S H B w0 w)(hS:∀ b o,S b=some o→S' b=some o)(hrow:RowsOK μ S' Hv)(sub:∀ i o,Hv i=some o→H i=some o)
  {t:RTy} {a:AV} {v:Value} {x:t.T} {o:List Nat} (hv:VR μ S H a v) (h:decRV Hv H t a=some (x,o)) (hdn:dnAll H o=true) :
  ∃ os,RdRV S' t x v os∧OI μ os o∧∀ q∈os,OwnOK S w B q:=by
 unfold decRV at h
 cases hb:(t.isAgg == a.isAgg) with
 | false=>rw[hb] at h;simp at h
 | true=>
  rw[hb] at h
  simp only[cond_true] at h
  have hta:t.isAgg=a.isAgg:=by simpa using hb
  split at h
  ·rename_i y o' hd
   cases h
   unfold RdRV
   rw[hta]
   cases ha:a.isAgg with
   | true=>
    simp only[if_true]
    cases a<;>simp only[AV.isAgg,reduceCtorEq] at ha
    simp only[VR] at hv
    obtain⟨vs,rfl,hvs⟩:=hv
    obtain⟨c,u,os,e1,k1,k2,k3,k4⟩:=decR_ok R hS hrow sub t _ vs.toList _ [] _ hvs hd hdn
    simp only[VRs] at k2
    subst k2
    rw[List.append_nil] at e1
    exact⟨os,⟨vs,rfl,by rw[e1];exact k1⟩,k3,k4⟩
   | false=>
    simp only[Bool.false_eq_true,if_false]
    have base:VRs μ S H a.inside [v]:=by
     cases a<;>first|(simp[AV.isAgg] at ha;done)|(simp only[AV.inside,VRs];exact⟨v,[],rfl,hv,rfl⟩)
    obtain⟨c,u,os,e1,k1,k2,k3,k4⟩:=decR_ok R hS hrow sub t _ [v] _ [] _ base hd hdn
    simp only[VRs] at k2
    subst k2
    rw[List.append_nil] at e1
    exact⟨os,by rw[e1];exact k1,k3,k4⟩
  ·simp at h
theorem decRs_ok (R:Rel μ S H B w0 w)(hS:∀ b o,S b=some o→S' b=some o)(hrow:RowsOK μ S' Hv)(sub:∀ i o,Hv i=some o→H i=some o) :
  ∀ {rs:List RTy} {as:List AV} {vs:List Value} {y:Res rs} {o:List Nat},VRs μ S H as vs→decRs Hv H rs as=some (y,o)→dnAll H o=true →
  ∃ os,RdRs S' rs y vs os∧OI μ os o∧(∀ q∈os,OwnOK S w B q)∧vs.length=rs.length
 | [],[],vs,y,o,hv,h,_=>by
  simp only[VRs] at hv;subst hv
  simp only[decRs,Option.some.injEq,Prod.mk.injEq] at h
  obtain⟨_,rfl⟩:=h
  exact⟨[],⟨rfl,rfl⟩,.nil,by simp,rfl⟩
 | [],_::_,vs,y,o,hv,h,_=>by simp[decRs] at h
 | t::ts,[],vs,y,o,hv,h,_=>by simp[decRs] at h
 | t::ts,a::as,vs,y,o,hv,h,hdn=>by
  simp only[decRs] at h
  split at h
  ·rename_i x o1 h1
   split at h
   ·rename_i z o2 h2
    cases h
    simp only[VRs] at hv
    obtain⟨v,r,rfl,k1,k2⟩:=hv
    obtain⟨d1,d2⟩:=dnAll_app hdn
    obtain⟨os1,a1,a2,a3⟩:=decRV_ok R hS hrow sub k1 h1 d1
    obtain⟨os2,b1,b2,b3,b4⟩:=decRs_ok R hS hrow sub k2 h2 d2
    refine⟨os1++os2,⟨v,r,os1,os2,rfl,rfl,a1,b1⟩,a2.append b2,fun q hq=>?_,by simp[b4]⟩
    rcases List.mem_append.1 hq with h|h
    ·exact a3 q h
    ·exact b3 q h
   ·simp at h
  ·simp at h
theorem decEnd_ok {w w':World}{S S':Stable}{μ':Mu}{H':Heap}{L':List Nat}{v:AV}{u:Value}{rs:List RTy}{y:Res rs}(R':Rel μ' S' H' w.heap.size w w')
  (C':Carry w.heap.size (fun _=>none) S (fun _=>none) μ' S' H') (k1:VR μ' S' H' v u) (ht:decEnd rs (some (v,H',L'))=some y) :
  ∃ us S' os,Ending.returned u = .returned (resVal us)∧Below w.heap.size w w'∧(∀ b o,S b=some o→S' b=some o) ∧
   (∀ b o,S' b=some o→w'.heap[b]? = some o)∧(∀ b,S' b≠none→S b≠none∨w.heap.size≤b)∧RdRs S' rs y us os ∧
   (∀ o∈os,OwnOK S' w' w.heap.size o)∧os.Pairwise ApartR:=by
 simp only[decEnd] at ht
 obtain⟨hnp,ht⟩:=cond_no ht
 split at ht
 case h_2=>simp at ht
 rename_i y' o hd
 obtain⟨hdis,rfl⟩:=cond_some ht
 simp only[Bool.and_eq_true] at hdis
 obtain⟨hdis,hdn⟩:=hdis
 have hparts:∃ us,VRs μ' S' H' (v.parts rs.length) us∧(us.length=rs.length→u=resVal us):=by
  have one:VRs μ' S' H' [v] [u]:=by simp only[VRs];exact⟨u,[],rfl,k1,rfl⟩
  cases v with
  | tup as=>
   simp only[AV.parts]
   cases hb:Nat.beq rs.length 1 with
   | true=>exact⟨[u],one,fun _=>rfl⟩
   | false=>
    simp only[VR] at k1
    obtain⟨x,rfl,k2⟩:=k1
    refine⟨x.toList,k2,fun hl=>?_⟩
    have hne:rs.length≠1:=fun e=>by rw[e] at hb;simp at hb
    match hx:x.toList with
    | []=>simp only[resVal];rw[← hx]
    | [z]=>rw[hx] at hl;simp at hl;omega
    | z1::z2::l=>simp only[resVal];rw[← hx]
  | _=>exact⟨[u],one,fun _=>rfl⟩
 obtain⟨us,hus,hu⟩:=hparts
 cases hno:noOwns rs with
 | false=>
  rw[hno] at hd
  obtain⟨os,q1,q2,q3,q4⟩:=decRs_ok (S':=S') R' (fun b o h=>h) RowsOK.no (fun i o h=>by simp at h) hus hd hdn
  exact⟨us,S',os,by rw[hu q4],R'.below,C'.sub,R'.st,fun b hb=>C'.st b hb,q1,q3,q2.apart R' hdis⟩
 | true=>
  rw[hno] at hd
  obtain⟨os,q1,q2,q3,q4⟩:=decRs_ok (S':=frz w.heap.size S' w') R' (frz_sub R') (rows_frz R' (fun _ _ h=>h)) (fun i o h=>h) hus hd hdn
  have:=noOwns_nil hno q1
  subst this
  refine⟨us,frz w.heap.size S' w',[],by rw[hu q4],R'.below,fun b o h=>frz_sub R' b o (C'.sub b o h),fun b o h=>frz_st R' b o h,fun b hb=>?_,q1,by simp,.nil⟩
  unfold frz at hb
  cases hble:Nat.ble w.heap.size b with
  | true=>exact .inr (Nat.le_of_ble_eq_true hble)
  | false=>rw[hble] at hb;exact C'.st b hb
theorem con_of_top {C:Cons}{Hn:Hints}(hC:TabsOK P C){lf n k:Nat}{c:Con}(h:∀ x y,c.f x=some y→top P C Hn lf n k c.ps c.rs x=some y):c.OK P k:=by
 intro x y hf S w vs hst hpre ha
 have ht:=h x y hf
 unfold top at ht
 cases he:exFun P C Hn lf n 0 (.fn k) (encArgs c.ps x) (fun _=>none) [] with
 | none=>rw[he] at ht;simp[decEnd] at ht
 | some p=>
  obtain⟨v,H',L'⟩:=p
  rw[he] at ht
  have R0:Rel (fun _=>none) S (fun _=>none) w.heap.size w w:=⟨Below.refl _ _,Nat.le_refl _,hst,fun _=>rfl,fun _ _ h=>by simp at h,fun _ _ _ _ _ _ h=>by simp at h,fun _ _ h=>by simp at h,hpre⟩
  refine RunC.mono (c:=.fn k) ((exFun_ok hC n 0 (.fn k) _ _ _ _ _ _ he (fun _ h=>absurd rfl h)).2 (fun _=>none) S w.heap.size w w vs.toArray R0 (by simpa using encArgs_VRs ha)) ?_
  rintro e w' ⟨μ',S',q0,R',C'⟩
  obtain⟨u,rfl,k1⟩:=q0.val (by
   have ht':=ht
   simp only[decEnd] at ht'
   exact (cond_no ht').1)
  exact decEnd_ok R' C' k1 ht
end
end Go.Sy
