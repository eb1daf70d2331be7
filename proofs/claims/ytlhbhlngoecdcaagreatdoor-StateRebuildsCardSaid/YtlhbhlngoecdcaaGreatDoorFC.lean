/- Sym12, Sym12b, Sym12c, Sym13, Sym14, Sym15. -/
import Derived.Test.YtlhbhlngoecdcaaGreatDoorFB
import Derived.RangeFuncRecord
namespace Go.Sy
open Go Go.RowKit
set_option linter.unusedSimpArgs false
set_option linter.unusedVariables false
def mem (L:List Nat)(i:Nat):Bool:=L.any (Nat.beq i)
theorem mem_iff {L:List Nat}{i:Nat}:mem L i=true↔i∈L:=by
 unfold mem
 rw[List.any_eq_true]
 exact⟨fun⟨x,h1,h2⟩=>by rw[Nat.eq_of_beq_eq_true h2];exact h1,fun h=>⟨i,h,by simp⟩⟩
def distinct:List Nat→Bool
 | []=>true
 | i::l=>!(l.any fun j=>Nat.beq i j)&&distinct l
mutual
def AV.bL (L:List Nat):AV→Bool
 | .ptr i _=>mem L i
 | .Fm i _ _ _=>mem L i
 | .sl i _=>mem L i
 | .sub i _ _ _=>mem L i
 | .UM i _=>mem L i
 | .jZ i=>mem L i
 | .mp i=>mem L i
 | .fn _ a b=>iC L a&&iC L b
 | .Db _ a=>a.bL L
 | .agg l=>iC L l
 | .A8 l=>iC L l
 | _=>true
def iC (L:List Nat):List AV→Bool
 | []=>true
 | a::l=>a.bL L&&iC L l
end
def clean (L:List Nat)(a:AV):AV:=cond (a.bL L) a .aq
def zF (L:List Nat):bq→bq
 | .box t cs=>.box t (cs.map (clean L))
 | .row t e g xs=>.row t e g xs
 | .fB s pos=>.fB s pos
 | .loop k r st ts=>.loop k r st (ts.map (clean L))
 | .map es=>.map es
inductive Pl where
 | t (slot:Nat)
 | c (box off:Nat)
structure bF where
 at':Pl
 id:Nat
 te:TypeId
 e:Ty
structure Hint where
 keep:List Nat
 ids:List Nat
 rows:List bF
structure tv where
 top:Hint
 out:Option Hint
 ret:Option Hint
 gm:List (Nat×Nat×Nat):=[]
def lkT:List (Nat×AV)→Nat→AV
 | [],_=>.aq
 | (t,v)::l,q=>cond (Nat.beq q t) v (lkT l q)
def On:List (Nat×Option bq)→Heap
 | [],_=>none
 | (i,o)::l,q=>cond (Nat.beq q i) o (On l q)
structure Src where
 id:Nat
 src:Option Nat
 te:TypeId
 e:Ty
 xs:List e.T
def PV:List AV→Nat→AV
 | [],_=>.aq
 | a::_,0=>a
 | _::l,n+1=>PV l n
def N0:Option bq→Nat→AV
 | some (.box _ cs),off=>PV cs off
 | _,_=>.aq
def St.tu (σ:St):Pl→AV
 | .t s=>σ.val (.tmp s)
 | .c i off=>N0 (σ.heap i) off
def GD:List bF→List (Nat×AV)
 | []=>[]
 | r::rs=>match r.at' with
  | .t s=>(s,AV.sl r.id 0)::GD rs
  | .c _ _=>GD rs
def OV:List bF→Nat→List AV→List AV
 | [],_,cs=>cs
 | r::rs,i,cs=>match r.at' with
  | .t _=>OV rs i cs
  | .c b off=>OV rs i (cond (Nat.beq b i) (cs.set off (AV.sl r.id 0)) cs)
def mz (rs:List bF)(L:List Nat)(i:Nat):bq→bq
 | .box t cs=>.box t (OV rs i (cs.map (clean L)))
 | o=>zF L o
def JI (σ:St)(r:bF):Option Src:=
 match σ.tu r.at' with
 | .lit (.slice none 0 0)=>some ⟨r.id,none,r.te,r.e,[]⟩
 | .sl a g=>match σ.heap a with
  | some (.row te e g' xs)=>cond (Nat.beq g g'&&Nat.beq te r.te) (match jv (e:=e) (e':=r.e) xs with
   | some ys=>some ⟨r.id,some a,r.te,r.e,ys⟩
   | none=>none) none
  | _=>none
 | _=>none
def Jn (σ:St):List bF→Option (List Src)
 | []=>some []
 | r::rs=>match JI σ r,Jn σ rs with
  | some s,some l=>some (s::l)
  | _,_=>none
def Src.list (l:List Src):List Nat:=l.filterMap (·.src)
def head (od:List Nat)(h:Hint)(σ:St):Option St:=
 match Jn σ h.rows with
 | none=>none
 | some l=>cond (distinct (Src.list l)&&distinct (l.map (·.id))&&l.all (fun s=>!mem (od++h.ids) s.id)&&(Src.list l).all (fun a=>!mem (od++h.ids) a))
   (some ⟨σ.nt,lkT (GD h.rows++h.keep.map (fun t=>(t,clean (od++h.ids) (σ.val (.tmp t))))),
    On (l.map (fun s=>(s.id,some (.row s.te s.e 0 s.xs)))++(od++h.ids).map (fun i=>(i,(σ.heap i).map (mz h.rows (od++h.ids) i)))),
    (od++h.ids)++l.map (·.id)⟩) none
section
variable [ar]{N:an}{Dt:Bool×List Deferred}{w w0:World}{μ μ' μo:Mu}{S So:an}{H H' Ho:Heap}{B:Nat}{L:List Nat}{σ σ':St}{a:Act}
structure Ag (L:List Nat)(μ:Mu)(H:Heap)(μ':Mu)(H':Heap):Prop where
 mu:∀ i∈L,μ' i=μ i
 ob:∀ i∈L,∀ t e g xs,H' i=some (.row t e g xs)→H i=some (.row t e g xs)
omit [ar] in
theorem Ag.row {L:List Nat}(h:Ag L μ H μ' H'){i:Nat}(hi:i∈L){t:TypeId}{e:Ty}{g:Nat}{xs:List e.T}(hr:H' i=some (.row t e g xs)):H i=some (.row t e g xs):=h.ob i hi t e g xs hr
omit [ar] in
theorem Gr {rs:List bF}{L:List Nat}{i:Nat}{o:Option bq}{t:TypeId}{e:Ty}{g:Nat}{xs:List e.T}(hr:o.map (mz rs L i)=some (.row t e g xs)):o=some (.row t e g xs):=by
 cases o with
 | none=>simp at hr
 | some o=>
  simp only[Option.map_some,Option.some.injEq] at hr
  cases o with
  | row t' e' g' xs'=>simp only[mz,zF] at hr;rw[hr]
  | _=>simp[mz,zF] at hr
omit [ar] in
mutual
theorem MG (h:Ag L μ H μ' H'):∀ (a:AV) (v:Value),a.bL L=true→VR μ S H a v→VR μ' S H' a v
 | .lit _,v,_,hr=>by simp only[VR] at hr ⊢;exact hr
 | .ptr i off,v,hl,hr=>by
  simp only[AV.bL] at hl
  have hi:=mem_iff.1 hl
  simp only[VR] at hr ⊢
  obtain⟨b,c,h1,h2,h3⟩:=hr
  exact⟨b,c,by rw[h.mu i hi];exact h1,fun t e g xs hH=>h2 t e g xs (h.row hi hH),h3⟩
 | .NK e x off,v,_,hr=>by simp only[VR] at hr ⊢;exact hr
 | .Fm i g k off,v,hl,hr=>by
  simp only[AV.bL] at hl
  have hi:=mem_iff.1 hl
  simp only[VR] at hr ⊢
  obtain⟨h0,l,h1,h2⟩:=hr
  exact⟨h0,l,by rw[h.mu i hi];exact h1,fun t e gc xs hH=>h2 t e gc xs (h.row hi hH)⟩
 | .cont e xs,v,_,hr=>by simp only[VR] at hr ⊢;exact hr
 | .sl i g,v,hl,hr=>by
  simp only[AV.bL] at hl
  have hi:=mem_iff.1 hl
  simp only[VR] at hr ⊢
  obtain⟨h0,l,h1,h2⟩:=hr
  exact⟨h0,l,by rw[h.mu i hi];exact h1,fun t e gc xs hH=>h2 t e gc xs (h.row hi hH)⟩
 | .sub i g lo hi,v,hl,hr=>by
  simp only[AV.bL] at hl
  have hi:=mem_iff.1 hl
  simp only[VR] at hr ⊢
  obtain⟨h0,l,h1,h2⟩:=hr
  exact⟨h0,l,by rw[h.mu i hi];exact h1,fun t e gc xs hH=>h2 t e gc xs (h.row hi hH)⟩
 | .UM i n,v,hl,hr=>by
  simp only[AV.bL] at hl
  have hi:=mem_iff.1 hl
  simp only[VR] at hr ⊢
  obtain⟨b,c,h1,h2,h3⟩:=hr
  exact⟨b,c,by rw[h.mu i hi];exact h1,fun t e g xs hH=>h2 t e g xs (h.row hi hH),h3⟩
 | .jZ i,v,hl,hr=>by
  simp only[AV.bL] at hl
  have hi:=mem_iff.1 hl
  simp only[VR] at hr ⊢
  obtain⟨b,c,h1,h2,h3⟩:=hr
  exact⟨b,c,by rw[h.mu i hi];exact h1,fun t e g xs hH=>h2 t e g xs (h.row hi hH),h3⟩
 | .mp i,v,hl,hr=>by
  simp only[AV.bL] at hl
  have hi:=mem_iff.1 hl
  simp only[VR] at hr ⊢
  obtain⟨b,c,h1,h2,h3⟩:=hr
  exact⟨b,c,by rw[h.mu i hi];exact h1,fun t e g xs hH=>h2 t e g xs (h.row hi hH),h3⟩
 | .fn f fi ca,v,hl,hr=>by
  simp only[AV.bL,Bool.and_eq_true] at hl
  simp only[VR] at hr ⊢
  obtain⟨x,y,h1,h2,h3⟩:=hr
  exact⟨x,y,h1,Ap h fi _ hl.1 h2,Ap h ca _ hl.2 h3⟩
 | .agg cs,v,hl,hr=>by
  simp only[AV.bL] at hl
  simp only[VR] at hr ⊢
  obtain⟨x,h1,h2⟩:=hr
  exact⟨x,h1,Ap h cs _ hl h2⟩
 | .A8 cs,v,hl,hr=>by
  simp only[AV.bL] at hl
  simp only[VR] at hr ⊢
  obtain⟨x,h1,h2⟩:=hr
  exact⟨x,h1,Ap h cs _ hl h2⟩
 | .Db t a,v,hl,hr=>by
  simp only[AV.bL] at hl
  simp only[VR] at hr ⊢
  obtain⟨u,h1,h2⟩:=hr
  exact⟨u,h1,MG h a _ hl h2⟩
 | .gh _,_,_,hr=>by simp only[VR] at hr
 | .YZ,_,_,hr=>by simpa only [VR] using hr
 | .aq,_,_,_=>by simp only[VR]
theorem Ap (h:Ag L μ H μ' H'):∀ (as:List AV) (vs:List Value),iC L as=true→aP μ S H as vs→aP μ' S H' as vs
 | [],vs,_,hr=>by simp only[aP] at hr ⊢;exact hr
 | a::as,vs,hl,hr=>by
  simp only[iC,Bool.and_eq_true] at hl
  simp only[aP] at hr ⊢
  obtain⟨v,r,h1,h2,h3⟩:=hr
  exact⟨v,r,h1,MG h a v hl.1 h2,Ap h as r hl.2 h3⟩
end
omit [ar] in
theorem FX (h:Ag L μ H μ' H'){a:AV}{v:Value}(hr:VR μ S H a v):VR μ' S H' (clean L a) v:=by
 unfold clean
 cases hl:a.bL L with
 | true=>exact MG h a v hl hr
 | false=>simp only[cond_false,VR]
omit [ar] in
theorem uJ (h:Ag L μ H μ' H'):∀ {as:List AV} {vs:List Value},aP μ S H as vs→aP μ' S H' (as.map (clean L)) vs
 | [],vs,hr=>by simp only[aP] at hr;subst hr;simp[aP]
 | a::as,vs,hr=>by
  simp only[aP] at hr
  obtain⟨v,r,rfl,h2,h3⟩:=hr
  simp only[List.map_cons,aP]
  exact⟨v,r,rfl,FX h h2,uJ h h3⟩
omit [ar] in
mutual
theorem x7 (h:∀ i,μ i≠none→i∈L):∀ (a:AV) (v:Value),VR μ S H a v→a.bL L=true
 | .lit _,v,_=>rfl
 | .ptr i off,v,hr=>by
  simp only[VR] at hr
  obtain⟨b,c,h1,_⟩:=hr
  simp only[AV.bL];exact mem_iff.2 (h i (by rw[h1];simp))
 | .NK e x off,v,_=>rfl
 | .Fm i g k off,v,hr=>by
  simp only[VR] at hr
  obtain⟨_,l,h1,_⟩:=hr
  simp only[AV.bL];exact mem_iff.2 (h i (by rw[h1];simp))
 | .cont e xs,v,_=>rfl
 | .sl i g,v,hr=>by
  simp only[VR] at hr
  obtain⟨_,l,h1,_⟩:=hr
  simp only[AV.bL];exact mem_iff.2 (h i (by rw[h1];simp))
 | .sub i g lo hi,v,hr=>by
  simp only[VR] at hr
  obtain⟨_,l,h1,_⟩:=hr
  simp only[AV.bL];exact mem_iff.2 (h i (by rw[h1];simp))
 | .UM i n,v,hr=>by
  simp only[VR] at hr
  obtain⟨b,c,h1,_⟩:=hr
  simp only[AV.bL];exact mem_iff.2 (h i (by rw[h1];simp))
 | .jZ i,v,hr=>by
  simp only[VR] at hr
  obtain⟨b,c,h1,_⟩:=hr
  simp only[AV.bL];exact mem_iff.2 (h i (by rw[h1];simp))
 | .mp i,v,hr=>by
  simp only[VR] at hr
  obtain⟨b,c,h1,_⟩:=hr
  simp only[AV.bL];exact mem_iff.2 (h i (by rw[h1];simp))
 | .fn f fi ca,v,hr=>by
  simp only[VR] at hr
  obtain⟨x,y,h1,h2,h3⟩:=hr
  simp only[AV.bL,Bool.and_eq_true]
  exact⟨oV h fi _ h2,oV h ca _ h3⟩
 | .agg cs,v,hr=>by
  simp only[VR] at hr
  obtain⟨x,_,h2⟩:=hr
  simp only[AV.bL];exact oV h cs _ h2
 | .A8 cs,v,hr=>by
  simp only[VR] at hr
  obtain⟨x,_,h2⟩:=hr
  simp only[AV.bL];exact oV h cs _ h2
 | .Db t a,v,hr=>by
  simp only[VR] at hr
  obtain⟨u,_,h2⟩:=hr
  simp only[AV.bL];exact x7 h a _ h2
 | .gh _,_,hr=>by simp only[VR] at hr
 | .YZ,_,_=>rfl
 | .aq,_,_=>rfl
theorem oV (h:∀ i,μ i≠none→i∈L):∀ (as:List AV) (vs:List Value),aP μ S H as vs→iC L as=true
 | [],vs,_=>rfl
 | a::as,vs,hr=>by
  simp only[aP] at hr
  obtain⟨v,r,_,h2,h3⟩:=hr
  simp only[iC,Bool.and_eq_true]
  exact⟨x7 h a v h2,oV h as r h3⟩
end
omit [ar] in
theorem TU {μ:Mu}{S:an}{H:Heap}{f:Nat→Value}:∀ (l:List (Nat×AV)),(∀ p∈l,VR μ S H p.2 (f p.1))→∀ t,VR μ S H (lkT l t) (f t)
 | [],_,t=>by simp only[lkT,VR]
 | (q,v)::l,h,t=>by
  simp only[lkT]
  cases hb:Nat.beq t q with
  | true=>
   have:=Nat.eq_of_beq_eq_true hb
   subst this
   exact h (t,v) (by simp)
  | false=>exact TU l (fun p hp=>h p (by simp[hp])) t
omit [ar] in
theorem M4 {f:Nat→Option bq}:∀ (l:List Nat) (q:Nat),On (l.map fun i=>(i,f i)) q=cond (mem l q) (f q) none
 | [],q=>rfl
 | i::l,q=>by
  simp only[List.map_cons,On]
  cases hb:Nat.beq q i with
  | true=>
   have:=Nat.eq_of_beq_eq_true hb
   subst this
   have:mem (q::l) q=true:=mem_iff.2 (by simp)
   rw[this];rfl
  | false=>
   have hne:q≠i:=fun e=>by subst e;simp at hb
   rw[M4 l q]
   have:mem (i::l) q=mem l q:=by
    rw[Bool.eq_iff_iff,mem_iff,mem_iff];simp[hne]
   rw[this];rfl
omit [ar] in
theorem Oa {g:Src→Option bq}{rest:List (Nat×Option bq)}:∀ (l:List Src) (s:Src),s∈l→distinct (l.map (·.id))=true→On (l.map (fun s=>(s.id,g s))++rest) s.id=g s
 | [],s,h,_=>by simp at h
 | p::l,s,h,hd=>by
  simp only[List.map_cons,distinct,Bool.and_eq_true,Bool.not_eq_true'] at hd
  simp only[List.map_cons,List.cons_append,On]
  rcases List.mem_cons.1 h with rfl|h
  ·simp
  ·have hne:Nat.beq s.id p.id=false:=by
    cases hb:Nat.beq s.id p.id with
    | false=>rfl
    | true=>
     have e:=Nat.eq_of_beq_eq_true hb
     have:=List.any_eq_false.1 hd.1 s.id (List.mem_map.2 ⟨s,h,rfl⟩)
     rw[e] at this;simp at this
   rw[hne]
   exact Oa l s h hd.2
omit [ar] in
theorem Iq {g:Src→Option bq}{rest:List (Nat×Option bq)}:∀ (l:List Src) (q:Nat),q∉l.map (·.id)→On (l.map (fun s=>(s.id,g s))++rest) q=On rest q
 | [],q,_=>rfl
 | p::l,q,h=>by
  simp only[List.map_cons,List.mem_cons,not_or] at h
  simp only[List.map_cons,List.cons_append,On]
  have hne:Nat.beq q p.id=false:=by
   cases hb:Nat.beq q p.id with
   | false=>rfl
   | true=>exact absurd (Nat.eq_of_beq_eq_true hb) h.1
  rw[hne]
  exact Iq l q h.2
def Src.loc (μ:Mu)(s:Src):Option Lc:=
 match s.src with
 | none=>some ⟨none,0⟩
 | some a=>μ a
def muH (l:List Src)(L:List Nat)(μ:Mu):Mu:=fun q=>
 match l.find? (fun s=>Nat.beq s.id q) with
 | some s=>s.loc μ
 | none=>cond (mem L q) (μ q) none
omit [ar] in
theorem WJ:∀ (l:List Src) (s:Src),s∈l→distinct (l.map (·.id))=true→muH l L μ s.id=s.loc μ:=by
 intro l s hs hd
 unfold muH
 have:l.find? (fun p=>Nat.beq p.id s.id)=some s:=by
  induction l with
  | nil=>simp at hs
  | cons p l ih=>
   simp only[List.map_cons,distinct,Bool.and_eq_true,Bool.not_eq_true'] at hd
   rcases List.mem_cons.1 hs with rfl|hs
   ·simp
   ·have hne:Nat.beq p.id s.id=false:=by
     cases hb:Nat.beq p.id s.id with
     | false=>rfl
     | true=>
      have e:=Nat.eq_of_beq_eq_true hb
      have:=List.any_eq_false.1 hd.1 s.id (List.mem_map.2 ⟨s,hs,rfl⟩)
      rw[e] at this;simp at this
    rw[List.find?_cons,hne]
    exact ih hs hd.2
 rw[this]
omit [ar] in
theorem Ur {l:List Src}{q:Nat}(h:q∉l.map (·.id)):muH l L μ q=cond (mem L q) (μ q) none:=by
 unfold muH
 have:l.find? (fun p=>Nat.beq p.id q)=none:=by
  rw[List.find?_eq_none]
  intro p hp hb
  exact h (List.mem_map.2 ⟨p,hp,Nat.eq_of_beq_eq_true hb⟩)
 rw[this]
structure YN (H:Heap)(s:Src):Prop where
 nil:s.src=none→s.xs=[]
 row:∀ a,s.src=some a→∃ g,H a=some (.row s.te s.e g s.xs)
omit [ar] in
theorem Ef:∀ {as:List AV} {vs:List Value},aP μ S H as vs→∀ (n:Nat),VR μ S H (PV as n) (vs.getD n undef)
 | [],vs,h,n=>by simp only[PV,VR]
 | a::as,vs,h,n=>by
  simp only[aP] at h
  obtain⟨v,r,rfl,h1,h2⟩:=h
  cases n with
  | zero=>simpa [PV] using h1
  | succ n=>simpa [PV] using Ef h2 n
theorem Ub (A:AR N Dt μ S σ a)(R:Rel μ S σ.heap B w0 w)(p:Pl):∃ v,VR μ S σ.heap (σ.tu p) v:=by
 cases p with
 | t s=>exact⟨_,A.val (.tmp s)⟩
 | c i off=>
  simp only[St.tu]
  cases ho:σ.heap i with
  | none=>exact⟨undef,by simp only[N0,VR]⟩
  | some o=>
   cases o with
   | box t cs=>
    obtain⟨l,_,b,vs,_,_,_,_,h5⟩:=R.obj i _ ho
    exact⟨_,Ef h5 off⟩
   | _=>exact⟨undef,by simp only[N0,VR]⟩
omit [ar] in
theorem Tp {r:bF}{s:Src}{v:Value}(hv:VR μ S σ.heap (σ.tu r.at') v)(h:JI σ r=some s) :
  s.id=r.id∧YN σ.heap s∧∃ l,s.loc μ=some l∧∀ v,VR μ S σ.heap (σ.tu r.at') v→v = .slice l.addr s.xs.length l.cap:=by
 unfold JI at h
 split at h
 ·rename_i hx
  cases h
  refine⟨rfl,⟨fun _=>rfl,fun a h=>by simp at h⟩,⟨none,0⟩,rfl,fun v hv=>?_⟩
  rw[hx] at hv
  simp only[VR] at hv
  exact hv
 ·rename_i i g hx
  split at h
  ·rename_i te e g' xs hH
   cases hb:(Nat.beq g g'&&Nat.beq te r.te) with
   | false=>rw[hb] at h;simp at h
   | true=>
    rw[hb] at h
    simp only[cond_true] at h
    simp only[Bool.and_eq_true] at hb
    have hgg:=Nat.eq_of_beq_eq_true hb.1
    have htt:=Nat.eq_of_beq_eq_true hb.2
    split at h
    ·rename_i ys hc
     obtain⟨he,hys⟩:=cQ hc
     obtain⟨sl,id0,te0,e0⟩:=r
     simp only at htt he hys
     subst htt
     subst he
     simp only at hys
     subst hys
     cases h
     have hv':=hv
     rw[hx] at hv'
     simp only[VR] at hv'
     obtain⟨_,l,hm,h3⟩:=hv'
     refine⟨rfl,⟨fun h=>by simp at h,fun a h=>by cases h;exact⟨g',hH⟩⟩,l,hm,fun v hv=>?_⟩
     rw[hx] at hv
     simp only[VR] at hv
     obtain⟨_,l',hm',h3'⟩:=hv
     rw[hm] at hm'
     cases hm'
     exact (h3' _ _ _ _ hH).2 hgg
    ·simp at h
  ·simp at h
 ·simp at h
theorem NS (A:AR N Dt μ S σ a)(R:Rel μ S σ.heap B w0 w):∀ {rs:List bF} {l:List Src},Jn σ rs=some l →
  (∀ s∈l,YN σ.heap s∧(s.loc μ).isSome=true)∧(∀ r∈rs,∃ s∈l,s.id=r.id∧∃ lc,s.loc μ=some lc∧∀ v,VR μ S σ.heap (σ.tu r.at') v→v = .slice lc.addr s.xs.length lc.cap)
 | [],l,h=>by simp only[Jn,Option.some.injEq] at h;subst h;simp
 | r::rs,l,h=>by
  simp only[Jn] at h
  split at h
  ·rename_i s l' h1 h2
   cases h
   obtain⟨v,hv⟩:=Ub A R r.at'
   obtain⟨k1,k2,lc,k3,k4⟩:=Tp hv h1
   obtain⟨q1,q2⟩:=NS A R h2
   refine⟨fun p hp=>?_,fun p hp=>?_⟩
   ·rcases List.mem_cons.1 hp with rfl|hp
    ·exact⟨k2,by rw[k3];rfl⟩
    ·exact q1 p hp
   ·rcases List.mem_cons.1 hp with rfl|hp
    ·exact⟨s,by simp,k1,lc,k3,k4⟩
    ·obtain⟨s',a1,a2⟩:=q2 p hp
     exact⟨s',by simp[a1],a2⟩
  ·simp at h
omit [ar] in
theorem FN {i:Nat}{vs:List Value}:∀ (rs:List bF) {cs:List AV},(∀ r∈rs,∀ off,r.at' = .c i off→∀ v,vs[off]? = some v→VR μ S H (.sl r.id 0) v)→aP μ S H cs vs→aP μ S H (OV rs i cs) vs
 | [],cs,_,h=>h
 | r::rs,cs,hr,h=>by
  have ih:∀ {cs:List AV},aP μ S H cs vs→aP μ S H (OV rs i cs) vs:=fun h=>FN rs (fun p hp=>hr p (by simp[hp])) h
  simp only[OV]
  split
  ·exact ih h
  ·rename_i b off hat
   cases hb:Nat.beq b i with
   | false=>exact ih h
   | true=>
    have e:=Nat.eq_of_beq_eq_true hb
    subst e
    refine ih ?_
    simp only[cond_true]
    cases hv:vs[off]? with
    | some v=>
     have:=E6 h off _ v (hr r (by simp) off hat v hv)
     have e2:vs.set off v=vs:=by
      obtain⟨hlt,he⟩:=List.getElem?_eq_some_iff.1 hv
      rw[← he];exact List.set_getElem_self hlt
     rw[e2] at this
     exact this
    | none=>
     have hl:vs.length≤off:=List.getElem?_eq_none_iff.1 hv
     rw[List.set_eq_of_length_le (by rw[aT h];exact hl)]
     exact h
omit [ar] in
theorem Ah {p:Nat×AV}:∀ {rs:List bF},p∈GD rs→∃ r∈rs,r.at' = .t p.1∧p.2 = .sl r.id 0
 | [],h=>by simp[GD] at h
 | r::rs,h=>by
  simp only[GD] at h
  split at h
  ·rename_i s hs
   rcases List.mem_cons.1 h with rfl|h
   ·exact⟨r,by simp,hs,rfl⟩
   ·obtain⟨q,h1,h2⟩:=Ah h;exact⟨q,by simp[h1],h2⟩
  ·obtain⟨q,h1,h2⟩:=Ah h;exact⟨q,by simp[h1],h2⟩
omit [ar] in
theorem K2 {l:List Src}(hd:distinct (Src.list l)=true):∀ {s p:Src},s∈l→p∈l→∀ {a:Nat},s.src=some a→p.src=some a→distinct (l.map (·.id))=true→s.id=p.id:=by
 induction l with
 | nil=>intro s p hs;simp at hs
 | cons q l ih=>
  intro s p hs hp a h1 h2 hi
  simp only[List.map_cons,distinct,Bool.and_eq_true,Bool.not_eq_true'] at hi
  have hd':distinct (Src.list l)=true∧∀ b,q.src=some b→b∉Src.list l:=by
   unfold Src.list at hd
   cases hq:q.src with
   | none=>rw[List.filterMap_cons,hq] at hd;exact⟨hd,fun b h=>by simp at h⟩
   | some b=>
    rw[List.filterMap_cons,hq] at hd
    simp only[distinct,Bool.and_eq_true,Bool.not_eq_true'] at hd
    refine⟨hd.2,fun c hc hm=>?_⟩
    cases hc
    have:=List.any_eq_false.1 hd.1 b hm
    simp at this
  have inl:∀ {x:Src},x∈l→x.src=some a→a∈Src.list l:=fun hx hxa=>List.mem_filterMap.2 ⟨_,hx,hxa⟩
  rcases List.mem_cons.1 hs with e1|hs'<;>rcases List.mem_cons.1 hp with e2|hp'
  ·rw[e1,e2]
  ·exact absurd (inl hp' h2) (hd'.2 a (by rw[← e1];exact h1))
  ·exact absurd (inl hs' h1) (hd'.2 a (by rw[← e2];exact h2))
  ·exact ih hd'.1 hs' hp' h1 h2 hi.2
theorem x9 {od:List Nat}{h:Hint}(hh:head od h σ=some σ')(A:AR N Dt μ S σ a)(R:Rel μ S σ.heap B w0 w)(hod:∀ i,μo i≠none→i∈od)(Co:Carry B μo So Ho μ S σ.heap) :
  ∃ μ',AR N Dt μ' S σ' a∧Rel μ' S σ'.heap B w0 w∧Carry B μo So Ho μ' S σ'.heap∧Bd σ':=by
 unfold head at hh
 split at hh
 ·simp at hh
 ·rename_i l hl
  obtain⟨hc,rfl⟩:=aj hh
  simp only[Bool.and_eq_true,List.all_eq_true,Bool.not_eq_true'] at hc
  obtain⟨⟨⟨hd1,hd2⟩,hd3⟩,hd4⟩:=hc
  obtain⟨s1,s2⟩:=NS A R hl
  have notL:∀ s∈l,s.id∉od++h.ids:=fun s hs hm=>by
   have:=hd3 s hs
   rw[mem_iff.2 hm] at this;simp at this
  have srcNotL:∀ s∈l,∀ x,s.src=some x→x∉od++h.ids:=fun s hs x hx hm=>by
   have:=hd4 x (List.mem_filterMap.2 ⟨s,hs,hx⟩)
   rw[mem_iff.2 hm] at this;simp at this
  have inIds:∀ q,q∈od++h.ids→q∉l.map (·.id):=fun q hq hm=>by
   obtain⟨s,hs,rfl⟩:=List.mem_map.1 hm
   exact notL s hs hq
  let μ':Mu:=muH l (od++h.ids) μ
  let H':Heap:=On (l.map (fun s=>(s.id,some (.row s.te s.e 0 s.xs)))++(od++h.ids).map (fun i=>(i,(σ.heap i).map (mz h.rows (od++h.ids) i))))
  have F1:∀ s∈l,H' s.id=some (.row s.te s.e 0 s.xs):=fun s hs=>Oa l s hs hd2
  have F2:∀ q,q∉l.map (·.id)→H' q=cond (mem (od++h.ids) q) ((σ.heap q).map (mz h.rows (od++h.ids) q)) none:=fun q hq=>by
   show On _ q=_
   rw[Iq l q hq,M4]
  have M1:∀ s∈l,μ' s.id=s.loc μ:=fun s hs=>WJ l s hs hd2
  have M2:∀ q,q∉l.map (·.id)→μ' q=cond (mem (od++h.ids) q) (μ q) none:=fun q hq=>Ur hq
  have ag:Ag (od++h.ids) μ σ.heap μ' H':=⟨fun i hi=>by rw[M2 i (inIds i hi),mem_iff.2 hi];rfl,fun i hi t e g xs hr=>by
   rw[F2 i (inIds i hi),mem_iff.2 hi] at hr
   exact Gr hr⟩
  have cases_:∀ q l',μ' q=some l'→(∃ s∈l,s.id=q∧s.loc μ=some l')∨(q∈od++h.ids∧q∉l.map (·.id)∧μ q=some l'):=fun q l' hq=>by
   by_cases hm:q∈l.map (·.id)
   ·obtain⟨s,hs,rfl⟩:=List.mem_map.1 hm
    rw[M1 s hs] at hq
    exact .inl ⟨s,hs,rfl,hq⟩
   ·rw[M2 q hm] at hq
    cases hb:mem (od++h.ids) q with
    | true=>rw[hb] at hq;exact .inr ⟨mem_iff.1 hb,hm,hq⟩
    | false=>rw[hb] at hq;simp at hq
  have slR:∀ r∈h.rows,∀ v,VR μ S σ.heap (σ.tu r.at') v→VR μ' S H' (.sl r.id 0) v:=by
   intro r hr v hv
   obtain⟨s,hs,e1,lc,e2,e3⟩:=s2 r hr
   have e3':=e3 v hv
   simp only[VR]
   refine⟨⟨_,_,_,e3'⟩,lc,by rw[← e1];exact (M1 s hs).trans e2,fun t1 e1' g1 xs1 hH=>?_⟩
   have hH2:H' r.id=some (.row t1 e1' g1 xs1):=hH
   rw[← e1,F1 s hs] at hH2
   injection hH2 with hH2
   injection hH2 with k1 k2 k3 k4
   refine⟨Nat.zero_le _,fun _=>?_⟩
   rw[e3']
   subst k2
   cases k4
   rfl
  refine⟨μ',⟨A.defers,A.size,fun t ht=>?_⟩,⟨R.below,R.size,R.st,fun q=>?_,fun q o hq=>?_,fun i j li lj b hij hi hj hb=>?_,R.pre⟩,⟨fun x v hv=>?_,Co.st,Co.sub⟩,fun q hq=>?_⟩
  ·refine TU (f:=fun t=>a.tmps.getD t undef) _ (fun p hp=>?_) t
   rcases List.mem_append.1 hp with hp|hp
   ·obtain⟨r,hr,hat,hpe⟩:=Ah hp
    rw[hpe]
    refine slR r hr _ ?_
    rw[hat]
    exact A.val (.tmp p.1)
   ·obtain⟨t',ht',rfl⟩:=List.mem_map.1 hp
    exact FX ag (A.val (.tmp t'))
  ·by_cases hm:q∈l.map (·.id)
   ·obtain⟨s,hs,rfl⟩:=List.mem_map.1 hm
    show (H' s.id).isSome=(μ' s.id).isSome
    rw[F1 s hs,M1 s hs,(s1 s hs).2];rfl
   ·show (H' q).isSome=(μ' q).isSome
    rw[F2 q hm,M2 q hm]
    cases mem (od++h.ids) q with
    | true=>simp only[cond_true,Option.isSome_map];exact R.dom q
    | false=>rfl
  ·by_cases hm:q∈l.map (·.id)
   ·obtain⟨s,hs,rfl⟩:=List.mem_map.1 hm
    have hq':H' s.id=some o:=hq
    rw[F1 s hs] at hq'
    cases hq'
    obtain⟨ok,hsome⟩:=s1 s hs
    cases hsrc:s.src with
    | none=>
     have hloc:s.loc μ=some ⟨none,0⟩:=by unfold Src.loc;rw[hsrc]
     refine⟨_,(M1 s hs).trans hloc,?_,.inl ⟨rfl,rfl⟩⟩
     rw[ok.nil hsrc];exact⟨Nat.le_refl _,Nat.zero_le _⟩
    | some x=>
     obtain⟨g,hx⟩:=ok.row x hsrc
     obtain⟨lx,k1,k2⟩:=R.obj x _ hx
     have hloc:s.loc μ=some lx:=by unfold Src.loc;rw[hsrc];exact k1
     exact⟨lx,(M1 s hs).trans hloc,k2⟩
   ·have hq':H' q=some o:=hq
    rw[F2 q hm] at hq'
    cases hb:mem (od++h.ids) q with
    | false=>rw[hb] at hq';simp at hq'
    | true=>
     rw[hb] at hq'
     simp only[cond_true] at hq'
     cases ho:σ.heap q with
     | none=>rw[ho] at hq';simp at hq'
     | some o'=>
      rw[ho] at hq'
      simp only[Option.map_some,Option.some.injEq] at hq'
      subst hq'
      obtain⟨lq,k1,k2⟩:=R.obj q o' ho
      refine⟨lq,by show μ' q=_;rw[M2 q hm,hb];exact k1,?_⟩
      cases o' with
      | box t cs=>
       obtain⟨b,vs,a1,a2,a3,a4,a5⟩:=k2
       refine⟨b,vs,a1,a2,a3,a4,FN h.rows (fun r hr off hat v hv=>slR r hr v ?_) (uJ ag a5)⟩
       have:=Ef a5 off
       rw[hat]
       simp only[St.tu,ho,N0]
       rw[List.getD_eq_getElem?_getD,hv] at this
       exact this
      | fB s pos=>exact k2
      | map es=>exact k2
      | loop k r st ts=>
       obtain⟨b,fn,ss,pe,vs,ps,asn,body,df,q1,q2,q3,q4,q5,q6,q7⟩:=k2
       exact⟨b,fn,ss,pe,vs,ps,asn,body,df,q1,q2,q3,q4,q5,q6,uJ ag q7⟩
      | row t e g xs=>exact k2
  ·rcases cases_ i li hi with⟨s,hs,e1,e2⟩|⟨h1,h2,h3⟩<;>rcases cases_ j lj hj with⟨p,hp,f1,f2⟩|⟨k1,k2,k3⟩
   ·unfold Src.loc at e2 f2
    cases hs1:s.src with
    | none=>rw[hs1] at e2;cases e2;simp at hb
    | some x=>
     rw[hs1] at e2
     cases hp1:p.src with
     | none=>rw[hp1] at f2;cases f2;simp
     | some y=>
      rw[hp1] at f2
      by_cases exy:x=y
      ·subst exy
       exact absurd (K2 hd1 hs hp hs1 hp1 hd2) (by rw[e1,f1];exact hij)
      ·exact R.sep x y li lj b exy e2 f2 hb
   ·unfold Src.loc at e2
    cases hs1:s.src with
    | none=>rw[hs1] at e2;cases e2;simp at hb
    | some x=>
     rw[hs1] at e2
     exact R.sep x j li lj b (fun e=>srcNotL s hs x hs1 (e ▸ k1)) e2 k3 hb
   ·unfold Src.loc at f2
    cases hp1:p.src with
    | none=>rw[hp1] at f2;cases f2;simp
    | some y=>
     rw[hp1] at f2
     exact R.sep i y li lj b (fun e=>srcNotL p hp y hp1 (e ▸ h1)) h3 f2 hb
   ·exact R.sep i j li lj b hij h3 k3 hb
  ·have h1:=x7 hod x v hv
   exact MG ag x v (by
    have:=x7 (L:=od++h.ids) (fun i hi=>List.mem_append.2 (.inl (hod i hi))) x v hv
    exact this) (Co.vr x v hv)
  ·by_cases hm:q∈l.map (·.id)
   ·exact List.mem_append.2 (.inr hm)
   ·have hq':H' q≠none:=hq
    rw[F2 q hm] at hq'
    cases hb:mem (od++h.ids) q with
    | true=>exact List.mem_append.2 (.inl (mem_iff.1 hb))
    | false=>rw[hb] at hq';simp at hq'
omit [ar] in
theorem HG:∀ (l:List (Nat×Option bq)) (q:Nat),On l q≠none→q∈l.map (·.1)
 | [],q,h=>absurd rfl h
 | (i,o)::l,q,h=>by
  simp only[On] at h
  cases hb:Nat.beq q i with
  | true=>rw[Nat.eq_of_beq_eq_true hb];simp
  | false=>
   rw[hb] at h
   have:=HG l q h
   simp only[List.map_cons,List.mem_cons];exact .inr this
omit [ar] in
theorem pI {od:List Nat}{h:Hint}(hh:head od h σ=some σ'):Bd σ':=by
 unfold head at hh
 split at hh
 ·simp at hh
 ·obtain⟨_,rfl⟩:=aj hh
  intro q hq
  have:=HG _ q hq
  simp only[List.map_append,List.map_map,List.mem_append,List.mem_map,Function.comp_apply] at this ⊢
  rcases this with⟨s,h1,h2⟩|⟨i,h1,h2⟩|⟨i,h1,h2⟩
  ·exact .inr ⟨s,h1,h2⟩
  ·subst h2;exact .inl (.inl h1)
  ·subst h2;exact .inl (.inr h1)
end
def ij (S S':an):Prop:=∀ a v,cellS S a=some v→cellS S' a=some v
theorem jf {S S':an}(h:ij S S'):∀ (t:Ty) (x:t.T) (cs:List Value),Rd S t x cs→Rd S' t x cs
 | .int _,_,_,hr=>hr
 | .bool,_,_,hr=>hr
 | .str,_,_,hr=>hr
 | .row e,xs,cs,hr=>by
  obtain⟨a,cap,h1,h2,h3⟩:=hr
  refine⟨a,cap,h1,h2,fun j x hj=>?_⟩
  obtain⟨ad,c,e1,e2,e3⟩:=h3 j x hj
  exact⟨ad,c,e1,jf h e x c e2,fun m v hv=>h _ _ (e3 m v hv)⟩
 | .pair a b,x,cs,hr=>by
  obtain⟨c,d,h1,h2,h3⟩:=hr
  exact⟨c,d,h1,jf h a _ _ h2,jf h b _ _ h3⟩
 | .one a,x,cs,hr=>jf h a x cs hr
 | .Bo _,_,_,hr=>hr
section
variable {μ:Mu}{S S':an}{H:Heap}
mutual
theorem kJ (h:ij S S'):∀ (a:AV) (v:Value),VR μ S H a v→VR μ S' H a v
 | .lit _,v,hr=>by simp only[VR] at hr ⊢;exact hr
 | .ptr i off,v,hr=>by simp only[VR] at hr ⊢;exact hr
 | .NK e x off,v,hr=>by
  simp only[VR] at hr ⊢
  obtain⟨ad,c,h1,h2,h3⟩:=hr
  exact⟨ad,c,jf h _ _ _ h1,fun m u hm=>h _ _ (h2 m u hm),h3⟩
 | .Fm i g k off,v,hr=>by simp only[VR] at hr ⊢;exact hr
 | .cont e xs,v,hr=>by simp only[VR] at hr ⊢;exact jf h (.row e) xs [v] hr
 | .sl i g,v,hr=>by simp only[VR] at hr ⊢;exact hr
 | .sub i g lo hi,v,hr=>by simp only[VR] at hr ⊢;exact hr
 | .UM i n,v,hr=>by simp only[VR] at hr ⊢;exact hr
 | .jZ i,v,hr=>by simp only[VR] at hr ⊢;exact hr
 | .mp i,v,hr=>by simp only[VR] at hr ⊢;exact hr
 | .fn f fi ca,v,hr=>by
  simp only[VR] at hr ⊢
  obtain⟨x,y,h1,h2,h3⟩:=hr
  exact⟨x,y,h1,gu h fi _ h2,gu h ca _ h3⟩
 | .agg cs,v,hr=>by
  simp only[VR] at hr ⊢
  obtain⟨x,h1,h2⟩:=hr
  exact⟨x,h1,gu h cs _ h2⟩
 | .A8 cs,v,hr=>by
  simp only[VR] at hr ⊢
  obtain⟨x,h1,h2⟩:=hr
  exact⟨x,h1,gu h cs _ h2⟩
 | .Db t a,v,hr=>by
  simp only[VR] at hr ⊢
  obtain⟨u,h1,h2⟩:=hr
  exact⟨u,h1,kJ h a _ h2⟩
 | .gh _,_,hr=>by simp only[VR] at hr
 | .YZ,_,hr=>by simpa only [VR] using hr
 | .aq,_,_=>by simp only[VR]
theorem gu (h:ij S S'):∀ (as:List AV) (vs:List Value),aP μ S H as vs→aP μ S' H as vs
 | [],vs,hr=>by simp only[aP] at hr ⊢;exact hr
 | a::as,vs,hr=>by
  simp only[aP] at hr ⊢
  obtain⟨v,r,h1,h2,h3⟩:=hr
  exact⟨v,r,h1,kJ h a v h2,gu h as r h3⟩
end
end
section
variable [ar]{P:Program}{w w' w0:World}{μ μ' μo:Mu}{S S' So N:an}{H H' Ho:Heap}{B:Nat}
def GK (S:an)(D:Nat):an:=fun b=>cond (Nat.beq b D) none (S b)
omit [ar] in
theorem gH {S:an}{D b:Nat}(h:b≠D):GK S D b=S b:=by
 unfold GK
 cases hb:Nat.beq b D with
 | true=>exact absurd (Nat.eq_of_beq_eq_true hb) h
 | false=>rfl
omit [ar] in
theorem Qd {S:an}{D:Nat}:GK S D D=none:=by simp[GK]
omit [ar] in
theorem zb {S:an}{D:Nat}{x:Option (List Deferred)}(h:S D=some (.deferred x)):ij S (GK S D):=by
 intro a v hv
 unfold cellS at hv ⊢
 by_cases e:a.block=D
 ·rw[e,h] at hv;simp at hv
 ·rw[gH e];exact hv
theorem Rel.take (R:Rel μ S H B w0 w){D:Nat}(hD:S D=some (.deferred (some [])))(hB:B≤D)(hN:∀ b o,N b=some o→S b=some o)(hND:N D=none)(hp:ar.pre N) :
  Rel μ (GK S D) H B w0 (w.putObj D (.deferred none)):=by
 have hlt:=R.mA hD
 have hsub:∀ b o,N b=some o→GK S D b=some o:=fun b o h=>by
  have:b≠D:=fun e=>by subst e;rw[hND] at h;simp at h
  rw[gH this];exact hN b o h
 have hbl:Below B w (w.putObj D (.deferred none)):=uU hB _
 refine⟨R.below.trans hbl,by simpa using R.size,fun b o h=>?_,R.dom,fun i o hi=>?_,R.sep,ar.mono _ _ hsub hp⟩
 ·have:b≠D:=fun e=>by subst e;rw[Qd] at h;simp at h
  rw[gH this] at h
  rw[World.putObj_heap_other this];exact R.st b o h
 ·obtain⟨l,h1,h2⟩:=R.obj i o hi
  refine⟨l,h1,?_⟩
  have hne:∀ b,l.blk=some b→b≠D:=fun b hb e=>by
   have:=(R.ge h1 hb).2
   rw[e,hD] at this;simp at this
  have hc:=zb hD
  cases o with
  | box t cells=>
   obtain⟨b,cs,q1,q2,q3,q4,q5⟩:=h2
   exact⟨b,cs,q1,q2,by rw[gH (hne b q1)];exact q3,by rw[World.putObj_heap_other (hne b q1)];exact q4,gu hc _ _ q5⟩
  | fB s pos=>
   obtain⟨b,q1,q2,q3,q4⟩:=h2
   exact⟨b,q1,q2,by rw[gH (hne b q1)];exact q3,by rw[World.putObj_heap_other (hne b q1)];exact q4⟩
  | map es=>
   obtain⟨b,q1,q2,q3,q4⟩:=h2
   exact⟨b,q1,q2,by rw[gH (hne b q1)];exact q3,by rw[World.putObj_heap_other (hne b q1)];exact q4⟩
  | loop k r st ts=>
   obtain⟨b,fn,ss,pe,vs,ps,asn,body,df,q1,q2,q3,q4,q5,q6,q7⟩:=h2
   exact⟨b,fn,ss,pe,vs,ps,asn,body,df,q1,q2,by rw[gH (hne b q1)];exact q3,q4,q5,by rw[World.putObj_heap_other (hne b q1)];exact q6,gu hc _ _ q7⟩
  | row t e g xs=>
   obtain⟨q0,q1⟩:=h2
   refine⟨q0,?_⟩
   rcases q1 with q1|⟨b,cs,a1,a2,a3,a4,a5,a6⟩
   ·exact .inl q1
   ·exact .inr ⟨b,cs,a1,a2,by rw[gH (hne b a1)];exact a3,by rw[World.putObj_heap_other (hne b a1)];exact a4,a5,fun j x hj=>by
     obtain⟨c,k1,k2⟩:=a6 j x hj
     exact⟨c,jf hc _ _ _ k1,k2⟩⟩
def AZ (S:an)(D:Nat)(o:Obj):an:=fun b=>cond (Nat.beq b D) (some o) (S b)
omit [ar] in
theorem x6 {S:an}{D b:Nat}{o:Obj}(h:b≠D):AZ S D o b=S b:=by
 unfold AZ
 cases hb:Nat.beq b D with
 | true=>exact absurd (Nat.eq_of_beq_eq_true hb) h
 | false=>rfl
omit [ar] in
theorem Cg {S:an}{D:Nat}{o:Obj}:AZ S D o D=some o:=by simp[AZ]
theorem Rel.mark (R:Rel μ S H B w0 w)(o:Obj):Rel μ (AZ S w.heap.size o) H B w0 (w.alloc o)∧Carry B μ S H μ (AZ S w.heap.size o) H:=by
 have hsub:∀ b o',S b=some o'→AZ S w.heap.size o b=some o':=fun b o' h=>by
  rw[x6 (by have:=R.mA h;omega)];exact h
 have E:Ext μ S H μ (AZ S w.heap.size o) H:=⟨fun _ _ h=>.inl h,hsub,fun _ t _ g xs _ h=>⟨t,g,xs,h,Nat.le_refl _,fun _=>rfl⟩⟩
 refine⟨⟨R.below.alloc R.size o,by have:=R.size;simp;omega,fun b o' h=>?_,R.dom,fun i o' hi=>?_,R.sep,ar.mono _ _ hsub R.pre⟩,fun a v h=>en E a v h,fun b hb=>?_,hsub⟩
 ·by_cases e:b=w.heap.size
  ·subst e;rw[Cg] at h;cases h;exact alloc_heap_new w o
  ·rw[x6 e] at h
   rw[gG w o (R.mA h)];exact R.st b o' h
 ·obtain⟨l,h1,h2⟩:=R.obj i o' hi
  exact⟨l,h1,bU E (fun b hb=>gG w o (R.lt h1 hb)) (fun b hb=>by
   have:=R.lt h1 hb
   rw[x6 (by omega)];exact (R.ge h1 hb).2) h2⟩
 ·by_cases e:b=w.heap.size
  ·subst e;exact .inr R.size
  ·rw[x6 e] at hb;exact .inl hb
omit [ar] in
theorem Ext.loop {i k r:Nat}{st:O2}{ts:List AV}:Ext μ S H μ S (aU H i (some (.loop k r st ts))):=by
 refine⟨fun _ _ h=>.inl h,fun _ _ h=>h,fun j t0 e g xs _ hH=>?_⟩
 by_cases ej:j=i
 ·subst ej;rw[ax] at hH;simp at hH
 ·rw[aA _ _ ej] at hH;exact⟨t0,g,xs,hH,Nat.le_refl _,fun _=>rfl⟩
theorem Rel.loop (R:Rel μ S H B w0 w){i k r b:Nat}{cp:Nat}{st:O2}{ts:List AV}(h:H i=some (.loop k r st ts))(hm:μ i=some ⟨some b,cp⟩) :
  ∃ L:Loop,w.heap[b]? = some (.loop L)∧ar.jm k r=some (L.params,L.assign,L.body)∧st.Is L.state L.pending∧aP μ S H ts L.tmps.toList:=by
 obtain⟨l,h1,h2⟩:=R.obj i _ h
 rw[hm] at h1;cases h1
 obtain⟨b',fn,ss,pe,vs,ps,asn,body,df,q1,q2,q3,q4,q5,q6,q7⟩:=h2
 cases q1
 exact⟨⟨ss,pe,fn,vs,ps,asn,body,df⟩,q6,q4,q5,q7⟩
theorem Rel.xE (R:Rel μ S H B w0 w){i k r b:Nat}{cp:Nat}{st st':O2}{ts:List AV}(h:H i=some (.loop k r st ts))(hm:μ i=some ⟨some b,cp⟩){L L':Loop}
  (hL:w.heap[b]? = some (.loop L)) (hc:L'.params=L.params∧L'.assign=L.assign∧L'.body=L.body∧L'.tmps=L.tmps) (hst:st'.Is L'.state L'.pending) :
  Rel μ S (aU H i (some (.loop k r st' ts))) B w0 (w.putObj b (.loop L'))∧Ext μ S H μ S (aU H i (some (.loop k r st' ts))):=by
 obtain⟨l,h1,h2⟩:=R.obj i _ h
 rw[hm] at h1;cases h1
 obtain⟨b',fn,ss,pe,vs,ps,asn,body,df,q1,q2,q3,q4,q5,q6,q7⟩:=h2
 cases q1
 rw[hL] at q6;cases q6
 obtain⟨c1,c2,c3,c4⟩:=hc
 obtain⟨ss',pe',fn',vs',ps',asn',body',df'⟩:=L'
 simp only at c1 c2 c3 c4 hst
 subst c1 c2 c3 c4
 have E:Ext μ S H μ S (aU H i (some (.loop k r st' ts))):=Ext.loop
 refine⟨R.wr hm rfl _ (uU (Nat.le_refl _) _) (by simp) (fun k hk=>World.putObj_heap_other hk) E ?_,E⟩
 exact⟨b,fn',ss',pe',_,_,_,_,df',rfl,q2,q3,q4,hst,World.putObj_heap_same (R.lt hm rfl),ec E _ _ q7⟩
theorem l6 {F:Fence}{fn:Func}{tmps:Array Value}{Rs:Ending→World→Prop}{Dt:List Deferred}{u:FrameMode}(hu:u ≠ .run)(hN:ar.pre N):∀ (ms:List Nat) (S:an) (w:World),Rel μ S H B w0 w→Mark S N ms→(∀ b o,N b=some o→S b=some o)→(∀ D∈ms,B≤D) →
  (∀ (S':an) (w':World),Rel μ S' H B w0 w'→ij S S'→(∀ b o,N b=some o→S' b=some o)→(∀ b,S' b≠none→S b≠none)→LeavesInM F 0 P fn tmps Rs Dt u w') →
  LeavesInM F 0 P fn tmps Rs ((ms.map fun D=>⟨.collected D,#[]⟩)++Dt) u w
 | [],S,w,R,hm,hsub,hB,hK=>hK S w R (fun _ _ h=>h) hsub (fun _ h=>h)
 | D::ms,S,w,R,hm,hsub,hB,hK=>by
  obtain⟨hnd,hms⟩:=hm
  obtain⟨hND,hSD⟩:=hms D (by simp)
  have hw:=R.st _ _ hSD
  refine⟨hu,.inl ⟨D,_,rfl,run_takeDeferred hw,?_⟩⟩
  have R1:=R.take hSD (hB D (by simp)) hsub hND hN
  have hnd':=List.nodup_cons.1 hnd
  refine l6 hu hN ms _ _ R1 ⟨hnd'.2,fun D' hD'=>⟨(hms D' (by simp[hD'])).1,?_⟩⟩ (fun b o h=>?_) (fun D' hD'=>hB D' (by simp[hD'])) (fun S' w' R' hc h1 h2=>?_)
  ·rw[gH (fun e=>by subst e;exact hnd'.1 hD')];exact (hms D' (by simp[hD'])).2
  ·rw[gH (fun e=>by subst e;rw[hND] at h;simp at h)];exact hsub b o h
  ·refine hK S' w' R' (fun a v h=>hc _ _ (zb hSD _ _ h)) h1 (fun b hb=>?_)
   have:=h2 b hb
   unfold GK at this
   intro hn
   rw[hn] at this
   apply this
   cases Nat.beq b D<;>rfl
omit [ar] in
theorem BO {f:Nat→AV}:∀ (vs:List Value) (k:Nat),(∀ t,t<vs.length→VR μ S H (f (k+t)) (vs.getD t undef))→aP μ S H ((List.range' k vs.length).map f) vs
 | [],k,h=>by simp[aP]
 | v::vs,k,h=>by
  simp only[List.length_cons,List.range'_succ,List.map_cons,aP]
  refine⟨v,vs,rfl,by simpa using h 0 (by simp),BO vs (k+1) fun t ht=>?_⟩
  have:=h (t+1) (by simp;omega)
  rw[show k+1+t=k+(t+1) by omega]
  simpa using this
def oM:List AV→List Tmp→List AV→List AV
 | ts,p::ps,a::as=>oM (ts.set p a) ps as
 | ts,_,_=>ts
omit [ar] in
theorem Bc:∀ {ts:List AV} {vs:Array Value} {ps:List Tmp} {as:List AV} {us:List Value},aP μ S H ts vs.toList→aP μ S H as us →
  aP μ S H (oM ts ps as) ((ps.zip us).foldl (fun tmps (t,a)=>tmps.setIfInBounds t a) vs).toList
 | ts,vs,[],as,us,h,h'=>by simpa [oM] using h
 | ts,vs,p::ps,[],us,h,h'=>by
  simp only[aP] at h';subst h'
  simpa [oM] using h
 | ts,vs,p::ps,a::as,us,h,h'=>by
  simp only[aP] at h'
  obtain⟨v,r,rfl,h2,h3⟩:=h'
  simp only[oM,List.zip_cons_cons,List.foldl_cons]
  refine Bc ?_ h3
  rw[Array.toList_setIfInBounds]
  exact E6 h p a v h2
end
section
variable {P:Program}{b:Frame}{a:Act}{k:List Item}{cs:List Frame}{w:World}
theorem dK {c:Code}:step P (lone (b.atR a (.code (.scope c)::k)) cs w) = .next (lone (b.atR a (.code c :: .inScope c::k)) cs w):=
 step_lone_go (by simp[stepG,stepG.exec,Frame.atR])
theorem qv {c:Code}:step P (lone (b.atR a (.inScope c::k)) cs w) = .next (lone (b.atR a k) cs w):=
 step_lone_go (by simp[stepG,stepG.exec,Frame.atR])
end
def wV (l:Nat)(J:Act→World→Prop)(Q:Exit→Act→World→Prop):Exit→Act→World→Prop
 | .goto l',a,w=>l'=l∧J a w
 | e,a,w=>Q e a w
def me (F:Fence)(n:Nat)(P:Program)(l:Nat)(r:Code)(Q:Exit→Act→World→Prop):Nat→Act→World→Prop
 | 0,_,_=>False
 | m+1,a,w=>r.wpIn F n P (wV l (me F n P l r Q m) Q) a w
theorem jG {F:Fence}{n:Nat}{P:Program}{Q:Exit→Act→World→Prop}{a:Act}{w:World}{c r:Code}{l:Nat}(m:Nat)(hf:0<m→findLabel c l=some r)
  (h:c.wpIn F n P (wV l (me F n P l r Q m) Q) a w):(Code.scope c).wpIn F n P Q a w:=by
 intro b k cs hro hb hr
 have hx:∀ i,exitTo i (.inScope c::k)=exitTo i k:=fun i=>by simp[exitTo]
 have key:∀ m a w,(0<m→findLabel c l=some r)→me F n P l r Q m a w →
   ∃ e a' w',Q e a' w'∧ArrivesIn (Machine.fenced P F) P (lone (b.atR a (.code r :: .inScope c::k)) cs w) b k cs e a' w':=by
  intro m
  induction m with
  | zero=>intro a w _ h;exact h.elim
  | succ m ih=>
   intro a w hf h
   obtain⟨e,a₁,w₁,hq,harr⟩:=h b (.inScope c::k) cs hro hb hr
   cases e with
   | normal=>exact⟨.normal,a₁,w₁,hq,StepsIn.trans harr (.one (fenced_calm hb hr rfl) qv)⟩
   | exit i=>exact⟨.exit i,a₁,w₁,hq,fun k' hk=>harr.1 k' (by rw[hx];exact hk),fun hr' hk=>harr.2 hr' (by rw[hx];exact hk)⟩
   | goto l'=>
    obtain⟨rfl,hJ⟩:=hq
    obtain⟨e₂,a₂,w₂,hq₂,harr₂⟩:=ih a₁ w₁ (fun _=>hf (Nat.succ_pos _)) hJ
    have hg:gotoIn l' (.inScope c::k)=some (.code r :: .inScope c::k):=by simp[gotoIn,hf (Nat.succ_pos _)]
    exact⟨e₂,a₂,w₂,hq₂,.of_steps (harr.1 _ hg) harr₂⟩
   | ret=>exact⟨_,a₁,w₁,hq,harr⟩
   | panic ch=>exact⟨_,a₁,w₁,hq,harr⟩
   | outgrown=>exact⟨_,a₁,w₁,hq,harr⟩
 have h0:(lone (b.atR a (.code (.scope c)::k)) cs w).fenced P F:=fenced_calm hb hr rfl
 obtain⟨e,a₁,w₁,hq,harr⟩:=h b (.inScope c::k) cs hro hb hr
 cases e with
 | normal=>exact⟨.normal,a₁,w₁,hq,.head h0 dK (StepsIn.trans harr (.one (fenced_calm hb hr rfl) qv))⟩
 | exit i=>exact⟨.exit i,a₁,w₁,hq,fun k' hk=>.head h0 dK (harr.1 k' (by rw[hx];exact hk)),fun hr' hk=>let ⟨k₁,h1,h2⟩:=harr.2 hr' (by rw[hx];exact hk);⟨k₁,h1,.head h0 dK h2⟩⟩
 | goto l'=>
  obtain⟨rfl,hJ⟩:=hq
  cases m with
  | zero=>exact hJ.elim
  | succ m=>
   obtain⟨e₂,a₂,w₂,hq₂,harr₂⟩:=key (m+1) a₁ w₁ hf hJ
   have hg:gotoIn l' (.inScope c::k)=some (.code r :: .inScope c::k):=by simp[gotoIn,hf (Nat.succ_pos _)]
   exact⟨e₂,a₂,w₂,hq₂,.of_steps (.head h0 dK (harr.1 _ hg)) harr₂⟩
 | ret=>exact⟨_,a₁,w₁,hq,.of_steps (.one h0 dK) harr⟩
 | panic ch=>exact⟨_,a₁,w₁,hq,.of_steps (.one h0 dK) harr⟩
 | outgrown=>exact⟨_,a₁,w₁,hq,.of_steps (.one h0 dK) harr⟩
def Ce:Code→Bool
 | .seq x y=>Ce x&&Ce y
 | .label _=>false
 | _=>true
theorem qV {l:Nat}:∀ {c:Code},Ce c=true→findLabel c l=none
 | .seq x y,h=>by
  simp only[Ce,Bool.and_eq_true] at h
  simp[findLabel,qV h.1,qV h.2]
 | .label _,h=>by simp[Ce] at h
 | .skip,_=>rfl
 | .region _ _ _,_=>rfl
 | .cond _ _ _,_=>rfl
 | .block _ _,_=>rfl
 | .loop _,_=>rfl
 | .exit _,_=>rfl
 | .ret,_=>rfl
 | .rangeFunc _ _ _ _,_=>rfl
 | .scope _,_=>rfl
 | .goto _,_=>rfl
 | .refuse _,_=>rfl
def tO:Code→Option Nat
 | .label l=>some l
 | _=>none
theorem yT {c:Code}{l:Nat}(h:tO c=some l):c = .label l:=by
 cases c<;>simp_all [tO]
def jE:Code→Bool
 | .seq x y=>match tO x with
  | some _=>true
  | none=>Ce x&&jE y
 | .label _=>false
 | _=>true
def bB:Code→Option (Nat×Code)
 | .seq x y=>match tO x with
  | some l=>some (l,.seq .skip y)
  | none=>bB y
 | _=>none
theorem Ao:∀ {c:Code} {l:Nat} {r:Code},jE c=true→bB c=some (l,r)→findLabel c l=some r
 | .seq x y,l,r,h,hs=>by
  simp only[jE,bB] at h hs
  cases hl:tO x with
  | some l'=>
   rw[hl] at hs
   simp only[Option.some.injEq,Prod.mk.injEq] at hs
   obtain⟨rfl,rfl⟩:=hs
   have:=yT hl
   subst this
   simp[findLabel]
  | none=>
   rw[hl] at h hs
   simp only[Bool.and_eq_true] at h
   simp only at hs
   simp[findLabel,qV h.1,Ao h.2 hs]
 | .skip,_,_,_,hs=>by simp[bB] at hs
 | .region _ _ _,_,_,_,hs=>by simp[bB] at hs
 | .cond _ _ _,_,_,_,hs=>by simp[bB] at hs
 | .block _ _,_,_,_,hs=>by simp[bB] at hs
 | .loop _,_,_,_,hs=>by simp[bB] at hs
 | .exit _,_,_,_,hs=>by simp[bB] at hs
 | .label _,_,_,_,hs=>by simp[bB] at hs
 | .ret,_,_,_,hs=>by simp[bB] at hs
 | .rangeFunc _ _ _ _,_,_,_,hs=>by simp[bB] at hs
 | .scope _,_,_,_,hs=>by simp[bB] at hs
 | .goto _,_,_,_,hs=>by simp[bB] at hs
 | .refuse _,_,_,_,hs=>by simp[bB] at hs
def Jmp.ex:Jmp→Ex
 | .ret=>.ret
 | .exit i=>.exit i
 | .goto l=>.goto l
def cE:Nat→(St→Option (Ex×St))→St→Option (Ex×St)
 | 0,_,_=>none
 | n+1,f,σ=>match f σ with
  | some (.dJ,σ')=>cE n f σ'
  | some (.exit i,σ')=>some (.exit i,σ')
  | some (.goto i,σ')=>some (.goto i,σ')
  | some (.ret,σ')=>some (.ret,σ')
  | some (.gh _,_)=>none
  | none=>none
def jx (base id:Nat):Nat:=base+id * 4096
abbrev Hints:=Nat→Nat→St→Option tv
def hintOf (Hn:Hints)(base:Nat)(x:Code)(σ:St):Option tv:=
 match bS x with
 | some r=>Hn base r σ
 | none=>none
def LU:Option tv→St→St
 | none,σ=>σ
 | some h,σ=>σ.gm h.gm
theorem N8 {h:Option tv}{σ:St}(hB:Bd σ):Bd (LU h σ):=by
 cases h with
 | none=>exact hB
 | some h=>exact Gd _ hB
theorem WB [ar]{N:an}{Dt:Bool×List Deferred}{σ:St}{a:Act}{μ μo:Mu}{S So:an}{Ho:Heap}{B:Nat}{w0 w:World}{h:Option tv}(A:AR N Dt μ S σ a)(R:Rel μ S σ.heap B w0 w)(Co:Carry B μo So Ho μ S σ.heap) :
  ∃ μ',AR N Dt μ' S (LU h σ) a∧Rel μ' S (LU h σ).heap B w0 w∧Carry B μo So Ho μ' S (LU h σ).heap:=by
 cases h with
 | none=>exact⟨μ,A,R,Co⟩
 | some h=>exact HN _ A R Co
def dy (od:List Nat)(h:Option tv)(f:St→Option (Ex×St))(σ:St):Option (Ex×St):=
 match h with
 | none=>f σ
 | some h=>match head od h.top σ with
  | some σ'=>f σ'
  | none=>none
def oE (od:List Nat)(h:Option tv):Option (Ex×St)→Option (Ex×St)
 | some (e,σ)=>match h with
  | none=>some (e,σ)
  | some h=>match e with
   | .exit i=>match h.out with
    | some h'=>match head od h' σ with
     | some σ'=>some (.exit i,σ')
     | none=>none
    | none=>some (.exit i,σ)
   | .ret=>match h.ret with
    | some h'=>match head od h' σ with
     | some σ'=>some (.ret,σ')
     | none=>none
    | none=>some (.ret,σ)
   | e=>some (e,σ)
 | none=>none
def abq (ops:Array Oper):List Nat:=ops.toList.flatMap fun o=>o.op.operands.toList.flatMap fun x=>match x with
 | .tmp t=>[t]
 | _=>[]
def jY:Code→List Nat
 | .region _ ops _=>abq ops
 | .seq x y=>jY x++jY y
 | .cond c x y=>(match c with
  | .tmp t=>[t]
  | _=>[])++(jY x++jY y)
 | .block _ x=>jY x
 | .loop x=>jY x
 | _=>[]
def gW (P:Program)(k:Nat):Bool:=match P.funcs[k]? with
 | some fn=>match fn.body with
  | some _=>!(fn.name == "runtime.NumGoroutine")
  | none=>false
 | none=>false
def qC (σ:St)(x:cN):List AV:=(List.range' 0 σ.nt).map fun t=>cond (mem (jY x.2.1++jY x.2.2) t) (σ.tmps t) .aq
def Sj (σ:St)(base fid r:Nat)(x:cN):Option (St×Nat):=
 cond ((σ.heap (jx base r)).isNone) (some (⟨σ.nt,σ.tmps,aU σ.heap (jx base r) (some (.loop fid r .ready (qC σ x))),σ.ids++[jx base r]⟩,jx base r)) none
def oH (σ:St)(i:Nat)(H:Heap)(L:List Nat):Option (Ex×St):=
 match H i with
 | some (.loop k r .ready ts)=>some (.dJ,⟨σ.nt,σ.tmps,aU H i (some (.loop k r .over ts)),L⟩)
 | some (.loop k r (.done j) ts)=>some (j.ex,⟨σ.nt,σ.tmps,aU H i (some (.loop k r .over ts)),L⟩)
 | _=>none
def iG (P:Program)(F:j3)(base:Nat)(rf:Option Nat)(g:Operand)(body:Code)(σ:St):Option (Ex×St):=
 match rf,σ.val g,bS body with
 | some fid,.fn (.func k) first caps,some r=>match dR P fid r with
  | some x=>match Sj σ base fid r x with
   | some (σ1,i)=>match gW P k,F (i+1) (.fn k) (first++[.jZ i]++caps) σ1.heap σ1.ids with
    | true,some (v,H,L)=>cond v.e7 none (oH σ i H L)
    | _,_=>none
   | none=>none
  | none=>none
 | _,_,_=>none
def Dz:Nat:=1000000007
def jk (l:Nat):Ex→Option Ex
 | .dJ=>some (.exit Dz)
 | .goto i=>cond (Nat.beq i l) (some .dJ) none
 | .exit i=>cond (Nat.beq i Dz) none (some (.exit i))
 | .ret=>some .ret
 | .gh _=>none
def jK (l:Nat):Option (Ex×St)→Option (Ex×St)
 | some (e,σ)=>match jk l e with
  | some e'=>some (e',σ)
  | none=>none
 | none=>none
def QY:Ex→Option Ex
 | .exit i=>cond (Nat.beq i Dz) (some .dJ) (some (.exit i))
 | .ret=>some .ret
 | _=>none
def yx:Option (Ex×St)→Option (Ex×St)
 | some (e,σ)=>match QY e with
  | some e'=>some (e',σ)
  | none=>none
 | none=>none
def noGoto:Option (Ex×St)→Option (Ex×St)
 | some (.goto _,_)=>none
 | r=>r
def aF (P:Program)(C:Cons)(Hn:Hints)(F:j3)(lf base:Nat)(od:List Nat)(rf:Option Nat):Bool→Code→St→Option (Ex×St)
 | _,.skip,σ=>some (.dJ,σ)
 | _,.region id ops draw,σ=>
  cond draw (jL P C F ops (jx base id) σ) (qz P C F ops (jx base id) (List.range ops.size) σ)
 | false,.seq x y,σ=>match aF P C Hn F lf base od rf false x σ with
  | some (.dJ,σ')=>aF P C Hn F lf base od rf false y σ'
  | some (.exit i,σ')=>some (.exit i,σ')
  | some (.goto i,σ')=>some (.goto i,σ')
  | some (.ret,σ')=>some (.ret,σ')
  | some (.gh v,σ')=>some (.gh v,σ')
  | none=>none
 | true,.seq x y,σ=>match tO x with
  | some l=>yx (oE od (hintOf Hn base y σ) (cE lf (dy od (hintOf Hn base y σ) fun σ=>jK l (aF P C Hn F lf base od rf false y σ)) σ))
  | none=>match aF P C Hn F lf base od rf false x σ with
   | some (.dJ,σ')=>aF P C Hn F lf base od rf true y σ'
   | some (.exit i,σ')=>some (.exit i,σ')
   | some (.ret,σ')=>some (.ret,σ')
   | some (.gh v,σ')=>some (.gh v,σ')
   | _=>none
 | _,.cond c x y,σ=>match σ.val c with
  | .lit (.bool b)=>cond b (aF P C Hn F lf base od rf false x σ) (aF P C Hn F lf base od rf false y σ)
  | _=>none
 | _,.block id x,σ=>match aF P C Hn F lf base od rf false x σ with
  | some (.exit i,σ')=>cond (Nat.beq i id) (some (.dJ,σ')) (some (.exit i,σ'))
  | r=>r
 | _,.loop x,σ=>oE od (hintOf Hn base x σ) (cE lf (dy od (hintOf Hn base x σ) (aF P C Hn F lf base od rf false x)) (LU (hintOf Hn base x σ) σ))
 | _,.exit id,σ=>some (.exit id,σ)
 | _,.label _,σ=>some (.dJ,σ)
 | _,.ret,σ=>some (.ret,σ)
 | _,.rangeFunc g _ _ body,σ=>iG P F base rf g body σ
 | _,.scope x,σ=>cond (jE x) (noGoto (aF P C Hn F lf base od rf true x σ)) none
 | _,.goto l,σ=>some (.goto l,σ)
 | _,_,_=>none
def RG (P:Program)(σ:St):ResultVar→Option AV
 | .tmp t=>cond (mG t σ.nt) (some (σ.tmps t)) none
 | .cell a t=>match σ.val (.tmp a) with
  | .ptr i off=>match σ.heap i with
   | some (.box _ cs)=>cut P t cs off
   | _=>none
  | _=>none
def eF (P:Program)(σ:St):List ResultVar→Option (List AV)
 | []=>some []
 | r::rs=>match RG P σ r,eF P σ rs with
  | some v,some vs=>some (v::vs)
  | _,_=>none
def cV:List AV→Nat→AV
 | [],_=>.lit undef
 | a::_,0=>a
 | _::l,n+1=>cV l n
def sj (P:Program)(rs:List ResultVar):Option (Ex×St)→Option (AV×Heap×List Nat)
 | some (.dJ,σ)=>match eF P σ rs with
  | some vs=>some (gU vs,σ.heap,σ.ids)
  | none=>none
 | some (.ret,σ)=>match eF P σ rs with
  | some vs=>some (gU vs,σ.heap,σ.ids)
  | none=>none
 | some (.gh v,σ)=>some (.gh v,σ.heap,σ.ids)
 | _=>none
def yQ (P:Program)(i:Nat)(as:List AV)(H:Heap)(L:List Nat):Option (Nat×Nat×cN×St):=
 match H i with
 | some (.loop k r .ready ts)=>match dR P k r with
  | some x=>cond (Nat.beq x.1.size as.length) (some (k,r,x,⟨ts.length,cV (oM ts x.1.toList as),H,L⟩)) none
  | none=>none
 | _=>none
def tI (i k r:Nat)(σ:St):Option St:=
 match σ.heap i with
 | some (.loop k' r' .ready ts)=>cond (Nat.beq k' k&&Nat.beq r' r) (some ⟨σ.nt,σ.tmps,aU σ.heap i (some (.loop k r .busy ts)),σ.ids⟩) none
 | _=>none
def Ex.st:Ex→O2
 | .dJ=>.ready
 | .ret=>.done .ret
 | .exit i=>.done (.exit i)
 | .goto l=>.done (.goto l)
 | .gh _=>.ready
def Ex.e7:Ex→Bool
 | .gh _=>true
 | _=>false
def Ex.on:Ex→Bool
 | .dJ=>true
 | _=>false
def yo (i k r:Nat)(e:Ex)(σ:St):Option (AV×Heap×List Nat):=
 match σ.heap i with
 | some (.loop k' r' .busy ts)=>cond (Nat.beq k' k&&Nat.beq r' r && !e.e7) (some (.lit (.bool e.on),aU σ.heap i (some (.loop k r e.st ts)),σ.ids)) none
 | _=>none
def Bu (i k r:Nat)(asn body:St→Option (Ex×St))(σ:St):Option (AV×Heap×List Nat):=
 match asn σ with
 | some (.dJ,σ1)=>match tI i k r σ1 with
  | some σ2=>match body σ2 with
   | some (e,σ3)=>yo i k r e σ3
   | none=>none
  | none=>none
 | _=>none
def bK (P:Program)(C:Cons)(Hn:Hints)(lf:Nat):Nat→j3
 | 0=>fun _ _ _ _ _=>none
 | n+1=>fun base c as H L=>match c with
  | .fn k=>match P.funcs[k]? with
   | some fn=>match fn.body with
    | some c=>cond (Nat.ble as.length fn.ntmps) (sj P fn.results.toList (aF P C Hn (bK P C Hn lf n) lf (Nat.succ base * 4294967296) L (some k) false c ⟨fn.ntmps,cV as,H,L⟩)) none
    | none=>none
   | none=>none
  | .jZ i=>match yQ P i as H L with
   | some (k,r,x,σ)=>Bu i k r (aF P C Hn (bK P C Hn lf n) lf (Nat.succ base * 4294967296) L none false x.2.1) (aF P C Hn (bK P C Hn lf n) lf (Nat.succ base * 4294967296) L none false x.2.2) σ
   | none=>none
section
variable [ar]{P:Program}{C:Cons}{F:j3}{rd:Option Nat}{N:an}{Dt:Bool×List Deferred}{B lf base:Nat}{w0:World}
omit [ar] in
theorem uY {f:St→Option (Ex×St)}(hf:∀ σ e σ',f σ=some (e,σ')→Bd σ→Bd σ'):∀ (n:Nat) (σ:St) (e:Ex) (σ':St),cE n f σ=some (e,σ')→Bd σ→Bd σ'
 | 0,σ,e,σ',h,_=>by simp[cE] at h
 | n+1,σ,e,σ',h,hB=>by
  simp only[cE] at h
  split at h
  ·rename_i σ1 h1;exact uY hf n σ1 e σ' h (hf _ _ _ h1 hB)
  ·rename_i h1;cases h;exact hf _ _ _ h1 hB
  ·rename_i h1;cases h;exact hf _ _ _ h1 hB
  ·rename_i h1;cases h;exact hf _ _ _ h1 hB
  ·simp at h
  ·simp at h
omit [ar] in
theorem jN {od:List Nat}{h:Option tv}{r:Option (Ex×St)}{e:Ex}{σ':St}(hr:oE od h r=some (e,σ')) :
  r=some (e,σ')∨∃ σ h',r=some (e,σ)∧head od h' σ=some σ':=by
 unfold oE at hr
 split at hr
 ·rename_i e0 σ
  split at hr
  ·exact .inl hr
  ·split at hr
   ·split at hr
    ·rename_i h' _
     split at hr
     ·rename_i σ1 h1;cases hr;exact .inr ⟨σ,h',rfl,h1⟩
     ·simp at hr
    ·exact .inl hr
   ·split at hr
    ·rename_i h' _
     split at hr
     ·rename_i σ1 h1;cases hr;exact .inr ⟨σ,h',rfl,h1⟩
     ·simp at hr
    ·exact .inl hr
   ·exact .inl hr
 ·simp at hr
omit [ar] in
theorem QF {σ σ':St}{i:Nat}{H:Heap}{L:List Nat}{e:Ex}(h:oH σ i H L=some (e,σ'))(hb:∀ q,H q≠none→q∈L):Bd σ':=by
 have key:∀ o,H i≠none→∀ q,aU H i o q≠none→q∈L:=by
  intro o hi q hq
  by_cases eq:q=i
  ·subst eq;exact hb q hi
  ·rw[aA _ _ eq] at hq;exact hb q hq
 unfold oH at h
 split at h
 ·rename_i hH;cases h;exact key _ (by rw[hH];simp)
 ·rename_i hH;cases h;exact key _ (by rw[hH];simp)
 ·simp at h
theorem Lb {g:Operand}{body:Code}{rf:Option Nat}{σ σ':St}{e:Ex}(hF:dl P F)(h:iG P F base rf g body σ=some (e,σ'))(hB:Bd σ):Bd σ':=by
 unfold iG at h
 split at h
 ·rename_i fid k first caps r hg hr
  split at h
  ·rename_i x hx
   split at h
   ·rename_i σ1 i hin
    split at h
    ·rename_i v H L hc hcall
     obtain⟨hi,e1⟩:=aj hin
     cases e1
     have:=(hF _ _ _ _ _ _ _ _ hcall (fun q hq=>by
      show q∈σ.ids++[jx base r]
      by_cases eq:q=jx base r
      ·subst eq;simp
      ·simp only at hq;rw[aA _ _ eq] at hq;simp[hB q hq])).1
     exact QF (cM h).2 this
    ·simp at h
   ·simp at h
  ·simp at h
 ·simp at h
theorem aJ {Hn:Hints}{od:List Nat}{rf:Option Nat}(hF:dl P F):∀ (sc:Bool) (c:Code) (σ:St) (e:Ex) (σ':St),aF P C Hn F lf base od rf sc c σ=some (e,σ')→Bd σ→Bd σ'
 | sc,.skip,σ,e,σ',h,hB=>by simp only[aF] at h;cases h;exact hB
 | sc,.region id ops draw,σ,e,σ',h,hB=>by
  simp only[aF] at h
  cases draw with
  | true=>exact KC hF h hB
  | false=>exact IL hF _ _ _ _ h hB
 | false,.seq x y,σ,e,σ',h,hB=>by
  simp only[aF] at h
  split at h
  ·rename_i σ1 h1;exact aJ hF false y σ1 e σ' h (aJ hF false x σ _ σ1 h1 hB)
  ·rename_i h1;cases h;exact aJ hF false x σ _ _ h1 hB
  ·rename_i h1;cases h;exact aJ hF false x σ _ _ h1 hB
  ·rename_i h1;cases h;exact aJ hF false x σ _ _ h1 hB
  ·rename_i h1;cases h;exact aJ hF false x σ _ _ h1 hB
  ·simp at h
 | true,.seq x y,σ,e,σ',h,hB=>by
  simp only[aF] at h
  split at h
  ·rename_i l hl
   have fl:∀ σ e σ',jK l (aF P C Hn F lf base od rf false y σ)=some (e,σ')→Bd σ→Bd σ':=by
    intro σ e σ' h hB
    unfold jK at h
    split at h
    ·rename_i e1 σ1 h1
     split at h
     ·cases h;exact aJ hF false y σ _ _ h1 hB
     ·simp at h
    ·simp at h
   unfold yx at h
   split at h
   ·rename_i e1 σ1 h1
    split at h
    ·cases h
     rcases jN h1 with h|⟨σ2,h',h,hh⟩
     ·refine uY (fun σ e σ' h hB=>?_) lf σ _ _ h hB
      unfold dy at h
      split at h
      ·exact fl σ e σ' h hB
      ·split at h
       ·rename_i σ1 h1;exact fl σ1 e σ' h (pI h1)
       ·simp at h
     ·exact pI hh
    ·simp at h
   ·simp at h
  ·split at h
   ·rename_i σ1 h1;exact aJ hF true y σ1 e σ' h (aJ hF false x σ _ σ1 h1 hB)
   ·rename_i h1;cases h;exact aJ hF false x σ _ _ h1 hB
   ·rename_i h1;cases h;exact aJ hF false x σ _ _ h1 hB
   ·rename_i h1;cases h;exact aJ hF false x σ _ _ h1 hB
   ·simp at h
 | sc,.cond c x y,σ,e,σ',h,hB=>by
  simp only[aF] at h
  split at h
  ·rename_i b hb
   cases b with
   | true=>exact aJ hF false x σ e σ' h hB
   | false=>exact aJ hF false y σ e σ' h hB
  ·simp at h
 | sc,.block id x,σ,e,σ',h,hB=>by
  simp only[aF] at h
  split at h
  ·rename_i i σ1 h1
   have:=aJ hF false x σ _ σ1 h1 hB
   cases hb:Nat.beq i id<;>rw[hb] at h<;>cases h<;>exact this
  ·exact aJ hF false x σ e σ' h hB
 | sc,.loop x,σ,e,σ',h,hB=>by
  simp only[aF] at h
  rcases jN h with h|⟨σ1,h',h,hh⟩
  ·refine uY (fun σ e σ' h hB=>?_) lf _ e σ' h (N8 hB)
   unfold dy at h
   split at h
   ·exact aJ hF false x σ e σ' h hB
   ·split at h
    ·rename_i σ1 h1;exact aJ hF false x σ1 e σ' h (pI h1)
    ·simp at h
  ·exact pI hh
 | sc,.exit id,σ,e,σ',h,hB=>by simp only[aF] at h;cases h;exact hB
 | sc,.label l,σ,e,σ',h,hB=>by simp only[aF] at h;cases h;exact hB
 | sc,.ret,σ,e,σ',h,hB=>by simp only[aF] at h;cases h;exact hB
 | sc,.rangeFunc g ps asn body,σ,e,σ',h,hB=>by simp only[aF] at h;exact Lb hF h hB
 | sc,.scope x,σ,e,σ',h,hB=>by
  simp only[aF] at h
  cases hs:jE x with
  | false=>rw[hs] at h;simp at h
  | true=>
   rw[hs] at h
   simp only[cond_true] at h
   unfold noGoto at h
   split at h
   ·simp at h
   ·exact aJ hF true x σ e σ' h hB
 | sc,.goto l,σ,e,σ',h,hB=>by simp only[aF] at h;cases h;exact hB
 | sc,.refuse _,σ,e,σ',h,hB=>by simp[aF] at h
section
variable {μo:Mu}{So:an}{Ho:Heap}
omit [ar] in
theorem lP {next:Act→World→Prop}{Q:Exit→Act→World→Prop}{μ:Mu}{S:an}{H:Heap}{e:Ex}{xe:Exit}(hn:e ≠ .dJ)(hx:e.Is μ S H xe){a:Act}{w:World}(h:Q xe a w):Exit.then next Q xe a w:=by
 cases e with
 | dJ=>exact absurd rfl hn
 | gh v=>obtain⟨u,rfl,_⟩:=hx;exact h
 | ret=>cases (show xe = .ret from hx);exact h
 | exit i=>cases (show xe = .exit i from hx);exact h
 | goto i=>cases (show xe = .goto i from hx);exact h
omit [ar] in
theorem RH {id:Nat}{Q:Exit→Act→World→Prop}{μ:Mu}{S:an}{H:Heap}{e:Ex}{xe:Exit}(hn:∀ i,e ≠ .exit i)(hx:e.Is μ S H xe){a:Act}{w:World}(h:Q xe a w):Exit.inBlock id Q xe a w:=by
 cases e with
 | dJ=>cases (show xe = .normal from hx);exact h
 | gh v=>obtain⟨u,rfl,_⟩:=hx;exact h
 | ret=>cases (show xe = .ret from hx);exact h
 | exit i=>exact absurd rfl (hn i)
 | goto i=>cases (show xe = .goto i from hx);exact h
omit [ar] in
theorem tZ {f:St→Option (Ex×St)}:∀ (n:Nat) (σ:St) (e:Ex) (σ':St),cE n f σ=some (e,σ')→e.e7=false
 | 0,σ,e,σ',h=>by simp[cE] at h
 | n+1,σ,e,σ',h=>by
  simp only[cE] at h
  split at h
  ·exact tZ n _ e σ' h
  ·cases h;rfl
  ·cases h;rfl
  ·cases h;rfl
  ·simp at h
  ·simp at h
omit [ar] in
theorem Ex.Is.of {μ μ':Mu}{S S':an}{H H':Heap}{e:Ex}{xe:Exit}(hp:e.e7=false)(hx:e.Is μ S H xe):e.Is μ' S' H' xe:=by
 cases e<;>first|exact hx|(simp[Ex.e7] at hp)
omit [ar] in
theorem Ex.Is.self {μ:Mu}{S:an}{H:Heap}{e:Ex}(hp:e.e7=false):e.Is μ S H e.to:=by
 cases e<;>first|rfl|(simp[Ex.e7] at hp)
theorem P8 {f:St→Option (Ex×St)}{x:Code}(hf:∀ σ e σ',f σ=some (e,σ')→Bd σ→Bd σ')
  (ih:∀ (σ:St) (e:Ex) (σ':St) (a:Act) (w:World) (μ:Mu) (S:an) (Q:Exit→Act→World→Prop),f σ=some (e,σ')→Bd σ→AR So Dt μ S σ a→Rel μ S σ.heap B w0 w→Carry B μo So Ho μ S σ.heap →
   (∀ a' w' μ' S' xe,AR So Dt μ' S' σ' a'→Rel μ' S' σ'.heap B w0 w'→Carry B μo So Ho μ' S' σ'.heap→e.Is μ' S' σ'.heap xe→Q xe a' w')→x.wpIn (WF rd) 0 P Q a w) :
  ∀ (n:Nat) (σ:St) (e:Ex) (σ':St) (a:Act) (w:World) (μ:Mu) (S:an) (Q:Exit→Act→World→Prop),cE n f σ=some (e,σ')→Bd σ→AR So Dt μ S σ a→Rel μ S σ.heap B w0 w→Carry B μo So Ho μ S σ.heap →
   (∀ a' w' μ' S' xe,AR So Dt μ' S' σ' a'→Rel μ' S' σ'.heap B w0 w'→Carry B μo So Ho μ' S' σ'.heap→e.Is μ' S' σ'.heap xe→Q xe a' w')→Code.roundsIn (WF rd) 0 P x Q n a w:=by
 intro n
 induction n with
 | zero=>intro σ e σ' a w μ S Q h;simp[cE] at h
 | succ n ihn=>
  intro σ e σ' a w μ S Q h hB A R Co hK
  rw[roundsIn_succ]
  simp only[cE] at h
  split at h
  ·rename_i σ1 h1
   refine ih σ .dJ σ1 a w μ S _ h1 hB A R Co fun a1 w1 μ1 S1 xe A1 R1 C1 hx=>?_
   cases (show xe = .normal from hx)
   exact ihn σ1 e σ' a1 w1 μ1 S1 Q h (hf _ _ _ h1 hB) A1 R1 C1 hK
  ·rename_i i σ1 h1;cases h;exact ih σ (.exit i) _ a w μ S _ h1 hB A R Co fun a1 w1 μ1 S1 xe A1 R1 C1 hx=>by cases (show xe = .exit i from hx);exact hK a1 w1 μ1 S1 _ A1 R1 C1 rfl
  ·rename_i i σ1 h1;cases h;exact ih σ (.goto i) _ a w μ S _ h1 hB A R Co fun a1 w1 μ1 S1 xe A1 R1 C1 hx=>by cases (show xe = .goto i from hx);exact hK a1 w1 μ1 S1 _ A1 R1 C1 rfl
  ·rename_i σ1 h1;cases h;exact ih σ .ret _ a w μ S _ h1 hB A R Co fun a1 w1 μ1 S1 xe A1 R1 C1 hx=>by cases (show xe = .ret from hx);exact hK a1 w1 μ1 S1 _ A1 R1 C1 rfl
  ·simp at h
  ·simp at h
def cI (P:Program)(rf:Option Nat)(c:Code):Prop:=∀ fid,rf=some fid→∀ x∈bc c,∀ r y,cN.is x r=true→dR P fid r=some y→y=x
omit [ar] in
theorem cI.left {rf:Option Nat}{x y:Code}(h:cI P rf (.seq x y)):cI P rf x:=fun fid hf z hz=>h fid hf z (by simp[bc,hz])
omit [ar] in
theorem cI.right {rf:Option Nat}{x y:Code}(h:cI P rf (.seq x y)):cI P rf y:=fun fid hf z hz=>h fid hf z (by simp[bc,hz])
omit [ar] in
theorem cI.acO {rf:Option Nat}{c:Operand}{x y:Code}(h:cI P rf (.cond c x y)):cI P rf x:=fun fid hf z hz=>h fid hf z (by simp[bc,hz])
omit [ar] in
theorem cI.aan {rf:Option Nat}{c:Operand}{x y:Code}(h:cI P rf (.cond c x y)):cI P rf y:=fun fid hf z hz=>h fid hf z (by simp[bc,hz])
omit [ar] in
theorem cI.block {rf:Option Nat}{id:Nat}{x:Code}(h:cI P rf (.block id x)):cI P rf x:=h
omit [ar] in
theorem cI.scope {rf:Option Nat}{x:Code}(h:cI P rf (.scope x)):cI P rf x:=h
omit [ar] in
theorem cI.loop {rf:Option Nat}{x:Code}(h:cI P rf (.loop x)):cI P rf x:=h
omit [ar] in
theorem cI.none {c:Code}:cI P none c:=fun _ h=>by simp at h
omit [ar] in
theorem cI.top {k:Nat}{fn:Func}{c:Code}(hfn:P.funcs[k]? = some fn)(hc:fn.body=some c):cI P (some k) c:=by
 intro fid hf x hx r y hr hy
 cases hf
 unfold dR at hy
 rw[hfn] at hy
 simp only[hc] at hy
 exact BX hy hx hr
omit [ar] in
theorem Pu {σ:St}{x:cN}{tmps:Array Value}{μ:Mu}{S:an}{H:Heap}(hs:tmps.size=σ.nt)(h:∀ t,t<σ.nt→VR μ S H (σ.tmps t) (tmps.getD t undef)):aP μ S H (qC σ x) tmps.toList:=by
 unfold qC
 rw[show σ.nt=tmps.toList.length by simp[hs]]
 refine BO _ 0 fun t ht=>?_
 have ht:t<σ.nt:=by rw[← hs];simpa using ht
 rw[Nat.zero_add]
 cases mem (jY x.2.1++jY x.2.2) t with
 | false=>simp only[cond_false,VR]
 | true=>
  simp only[cond_true]
  have:=h t ht
  rw[Array.getD_eq_getD_getElem?] at this
  rw[List.getD_eq_getElem?_getD,Array.getElem?_toList]
  exact this
theorem V4 (hC:bV P C){σ:St}{a:Act}{w:World}{μ:Mu}{S:an}{fid r i:Nat}{ps:Array Tmp}{asn body:Code}(hx:dR P fid r=some (ps,asn,body))(hi0:σ.heap i=none)
  (A:AR N Dt μ S σ a) (R:Rel μ S σ.heap B w0 w) (fnid:FuncId) :
  ∃ μ1 S1,Rel μ1 S1 (aU σ.heap i (some (.loop fid r .ready (qC σ (ps,asn,body))))) B w0
    ((w.alloc (.deferred (some []))).alloc (.loop { state:=.ready,pending:=none,fn:=fnid,tmps:=a.tmps,params:=ps,assign:=asn,body:=body,defers:=w.heap.size })) ∧
   Carry B μ S σ.heap μ1 S1 (aU σ.heap i (some (.loop fid r .ready (qC σ (ps,asn,body))))) ∧
   VR μ1 S1 (aU σ.heap i (some (.loop fid r .ready (qC σ (ps,asn,body))))) (.jZ i) (.func (.yield (w.heap.size+1)) #[] #[])∧S1 w.heap.size=some (.deferred (some [])):=by
 obtain⟨RD,CD⟩:=R.mark (.deferred (some []))
 have hm:μ i=none:=by
  have:=R.dom i
  rw[hi0] at this
  cases hm:μ i with
  | none=>rfl
  | some _=>rw[hm] at this;simp at this
 have E0:Ext μ (AZ S w.heap.size (.deferred (some []))) σ.heap (aU μ i (some ⟨some (w.alloc (.deferred (some []))).heap.size,0⟩)) (AZ S w.heap.size (.deferred (some []))) (aU σ.heap i (some (.loop fid r .ready (qC σ (ps,asn,body))))):=Ext.new hm
 obtain⟨R1,E1⟩:=RD.new hi0 (.loop { state:=.ready,pending:=none,fn:=fnid,tmps:=a.tmps,params:=ps,assign:=asn,body:=body,defers:=w.heap.size })
  (.loop fid r .ready (qC σ (ps,asn,body))) ⟨some (w.alloc (.deferred (some []))).heap.size,0⟩ rfl ⟨_,fnid,.ready,none,a.tmps,ps,asn,body,w.heap.size,rfl,RD.size,zR RD,by rw[hC.2.2];exact hx,⟨rfl,rfl⟩,alloc_heap_new _ _,
   Pu A.size fun t ht=>en E0 _ _ (CD.vr _ _ (A.tmp t ht))⟩
 refine⟨_,_,R1,CD.trans (Carry.of (B:=B) E1),?_,Cg⟩
 simp only[VR]
 exact⟨_,_,ax _ _ _,fun t e g xs h=>by rw[ax] at h;simp at h,by simp⟩
omit [ar] in
theorem Carry.vrs {μ μ':Mu}{S S':an}{H H':Heap}(h:Carry B μ S H μ' S' H'){as:List AV}{us:Array Value}(hv:aP μ S H as us.toList):aP μ' S' H' as us.toList:=by
 have:=h.vr (.A8 as) (.tuple us) (by simp only[VR];exact⟨us,rfl,hv⟩)
 simp only[VR] at this
 obtain⟨x,h1,h2⟩:=this
 cases h1
 exact h2
omit [ar] in
theorem AJ {a:Act}{g:Operand}{k l:Nat}{x y:Array Value}{w:World}(h:a.eval g = .func (.func k) x y) :
  (resolve a.eval (rangeCall g l) 0).run P w = .ok { target:=.fn (.func k) y,args:=x ++ #[.func (.yield l) #[] #[]] } w:=by
 show (Deferred.ofValue (a.eval g) _).run P w=_
 rw[h]
 simp[Deferred.ofValue,rangeCall,Act.eval]
theorem VY {σ σ':St}{e:Ex}{a:Act}{w3:World}{μ μ2:Mu}{S S2:an}{i b cp:Nat}{H2:Heap}{L2:List Nat}{Q:Exit→Act→World→Prop}(h:oH σ i H2 L2=some (e,σ'))
  (hm2:μ2 i=some ⟨some b,cp⟩) (R2:Rel μ2 S2 H2 B w0 w3) (AD:∀ {H3:Heap} (E:Ext μ2 S2 H2 μ2 S2 H3),AR N Dt μ2 S2 ⟨σ.nt,σ.tmps,H3,L2⟩ a) (CT:Carry B μ S σ.heap μ2 S2 H2)
  (hK:∀ w' μ' S',AR N Dt μ' S' σ' a→Rel μ' S' σ'.heap B w0 w'→Carry B μ S σ.heap μ' S' σ'.heap→Q e.to a w') (u:Value):rangePost (WF none) 0 P b Q a (.returned u) w3:=by
 unfold oH at h
 split at h
 ·rename_i k' r' ts hH
  cases h
  obtain⟨L,hL,hr1,hst,hvs⟩:=R2.loop hH hm2
  obtain⟨R4,E4⟩:=R2.xE (st':=.over) (L':={ L with state:=.exhausted }) hH hm2 hL ⟨rfl,rfl,rfl,rfl⟩ trivial
  refine⟨none,_,?_,hK _ μ2 S2 (AD E4) R4 (CT.trans (Carry.of E4))⟩
  rw[← hst.2]
  exact run_endLoop hL (by rw[hst.1];simp)
 ·rename_i k' r' j ts hH
  cases h
  obtain⟨L,hL,hr1,hst,hvs⟩:=R2.loop hH hm2
  obtain⟨R4,E4⟩:=R2.xE (st':=.over) (L':={ L with state:=.exhausted }) hH hm2 hL ⟨rfl,rfl,rfl,rfl⟩ trivial
  refine⟨some j.code,_,by rw[← hst.2];exact run_endLoop hL (by rw[hst.1];simp),?_⟩
  have fin:=hK _ μ2 S2 (AD E4) R4 (CT.trans (Carry.of E4))
  cases j with
  | ret=>exact wpIn_ret fin
  | exit i=>exact wpIn_exit fin
  | goto l=>exact wpIn_goto fin
 ·simp at h
omit [ar] in
theorem Iu {k:Nat}(hcb:gW P k=true):∃ fn c,P.funcs[k]? = some fn∧fn.body=some c∧(fn.name == "runtime.NumGoroutine")=false:=by
 unfold gW at hcb
 split at hcb
 ·rename_i fn hfn
  split at hcb
  ·rename_i c hc;exact⟨fn,c,hfn,hc,by simpa using hcb⟩
  ·simp at hcb
 ·simp at hcb
omit [ar] in
theorem Cb {k:Nat}(hcb:gW P k=true)(x y:Array Value)(w:World):(invoke (.fn (.func k) y) x).run P w = .ok (.enter k (x++y)) w:=by
 obtain⟨fn,cb,hfn,hbody,hname⟩:=Iu hcb
 simp only[invoke,callFunc,Sem.run_bind,Sem.run_pure,Result.andThen_ok,run_program,hfn,hname,Bool.false_eq_true,if_false,hbody,Option.isNone_some]
theorem KJ {g:Operand}{ps:Array Tmp}{asn body:Code}{rf:Option Nat}{σ σ':St}{e:Ex}{a:Act}{w:World}{μ:Mu}{S:an}{Q:Exit→Act→World→Prop}(hrf:rf≠none→rd=none∧Dt.1=false)(hC:bV P C)(hF:dl P F)
  (hg:cI P rf (.rangeFunc g ps asn body)) (h:iG P F base rf g body σ=some (e,σ')) (hB:Bd σ) (A:AR N Dt μ S σ a) (R:Rel μ S σ.heap B w0 w) (hsub:∀ b o,N b=some o→S b=some o)
  (hK:∀ a' w' μ' S',AR N Dt μ' S' σ' a'→Rel μ' S' σ'.heap B w0 w'→Carry B μ S σ.heap μ' S' σ'.heap→Q e.to a' w'):(Code.rangeFunc g ps asn body).wpIn (WF rd) 0 P Q a w:=by
 unfold iG at h
 split at h
 case h_2=>simp at h
 rename_i fid k first caps r hgv hfr
 split at h
 case h_2=>simp at h
 rename_i x hx
 have hxe:x=(ps,asn,body):=hg fid rfl (ps,asn,body) (by simp[bc]) r x (by simp[cN.is,hfr]) hx
 subst hxe
 split at h
 case h_2=>simp at h
 rename_i σ1 i hin
 obtain⟨hi0,e1⟩:=aj hin
 cases e1
 split at h
 case h_2=>simp at h
 rename_i v H2 L2 hcb hcall
 obtain⟨hnp,h⟩:=cM h
 have hrd:rd=none:=(hrf (by simp)).1
 have hfl:Dt.1=false:=(hrf (by simp)).2
 subst hrd
 have hv:=A.val g
 rw[hgv] at hv
 simp only[VR] at hv
 obtain⟨x1,y1,hge,hf1,hf2⟩:=hv
 have hi0:σ.heap (jx base r)=none:=by simpa using hi0
 refine wpIn_rangeFunc fun fnid _=>?_
 obtain⟨μ1,S1,R1,CT1,hyv,hSD⟩:=V4 hC hx hi0 A R fnid
 refine⟨w.heap.size+1,_,_,_,_,k,_,_,run_enterLoop_outer fnid a.tmps ps asn body,AJ hge,fun _ _=>trivial,Cb hcb _ _ _,fun h=>(by cases h),gw.2 ?_⟩
 have hB1:∀ q,aU σ.heap (jx base r) (some (.loop fid r .ready (qC σ (ps,asn,body)))) q≠none→q∈σ.ids++[jx base r]:=by
  intro q hq
  by_cases eq:q=jx base r
  ·subst eq;simp
  ·rw[aA _ _ eq] at hq;simp[hB q hq]
 have hvs:aP μ1 S1 (aU σ.heap (jx base r) (some (.loop fid r .ready (qC σ (ps,asn,body))))) (first++[.jZ (jx base r)]++caps) (x1 ++ #[Value.func (.yield (w.heap.size+1)) #[] #[]]++y1).toList:=by
  simp only[Array.toList_append]
  exact cg (cg (CT1.vrs hf1) (by simp only[aP];exact⟨_,[],rfl,hyv,rfl⟩)) (CT1.vrs hf2)
 have hrun:=(hF _ _ _ _ _ _ _ _ hcall hB1).2 μ1 S1 B w0 _ _ R1 hvs
 clear hB1 hcall hF
 show w9 P μ1 (.fn k) _ _ _
 refine w9.mono hrun ?_
 rintro e' w3 ⟨μ2,S2,q0,R2,C2⟩
 obtain⟨u,rfl,q1⟩:=q0.val hnp
 have hm2:=C2.vr _ _ hyv
 simp only[VR] at hm2
 obtain⟨b,cp,hm2,_,heq⟩:=hm2
 injection heq with heq;injection heq with heq
 subst heq
 have CT:=CT1.trans C2
 refine VY h hm2 R2 (fun {H3} E=>?_) CT (fun w' μ' S'=>hK _ w' μ' S') u
 obtain⟨ms,hms,⟨hnd,hmk⟩,_⟩:=A.defers
 refine⟨⟨w.heap.size::ms,by rw[hms];rfl,⟨List.nodup_cons.2 ⟨fun hD=>?_,hnd⟩,fun D hD=>?_⟩,fun h=>by rw[hfl] at h;simp at h⟩,A.size,fun t ht=>en E _ _ (CT.vr _ _ (A.tmp t ht))⟩
 ·have:=R.mA (hmk _ hD).2;omega
 ·rcases List.mem_cons.1 hD with rfl|hD
  ·refine⟨?_,C2.sub _ _ hSD⟩
   cases hn:N w.heap.size with
   | none=>rfl
   | some o=>have:=R.mA (hsub _ _ hn);omega
  ·exact⟨(hmk _ hD).1,C2.sub _ _ (CT1.sub _ _ (hmk _ hD).2)⟩
omit [ar] in
theorem AL {g:Operand}{body:Code}{rf:Option Nat}{σ σ':St}{e:Ex}(h:iG P F base rf g body σ=some (e,σ')):e.e7=false:=by
 unfold iG at h
 split at h
 case h_2=>simp at h
 split at h
 case h_2=>simp at h
 split at h
 case h_2=>simp at h
 split at h
 case h_2=>simp at h
 have h:=(cM h).2
 unfold oH at h
 split at h
 ·cases h;rfl
 ·rename_i j _ _;cases h;cases j<;>rfl
 ·simp at h
def ny (F:Fence)(P:Program)(lf:Nat)(c:Code)(Q:Exit→Act→World→Prop):Exit→Act→World→Prop:=
 match bB c with
 | some (l,r)=>wV l (me F 0 P l r Q lf) Q
 | none=>wV 0 (me F 0 P 0 .skip Q 0) Q
omit [ar] in
theorem bP {F:Fence}{c:Code}{Q:Exit→Act→World→Prop}{μ:Mu}{S:an}{H:Heap}(e:Ex)(xe:Exit)(hx:e.Is μ S H xe)(hne:∀ l,e ≠ .goto l)(a:Act)(w:World)(h:Q xe a w):ny F P lf c Q xe a w:=by
 unfold ny
 cases e with
 | goto l=>exact absurd rfl (hne l)
 | gh v=>
  obtain⟨u,rfl,_⟩:=hx
  cases bB c<;>exact h
 | dJ=>cases (show xe = .normal from hx);cases bB c<;>exact h
 | ret=>cases (show xe = .ret from hx);cases bB c<;>exact h
 | exit i=>cases (show xe = .exit i from hx);cases bB c<;>exact h
def Code.Zv:Code→Bool
 | .seq _ _=>true
 | _=>false
omit [ar] in
theorem eo {Hn:Hints}{od:List Nat}{rf:Option Nat}{c:Code}{σ:St}(h:Code.Zv c=false):aF P C Hn F lf base od rf true c σ=aF P C Hn F lf base od rf false c σ:=by
 cases c<;>first|rfl|(simp[Code.Zv] at h)
omit [ar] in
theorem MM {l:Nat}{f:St→Option (Ex×St)}(hf:∀ σ e σ',f σ=some (e,σ')→Bd σ→Bd σ'){σ:St}{e:Ex}{σ':St}(h:jK l (f σ)=some (e,σ'))(hB:Bd σ):Bd σ':=by
 unfold jK at h
 split at h
 ·rename_i e1 σ1 h1
  split at h
  ·cases h;exact hf _ _ _ h1 hB
  ·simp at h
 ·simp at h
omit [ar] in
theorem B6 {e e':Ex}(h:QY e=some e'):e'.e7=false:=by
 cases e with
 | exit i=>simp only[QY] at h;cases hb:Nat.beq i Dz<;>rw[hb] at h<;>cases h<;>rfl
 | ret=>simp only[QY,Option.some.injEq] at h;subst h;rfl
 | dJ=>simp[QY] at h
 | goto i=>simp[QY] at h
 | gh v=>simp[QY] at h
theorem Lf {f:St→Option (Ex×St)}{y:Code}{l:Nat}(hf:∀ σ e σ',f σ=some (e,σ')→Bd σ→Bd σ')
  (ih:∀ (σ:St) (e:Ex) (σ':St) (a:Act) (w:World) (μ:Mu) (S:an) (Q:Exit→Act→World→Prop),f σ=some (e,σ')→Bd σ→AR So Dt μ S σ a→Rel μ S σ.heap B w0 w→Carry B μo So Ho μ S σ.heap →
   (∀ e1,jk l e1=some e→∀ a' w' μ' S',AR So Dt μ' S' σ' a'→Rel μ' S' σ'.heap B w0 w'→Carry B μo So Ho μ' S' σ'.heap→Q e1.to a' w')→y.wpIn (WF rd) 0 P Q a w) {Q:Exit→Act→World→Prop} :
  ∀ (n:Nat) (σ:St) (e:Ex) (σ':St) (a:Act) (w:World) (μ:Mu) (S:an),cE n f σ=some (e,σ')→Bd σ→AR So Dt μ S σ a→Rel μ S σ.heap B w0 w→Carry B μo So Ho μ S σ.heap →
   (∀ e3,QY e=some e3→∀ a' w' μ' S',AR So Dt μ' S' σ' a'→Rel μ' S' σ'.heap B w0 w'→Carry B μo So Ho μ' S' σ'.heap→Q e3.to a' w')→y.wpIn (WF rd) 0 P (wV l (me (WF rd) 0 P l (.seq .skip y) Q n) Q) a w:=by
 intro n
 induction n with
 | zero=>intro σ e σ' a w μ S h;simp[cE] at h
 | succ n ihn=>
  intro σ e σ' a w μ S h hB A R Co hK
  simp only[cE] at h
  have last:∀ {e0:Ex} {σ0:St},f σ=some (e0,σ0)→e0=e→σ0=σ'→e0 ≠ .dJ→y.wpIn (WF rd) 0 P (wV l (me (WF rd) 0 P l (.seq .skip y) Q (n+1)) Q) a w:=by
   intro e0 σ0 h1 he hσ hn
   subst he hσ
   refine ih σ _ _ a w μ S _ h1 hB A R Co fun e1 h1 a1 w1 μ1 S1 A1 R1 C1=>?_
   cases e1 with
   | dJ=>
    simp only[jk,Option.some.injEq] at h1
    subst h1
    exact hK .dJ (by simp[QY]) a1 w1 μ1 S1 A1 R1 C1
   | goto i=>
    simp only[jk] at h1
    obtain⟨_,h1⟩:=aj h1
    exact absurd h1.symm hn
   | exit i=>
    simp only[jk] at h1
    obtain⟨hi,h1⟩:=cM h1
    cases h1
    exact hK (.exit i) (by simp only[QY,hi,cond_false]) a1 w1 μ1 S1 A1 R1 C1
   | ret=>
    simp only[jk,Option.some.injEq] at h1
    subst h1
    exact hK .ret rfl a1 w1 μ1 S1 A1 R1 C1
   | gh v=>simp[jk] at h1
  split at h
  ·rename_i σ1 h1
   refine ih σ .dJ σ1 a w μ S _ h1 hB A R Co fun e1 h2 a1 w1 μ1 S1 A1 R1 C1=>?_
   cases e1 with
   | goto i=>
    simp only[jk] at h2
    obtain⟨hi,_⟩:=aj h2
    refine⟨Nat.eq_of_beq_eq_true hi,?_⟩
    show (Code.seq .skip y).wpIn (WF rd) 0 P _ a1 w1
    refine wpIn_seq (wpIn_skip ?_)
    exact ihn σ1 e σ' a1 w1 μ1 S1 h (hf _ _ _ h1 hB) A1 R1 C1 hK
   | dJ=>simp[jk] at h2
   | exit i=>
    simp only[jk] at h2
    obtain⟨_,h2⟩:=cM h2
    simp at h2
   | ret=>simp[jk] at h2
   | gh v=>simp[jk] at h2
  ·rename_i i σ1 h1;cases h;exact last h1 rfl rfl (by simp)
  ·rename_i i σ1 h1;cases h;exact last h1 rfl rfl (by simp)
  ·rename_i σ1 h1;cases h;exact last h1 rfl rfl (by simp)
  ·simp at h
  ·simp at h
set_option maxHeartbeats 4000000 in
mutual
theorem aH {Hn:Hints}{od:List Nat}{rf:Option Nat}(hrf:rf≠none→rd=none∧Dt.1=false)(hC:bV P C)(hF:dl P F)(hod:∀ i,μo i≠none→i∈od) :
  ∀ (c:Code),cI P rf c→∀ (σ:St) (e:Ex) (σ':St) (a:Act) (w:World) (μ:Mu) (S:an) (Q:Exit→Act→World→Prop),
  aF P C Hn F lf base od rf false c σ=some (e,σ')→Bd σ→AR So Dt μ S σ a→Rel μ S σ.heap B w0 w→Carry B μo So Ho μ S σ.heap →
  (∀ a' w' μ' S' xe,AR So Dt μ' S' σ' a'→Rel μ' S' σ'.heap B w0 w'→Carry B μo So Ho μ' S' σ'.heap→e.Is μ' S' σ'.heap xe→Q xe a' w')→c.wpIn (WF rd) 0 P Q a w
 | .skip,hg,σ,e,σ',a,w,μ,S,Q,h,hB,A,R,Co,hK=>by
  simp only[aF] at h;cases h;exact wpIn_skip (hK a w μ S _ A R Co rfl)
 | .region id ops draw,hg,σ,e,σ',a,w,μ,S,Q,h,hB,A,R,Co,hK=>by
  simp only[aF] at h
  cases draw with
  | true=>exact Lu hC hF h hB A R fun a' w' μ' S' x A' R' C' hx=>hK a' w' μ' S' x A' R' (Co.trans C') hx
  | false=>exact wpIn_region (JV hC hF _ _ _ _ a w μ S h hB A R fun a' w' μ' S' x A' R' C' hx=>hK a' w' μ' S' x A' R' (Co.trans C') hx)
 | .seq x y,hg,σ,e,σ',a,w,μ,S,Q,h,hB,A,R,Co,hK=>by
  simp only[aF] at h
  refine wpIn_seq ?_
  split at h
  ·rename_i σ1 h1
   refine aH hrf hC hF hod x hg.left σ .dJ σ1 a w μ S _ h1 hB A R Co fun a1 w1 μ1 S1 xe A1 R1 C1 hx=>?_
   cases (show xe = .normal from hx)
   exact aH hrf hC hF hod y hg.right σ1 e σ' a1 w1 μ1 S1 Q h (aJ hF false x σ _ σ1 h1 hB) A1 R1 C1 hK
  ·rename_i i σ1 h1;cases h;exact aH hrf hC hF hod x hg.left σ (.exit i) _ a w μ S _ h1 hB A R Co fun a1 w1 μ1 S1 xe A1 R1 C1 hx=>lP (by simp) hx (hK a1 w1 μ1 S1 xe A1 R1 C1 hx)
  ·rename_i i σ1 h1;cases h;exact aH hrf hC hF hod x hg.left σ (.goto i) _ a w μ S _ h1 hB A R Co fun a1 w1 μ1 S1 xe A1 R1 C1 hx=>lP (by simp) hx (hK a1 w1 μ1 S1 xe A1 R1 C1 hx)
  ·rename_i σ1 h1;cases h;exact aH hrf hC hF hod x hg.left σ .ret _ a w μ S _ h1 hB A R Co fun a1 w1 μ1 S1 xe A1 R1 C1 hx=>lP (by simp) hx (hK a1 w1 μ1 S1 xe A1 R1 C1 hx)
  ·rename_i v σ1 h1;cases h;exact aH hrf hC hF hod x hg.left σ (.gh v) _ a w μ S _ h1 hB A R Co fun a1 w1 μ1 S1 xe A1 R1 C1 hx=>lP (by simp) hx (hK a1 w1 μ1 S1 xe A1 R1 C1 hx)
  ·simp at h
 | .cond c x y,hg,σ,e,σ',a,w,μ,S,Q,h,hB,A,R,Co,hK=>by
  simp only[aF] at h
  split at h
  ·rename_i b hb
   have hv:=A.val c
   rw[hb] at hv
   simp only[VR] at hv
   refine wpIn_cond hv ?_
   cases b with
   | true=>exact aH hrf hC hF hod x hg.acO σ e σ' a w μ S Q h hB A R Co hK
   | false=>exact aH hrf hC hF hod y hg.aan σ e σ' a w μ S Q h hB A R Co hK
  ·simp at h
 | .block id x,hg,σ,e,σ',a,w,μ,S,Q,h,hB,A,R,Co,hK=>by
  simp only[aF] at h
  refine wpIn_block ?_
  split at h
  ·rename_i i σ1 h1
   refine aH hrf hC hF hod x hg.block σ (.exit i) σ1 a w μ S _ h1 hB A R Co fun a1 w1 μ1 S1 xe A1 R1 C1 hx=>?_
   cases (show xe = .exit i from hx)
   simp only[Exit.inBlock]
   cases hb:Nat.beq i id with
   | true=>
    rw[hb] at h;simp only[cond_true,Option.some.injEq,Prod.mk.injEq] at h
    obtain⟨rfl,rfl⟩:=h
    rw[if_pos (Nat.eq_of_beq_eq_true hb)]
    exact hK a1 w1 μ1 S1 _ A1 R1 C1 rfl
   | false=>
    rw[hb] at h;simp only[cond_false,Option.some.injEq,Prod.mk.injEq] at h
    obtain⟨rfl,rfl⟩:=h
    rw[if_neg (fun e=>by subst e;simp at hb)]
    exact hK a1 w1 μ1 S1 _ A1 R1 C1 rfl
  ·rename_i r hne
   refine aH hrf hC hF hod x hg.block σ e σ' a w μ S _ h hB A R Co fun a1 w1 μ1 S1 xe A1 R1 C1 hx=>?_
   exact RH (fun i he=>hne i σ' (he ▸ h)) hx (hK a1 w1 μ1 S1 xe A1 R1 C1 hx)
 | .loop x,hg,σ,e,σ',a,w,μ,S,Q,h,hB,A,R,Co,hK=>by
  simp only[aF] at h
  have main:∀ (σ2:St),cE lf (dy od (hintOf Hn base x σ) (aF P C Hn F lf base od rf false x)) (LU (hintOf Hn base x σ) σ)=some (e,σ2) →
    (∀ a' w' μ' S' xe,AR So Dt μ' S' σ2 a'→Rel μ' S' σ2.heap B w0 w'→Carry B μo So Ho μ' S' σ2.heap→e.Is μ' S' σ2.heap xe→Q xe a' w')→(Code.loop x).wpIn (WF rd) 0 P Q a w:=by
   intro σ2 h hK
   obtain⟨μ0,A0,R0,C0⟩:=WB (h:=hintOf Hn base x σ) A R Co
   refine wpIn_loop_rounds lf (P8 (μo:=μo) (So:=So) (Ho:=Ho) (fun σ e σ' h hB=>?_) (fun σ e σ' a w μ S Q h hB A R Co hK=>?_) lf _ e σ2 a w μ0 S Q h (N8 hB) A0 R0 C0 hK)
   ·unfold dy at h
    split at h
    ·exact aJ hF false x σ e σ' h hB
    ·split at h
     ·rename_i σ1 h1;exact aJ hF false x σ1 e σ' h (pI h1)
     ·simp at h
   ·unfold dy at h
    split at h
    ·exact aH hrf hC hF hod x hg.loop σ e σ' a w μ S Q h hB A R Co hK
    ·split at h
     ·rename_i σ1 h1
      obtain⟨μ1,A1,R1,C1,B1⟩:=x9 h1 A R hod Co
      exact aH hrf hC hF hod x hg.loop σ1 e σ' a w μ1 S Q h B1 A1 R1 C1 hK
     ·simp at h
  rcases jN h with h|⟨σ2,h',h,hh⟩
  ·exact main σ' h hK
  ·refine main σ2 h fun a' w' μ' S' xe A' R' C' hx=>?_
   obtain⟨μ1,A1,R1,C1,B1⟩:=x9 hh A' R' hod C'
   exact hK a' w' μ1 S' xe A1 R1 C1 (hx.of (tZ _ _ _ _ h))
 | .exit id,hg,σ,e,σ',a,w,μ,S,Q,h,hB,A,R,Co,hK=>by
  simp only[aF] at h;cases h;exact wpIn_exit (hK a w μ S _ A R Co rfl)
 | .label l,hg,σ,e,σ',a,w,μ,S,Q,h,hB,A,R,Co,hK=>by
  simp only[aF] at h;cases h;exact wpIn_label (hK a w μ S _ A R Co rfl)
 | .ret,hg,σ,e,σ',a,w,μ,S,Q,h,hB,A,R,Co,hK=>by
  simp only[aF] at h;cases h;exact wpIn_ret (hK a w μ S _ A R Co rfl)
 | .rangeFunc g ps asn body,hg,σ,e,σ',a,w,μ,S,Q,h,hB,A,R,Co,hK=>by
  simp only[aF] at h
  exact KJ hrf hC hF hg h hB A R Co.sub fun a' w' μ' S' A' R' C'=>hK a' w' μ' S' _ A' R' (Co.trans C') (Ex.Is.self (AL h))
 | .scope x,hg,σ,e,σ',a,w,μ,S,Q,h,hB,A,R,Co,hK=>by
  simp only[aF] at h
  cases hs:jE x with
  | false=>rw[hs] at h;simp at h
  | true=>
  rw[hs] at h
  simp only[cond_true] at h
  unfold noGoto at h
  split at h
  ·simp at h
  ·rename_i hne
   have:=Af hrf hC hF hod x hg.scope σ e σ' a w μ S Q h (fun l he=>by subst he;exact hne _ _ h) hB A R Co hK
   unfold ny at this
   split at this
   ·rename_i l r hl
    exact jG lf (fun _=>Ao hs hl) this
   ·exact jG (l:=0) (r:=.skip) 0 (fun h=>absurd h (by omega)) this
 | .goto l,hg,σ,e,σ',a,w,μ,S,Q,h,hB,A,R,Co,hK=>by
  simp only[aF] at h;cases h;exact wpIn_goto (hK a w μ S _ A R Co rfl)
 | .refuse _,hg,σ,e,σ',a,w,μ,S,Q,h,hB,A,R,Co,hK=>by simp[aF] at h
theorem Af {Hn:Hints}{od:List Nat}{rf:Option Nat}(hrf:rf≠none→rd=none∧Dt.1=false)(hC:bV P C)(hF:dl P F)(hod:∀ i,μo i≠none→i∈od) :
  ∀ (c:Code),cI P rf c→∀ (σ:St) (e:Ex) (σ':St) (a:Act) (w:World) (μ:Mu) (S:an) (Q:Exit→Act→World→Prop),
  aF P C Hn F lf base od rf true c σ=some (e,σ')→(∀ l,e ≠ .goto l)→Bd σ→AR So Dt μ S σ a→Rel μ S σ.heap B w0 w→Carry B μo So Ho μ S σ.heap →
  (∀ a' w' μ' S' xe,AR So Dt μ' S' σ' a'→Rel μ' S' σ'.heap B w0 w'→Carry B μo So Ho μ' S' σ'.heap→e.Is μ' S' σ'.heap xe→Q xe a' w')→c.wpIn (WF rd) 0 P (ny (WF rd) P lf c Q) a w
 | .seq x y,hg,σ,e,σ',a,w,μ,S,Q,h,hne,hB,A,R,Co,hK=>by
  simp only[aF] at h
  cases hl:tO x with
  | some l=>
   rw[hl] at h
   have hx:=yT hl
   subst hx
   have hJ:ny (WF rd) P lf (.seq (.label l) y) Q=wV l (me (WF rd) 0 P l (.seq .skip y) Q lf) Q:=rfl
   rw[hJ]
   refine wpIn_seq (wpIn_label ?_)
   simp only at h
   show y.wpIn (WF rd) 0 P _ a w
   have main:∀ (σ2:St) (e2:Ex),cE lf (dy od (hintOf Hn base y σ) fun σ=>jK l (aF P C Hn F lf base od rf false y σ)) σ=some (e2,σ2) →
     (∀ e3,QY e2=some e3→∀ a' w' μ' S',AR So Dt μ' S' σ2 a'→Rel μ' S' σ2.heap B w0 w'→Carry B μo So Ho μ' S' σ2.heap→Q e3.to a' w')→y.wpIn (WF rd) 0 P (wV l (me (WF rd) 0 P l (.seq .skip y) Q lf) Q) a w:=by
    intro σ2 e2 h hK
    refine Lf (μo:=μo) (So:=So) (Ho:=Ho) (f:=dy od (hintOf Hn base y σ) fun σ=>jK l (aF P C Hn F lf base od rf false y σ)) (fun σ e σ' h hB=>?_) (fun σ e σ' a w μ S Q h hB A R Co hK=>?_) lf σ e2 σ2 a w μ S h hB A R Co hK
    ·unfold dy at h
     split at h
     ·exact MM (fun σ e σ'=>aJ hF false y σ e σ') h hB
     ·split at h
      ·rename_i σ1 h1;exact MM (fun σ e σ'=>aJ hF false y σ e σ') h (pI h1)
      ·simp at h
    ·have go:∀ (σ:St) (μ:Mu),jK l (aF P C Hn F lf base od rf false y σ)=some (e,σ')→Bd σ→AR So Dt μ S σ a→Rel μ S σ.heap B w0 w→Carry B μo So Ho μ S σ.heap→y.wpIn (WF rd) 0 P Q a w:=by
      intro σ μ h hB A R Co
      unfold jK at h
      split at h
      ·rename_i e1 σ1 h1
       split at h
       ·rename_i e4 h4
        cases h
        refine aH hrf hC hF hod y hg.right σ e1 _ a w μ S Q h1 hB A R Co fun a' w' μ' S' xe A' R' C' hx=>?_
        have he1:e1.e7=false:=by cases e1<;>first|rfl|(simp[jk] at h4)
        have hxe:xe=e1.to:=by cases e1<;>first|exact hx|(simp[Ex.e7] at he1)
        subst hxe
        exact hK e1 h4 a' w' μ' S' A' R' C'
       ·simp at h
      ·simp at h
     unfold dy at h
     split at h
     ·exact go σ μ h hB A R Co
     ·split at h
      ·rename_i σ1 h1
       obtain⟨μ1,A1,R1,C1,B1⟩:=x9 h1 A R hod Co
       exact go σ1 μ1 h B1 A1 R1 C1
      ·simp at h
   unfold yx at h
   split at h
   ·rename_i e1 σ1 h1
    split at h
    ·rename_i e2 h2
     cases h
     rcases jN h1 with h|⟨σ2,h',h,hh⟩
     ·exact main _ _ h fun e3 h3 a' w' μ' S' A' R' C'=>by rw[h2] at h3;cases h3;exact hK a' w' μ' S' _ A' R' C' (Ex.Is.self (B6 h2))
     ·refine main σ2 _ h fun e3 h3 a' w' μ' S' A' R' C'=>?_
      rw[h2] at h3;cases h3
      obtain⟨μ1,A1,R1,C1,B1⟩:=x9 hh A' R' hod C'
      exact hK a' w' μ1 S' _ A1 R1 C1 (Ex.Is.self (B6 h2))
    ·simp at h
   ·simp at h
  | none=>
   rw[hl] at h
   simp only at h
   have hJ:ny (WF rd) P lf (.seq x y) Q=ny (WF rd) P lf y Q:=by unfold ny;simp only[bB,hl]
   rw[hJ]
   refine wpIn_seq ?_
   split at h
   ·rename_i σ1 h1
    refine aH hrf hC hF hod x hg.left σ .dJ σ1 a w μ S _ h1 hB A R Co fun a1 w1 μ1 S1 xe A1 R1 C1 hx=>?_
    cases (show xe = .normal from hx)
    exact Af hrf hC hF hod y hg.right σ1 e σ' a1 w1 μ1 S1 Q h hne (aJ hF false x σ _ σ1 h1 hB) A1 R1 C1 hK
   ·rename_i i σ1 h1;cases h;exact aH hrf hC hF hod x hg.left σ (.exit i) _ a w μ S _ h1 hB A R Co fun a' w' μ' S' xe A' R' C' hx=>lP (by simp) hx (bP _ xe hx hne _ _ (hK a' w' μ' S' xe A' R' C' hx))
   ·rename_i σ1 h1;cases h;exact aH hrf hC hF hod x hg.left σ .ret _ a w μ S _ h1 hB A R Co fun a' w' μ' S' xe A' R' C' hx=>lP (by simp) hx (bP _ xe hx hne _ _ (hK a' w' μ' S' xe A' R' C' hx))
   ·rename_i v σ1 h1;cases h;exact aH hrf hC hF hod x hg.left σ (.gh v) _ a w μ S _ h1 hB A R Co fun a' w' μ' S' xe A' R' C' hx=>lP (by simp) hx (bP _ xe hx hne _ _ (hK a' w' μ' S' xe A' R' C' hx))
   ·simp at h
 | .skip,hg,σ,e,σ',a,w,μ,S,Q,h,hne,hB,A,R,Co,hK=>aH hrf hC hF hod (.skip) hg σ e σ' a w μ S _ (by rw[← eo (by rfl)];exact h) hB A R Co fun a' w' μ' S' xe A' R' C' hx=>bP e xe hx hne _ _ (hK a' w' μ' S' xe A' R' C' hx)
 | .region i o d,hg,σ,e,σ',a,w,μ,S,Q,h,hne,hB,A,R,Co,hK=>aH hrf hC hF hod (.region i o d) hg σ e σ' a w μ S _ (by rw[← eo (by rfl)];exact h) hB A R Co fun a' w' μ' S' xe A' R' C' hx=>bP e xe hx hne _ _ (hK a' w' μ' S' xe A' R' C' hx)
 | .cond i x y,hg,σ,e,σ',a,w,μ,S,Q,h,hne,hB,A,R,Co,hK=>aH hrf hC hF hod (.cond i x y) hg σ e σ' a w μ S _ (by rw[← eo (by rfl)];exact h) hB A R Co fun a' w' μ' S' xe A' R' C' hx=>bP e xe hx hne _ _ (hK a' w' μ' S' xe A' R' C' hx)
 | .block i x,hg,σ,e,σ',a,w,μ,S,Q,h,hne,hB,A,R,Co,hK=>aH hrf hC hF hod (.block i x) hg σ e σ' a w μ S _ (by rw[← eo (by rfl)];exact h) hB A R Co fun a' w' μ' S' xe A' R' C' hx=>bP e xe hx hne _ _ (hK a' w' μ' S' xe A' R' C' hx)
 | .loop x,hg,σ,e,σ',a,w,μ,S,Q,h,hne,hB,A,R,Co,hK=>aH hrf hC hF hod (.loop x) hg σ e σ' a w μ S _ (by rw[← eo (by rfl)];exact h) hB A R Co fun a' w' μ' S' xe A' R' C' hx=>bP e xe hx hne _ _ (hK a' w' μ' S' xe A' R' C' hx)
 | .exit i,hg,σ,e,σ',a,w,μ,S,Q,h,hne,hB,A,R,Co,hK=>aH hrf hC hF hod (.exit i) hg σ e σ' a w μ S _ (by rw[← eo (by rfl)];exact h) hB A R Co fun a' w' μ' S' xe A' R' C' hx=>bP e xe hx hne _ _ (hK a' w' μ' S' xe A' R' C' hx)
 | .label i,hg,σ,e,σ',a,w,μ,S,Q,h,hne,hB,A,R,Co,hK=>aH hrf hC hF hod (.label i) hg σ e σ' a w μ S _ (by rw[← eo (by rfl)];exact h) hB A R Co fun a' w' μ' S' xe A' R' C' hx=>bP e xe hx hne _ _ (hK a' w' μ' S' xe A' R' C' hx)
 | .ret,hg,σ,e,σ',a,w,μ,S,Q,h,hne,hB,A,R,Co,hK=>aH hrf hC hF hod (.ret) hg σ e σ' a w μ S _ (by rw[← eo (by rfl)];exact h) hB A R Co fun a' w' μ' S' xe A' R' C' hx=>bP e xe hx hne _ _ (hK a' w' μ' S' xe A' R' C' hx)
 | .rangeFunc g p x y,hg,σ,e,σ',a,w,μ,S,Q,h,hne,hB,A,R,Co,hK=>aH hrf hC hF hod (.rangeFunc g p x y) hg σ e σ' a w μ S _ (by rw[← eo (by rfl)];exact h) hB A R Co fun a' w' μ' S' xe A' R' C' hx=>bP e xe hx hne _ _ (hK a' w' μ' S' xe A' R' C' hx)
 | .scope x,hg,σ,e,σ',a,w,μ,S,Q,h,hne,hB,A,R,Co,hK=>aH hrf hC hF hod (.scope x) hg σ e σ' a w μ S _ (by rw[← eo (by rfl)];exact h) hB A R Co fun a' w' μ' S' xe A' R' C' hx=>bP e xe hx hne _ _ (hK a' w' μ' S' xe A' R' C' hx)
 | .goto i,hg,σ,e,σ',a,w,μ,S,Q,h,hne,hB,A,R,Co,hK=>aH hrf hC hF hod (.goto i) hg σ e σ' a w μ S _ (by rw[← eo (by rfl)];exact h) hB A R Co fun a' w' μ' S' xe A' R' C' hx=>bP e xe hx hne _ _ (hK a' w' μ' S' xe A' R' C' hx)
 | .refuse i,hg,σ,e,σ',a,w,μ,S,Q,h,hne,hB,A,R,Co,hK=>aH hrf hC hF hod (.refuse i) hg σ e σ' a w μ S _ (by rw[← eo (by rfl)];exact h) hB A R Co fun a' w' μ' S' xe A' R' C' hx=>bP e xe hx hne _ _ (hK a' w' μ' S' xe A' R' C' hx)
end
end
def Da (tmps:Array Value):ResultVar→Sem Value
 | .tmp t=>pure (tmps.getD t undef)
 | .cell x t=>do loadVar t (← asAddr (tmps.getD x undef))
theorem Se {σ:St}{a:Act}{w:World}{μ:Mu}{S:an}(A:AR N Dt μ S σ a)(R:Rel μ S σ.heap B w0 w){r:ResultVar}{v:AV}(h:RG P σ r=some v) :
  ∃ u,(Da a.tmps r).run P w = .ok u w∧VR μ S σ.heap v u:=by
 cases r with
 | tmp t=>
  obtain⟨h1,rfl⟩:=aj h
  exact⟨_,rfl,A.tmp t (cG h1)⟩
 | cell x t=>
  simp only[RG] at h
  split at h
  ·rename_i i off hx
   split at h
   ·rename_i t' cs hH
    have hv:=A.val (.tmp x)
    rw[hx] at hv
    simp only[VR] at hv
    obtain⟨b,c,hm,_,e⟩:=hv
    obtain⟨vs,hb,hvs⟩:=uc R hH hm
    obtain⟨u,hu,hv⟩:=jH (P:=P) (w:=w) (ad:=⟨b,0,none⟩) hvs (fun j u hj=>by rw[bg,Nat.zero_add,cell_of hb];simpa using hj) h
    rw[bg,Nat.zero_add] at hu
    have e':a.tmps.getD x undef = .pointer (some ⟨b,off,none⟩):=e
    refine⟨u,?_,hv⟩
    simp only[Da,e',asAddr,Sem.run_bind,Sem.run_pure,Result.andThen_ok,hu]
   ·simp at h
  ·simp at h
theorem Cm {σ:St}{a:Act}{w:World}{μ:Mu}{S:an}(A:AR N Dt μ S σ a)(R:Rel μ S σ.heap B w0 w):∀ {rs:List ResultVar} {vs:List AV},eF P σ rs=some vs →
  ∃ us,(rs.mapM (Da a.tmps)).run P w = .ok us w∧aP μ S σ.heap vs us
 | [],vs,h=>by
  simp only[eF,Option.some.injEq] at h;subst h
  exact⟨[],by simp,by simp[aP]⟩
 | r::rs,vs,h=>by
  simp only[eF] at h
  split at h
  ·rename_i v vs' h1 h2
   cases h
   obtain⟨u,k1,k2⟩:=Se A R h1
   obtain⟨us,q1,q2⟩:=Cm A R h2
   refine⟨u::us,?_,by simp only[aP];exact⟨u,us,rfl,k2,q2⟩⟩
   rw[List.mapM_cons]
   simp only[Sem.run_bind,k1,q1,Result.andThen_ok,Sem.run_pure]
  ·simp at h
theorem qR {fn:Func}{σ:St}{a:Act}{w:World}{μ:Mu}{S:an}(A:AR N Dt μ S σ a)(R:Rel μ S σ.heap B w0 w){vs:List AV}(h:eF P σ fn.results.toList=some vs) :
  ∃ u,(results fn a.tmps).run P w = .ok u w∧VR μ S σ.heap (gU vs) u:=by
 obtain⟨us,h1,h2⟩:=Cm A R h
 refine⟨i6 us,?_,Aa h2⟩
 have e:results fn a.tmps=(do
   let vs ← fn.results.mapM (Da a.tmps)
   pure (if h:vs.size=1 then vs[0] else .tuple vs)):=by
  unfold results
  congr 1
  all_goals (congr 1;try (funext r;cases r<;>rfl))
 rw[e,Array.mapM_eq_mapM_toList]
 simp only[Sem.run_bind,Sem.run_map,Result.andThen_ok,h1,Sem.run_pure]
 match us with
 | []=>rfl
 | [u]=>rfl
 | u::v::us=>simp[i6]
omit [ar] in
theorem kz {μ:Mu}{S:an}{H:Heap}:∀ {as:List AV} {vs:List Value},aP μ S H as vs→∀ t,VR μ S H (cV as t) (vs.getD t undef)
 | [],vs,h,t=>by simp only[aP] at h;subst h;simp[cV,VR]
 | a::as,vs,h,t=>by
  simp only[aP] at h
  obtain⟨v,r,rfl,h1,h2⟩:=h
  cases t with
  | zero=>simpa [cV] using h1
  | succ t=>simpa [cV] using kz h2 t
omit [ar] in
theorem Tb {i k r:Nat}{f g:St→Option (Ex×St)}{σ:St}{v:AV}{H':Heap}{L':List Nat}(hf:∀ σ e σ',f σ=some (e,σ')→Bd σ→Bd σ')(hg:∀ σ e σ',g σ=some (e,σ')→Bd σ→Bd σ')
  (h:Bu i k r f g σ=some (v,H',L')) (hB:Bd σ):∀ q,H' q≠none→q∈L':=by
 unfold Bu at h
 split at h
 ·rename_i σ1 h1
  split at h
  ·rename_i σ2 h2
   split at h
   ·rename_i e σ3 h3
    have B1:=hf _ _ _ h1 hB
    have B2:Bd σ2:=by
     unfold tI at h2
     split at h2
     ·rename_i hH
      obtain⟨_,e2⟩:=aj h2
      cases e2
      intro q hq
      by_cases eq:q=i
      ·subst eq;exact B1 q (by rw[hH];simp)
      ·simp only at hq;rw[aA _ _ eq] at hq;exact B1 q hq
     ·simp at h2
    have B3:=hg _ _ _ h3 B2
    unfold yo at h
    split at h
    ·rename_i hH
     obtain⟨_,e2⟩:=aj h
     cases e2
     intro q hq
     by_cases eq:q=i
     ·subst eq;exact B3 q (by rw[hH];simp)
     ·rw[aA _ _ eq] at hq;exact B3 q hq
    ·simp at h
   ·simp at h
  ·simp at h
 ·simp at h
theorem UA {Hn:Hints}:∀ n id k as H L v H' L',dl P (bK P C Hn lf n)→bK P C Hn lf (n+1) id k as H L=some (v,H',L')→(∀ q,H q≠none→q∈L)→∀ q,H' q≠none→q∈L':=by
 intro n id k as H L v H' L' hF h hB
 cases k with
 | fn k=>
  simp only[bK] at h
  split at h
  ·rename_i fn hfn
   split at h
   ·rename_i c hc
    cases hle:Nat.ble as.length fn.ntmps with
    | false=>rw[hle] at h;simp at h
    | true=>
     rw[hle] at h
     simp only[cond_true] at h
     unfold sj at h
     split at h
     ·rename_i σ he
      split at h
      ·cases h;exact aJ hF false c _ _ σ he hB
      ·simp at h
     ·rename_i σ he
      split at h
      ·cases h;exact aJ hF false c _ _ σ he hB
      ·simp at h
     ·rename_i x σ he
      cases h;exact aJ hF false c _ _ σ he hB
     ·simp at h
   ·simp at h
  ·simp at h
 | jZ i=>
  simp only[bK] at h
  split at h
  ·rename_i k r x σ hin
   have hB0:Bd σ:=by
    unfold yQ at hin
    split at hin
    ·split at hin
     ·obtain⟨_,e1⟩:=aj hin
      cases e1
      exact hB
     ·simp at hin
    ·simp at hin
   exact Tb (fun σ e σ' h hB=>aJ hF false _ σ e σ' h hB) (fun σ e σ' h hB=>aJ hF false _ σ e σ' h hB) h hB0
  ·simp at h
theorem Rel.ids {μ:Mu}{S:an}{H:Heap}{w:World}{L:List Nat}(R:Rel μ S H B w0 w)(hBd:∀ q,H q≠none→q∈L):∀ i,μ i≠none→i∈L:=fun i hi=>hBd i (fun h=>by
 have:=R.dom i
 rw[h] at this
 cases hm:μ i with
 | none=>exact hi hm
 | some l=>rw[hm] at this;simp at this)
theorem UU {Hn:Hints}(hC:bV P C){n:Nat}(ih:dl P (bK P C Hn lf n)){id k:Nat}{as:List AV}{H H':Heap}{L L':List Nat}{v:AV}(h:bK P C Hn lf (n+1) id (.fn k) as H L=some (v,H',L'))(hBd:∀ q,H q≠none→q∈L)
  {μ:Mu} {S:an} {B:Nat} {w0 w:World} {us:Array Value} (R:Rel μ S H B w0 w) (hv:aP μ S H as us.toList) :
  Calls P k us w fun e w'=>∃ μ' S',fW μ' S' H' v e∧Rel μ' S' H' B w0 w'∧Carry B μ S H μ' S' H':=by
 simp only[bK] at h
 split at h
 case h_2=>simp at h
 rename_i fn hfn
 split at h
 case h_2=>simp at h
 rename_i c hc
 cases hle:Nat.ble as.length fn.ntmps with
 | false=>rw[hle] at h;simp at h
 | true=>
  rw[hle] at h
  simp only[cond_true] at h
  have hle:=Nat.le_of_ble_eq_true hle
  have hlen:=aT hv
  simp only[Array.length_toList] at hlen
  refine (gw (r:=none) (n:=0)).1 (callsIn_of_wp_marks hfn hc trivial ?_ rfl)
  have A0:AR S (false,[]) μ S ⟨fn.ntmps,cV as,H,L⟩ { tmps:=us++Array.replicate (fn.ntmps-us.size) undef,defers:=[] }:=by
   refine⟨⟨[],rfl,⟨List.nodup_nil,by simp⟩,fun _=>rfl⟩,by simp;omega,fun t ht=>?_⟩
   have:=kz hv t
   rw[List.getD_eq_getElem?_getD] at this
   rw[Array.getD_eq_getD_getElem?]
   by_cases hlt:t<us.size
   ·rw[Array.getElem?_append_left hlt];simpa using this
   ·rw[Array.getElem?_append_right (by omega),Array.getElem?_replicate]
    have e1:us.toList[t]? = none:=by rw[List.getElem?_eq_none];simp;omega
    rw[e1] at this
    have:t-us.size<fn.ntmps-us.size:=by simp only at ht;omega
    rw[if_pos this];assumption
  have hod:=R.ids hBd
  have leave:∀ (e:Ex) (σ:St),aF P C Hn (bK P C Hn lf n) lf (Nat.succ id * 4294967296) L (some k) false c ⟨fn.ntmps,cV as,H,L⟩=some (e,σ) →
    (∀ (a':Act) w2 μ' S' S2 xe,AR S (false,[]) μ' S2 σ { tmps:=a'.tmps,defers:=[] }→Rel μ' S2 σ.heap B w0 w2→Carry B μ S H μ' S2 σ.heap→ij S' S2→e.Is μ' S' σ.heap xe →
     (bodyPostM (WF none) 0 P fn (fun e w'=>∃ μ' S',fW μ' S' H' v e∧Rel μ' S' H' B w0 w'∧Carry B μ S H μ' S' H')) xe { tmps:=a'.tmps,defers:=[] } w2) →
    (e.to = .normal∨e.to = .ret) →
    c.wpIn (WF none) 0 P (bodyPostM (WF none) 0 P fn fun e w'=>∃ μ' S',fW μ' S' H' v e∧Rel μ' S' H' B w0 w'∧Carry B μ S H μ' S' H') { tmps:=us++Array.replicate (fn.ntmps-us.size) undef,defers:=[] } w:=by
   intro e σ he hK hne
   refine aH (Dt:=(false,[])) (μo:=μ) (So:=S) (Ho:=H) (fun _=>⟨rfl,rfl⟩) hC ih hod c (.top hfn hc) _ e σ _ w μ S _ he hBd A0 R Carry.refl fun a' w' μ' S' xe A' R' C' hx=>?_
   have main:∀ (u:FrameMode),u ≠ .run→(∀ S2 w2,Rel μ' S2 σ.heap B w0 w2→ij S' S2→Carry B μ S H μ' S2 σ.heap→LeavesInM (WF none) 0 P fn a'.tmps (fun e w'=>∃ μ' S',fW μ' S' H' v e∧Rel μ' S' H' B w0 w'∧Carry B μ S H μ' S' H') [] u w2) →
     LeavesInM (WF none) 0 P fn a'.tmps (fun e w'=>∃ μ' S',fW μ' S' H' v e∧Rel μ' S' H' B w0 w'∧Carry B μ S H μ' S' H') a'.defers u w':=by
    intro u hu hL
    obtain⟨ms,hms,hmk,_⟩:=A'.defers
    rw[hms]
    refine l6 hu R.pre ms S' w' R' hmk C'.sub (fun D hD=>?_) fun S2 w2 R2 hc2 hs2 hn2=>hL S2 w2 R2 hc2 ⟨fun a v h=>kJ hc2 _ _ (C'.vr a v h),fun b hb=>C'.st b (hn2 b hb),hs2⟩
    rcases C'.st D (by rw[(hmk.2 D hD).2];simp) with h|h
    ·exact absurd (hmk.2 D hD).1 h
    ·exact h
   have A2:∀ {S2},ij S' S2→AR S (false,[]) μ' S2 σ { tmps:=a'.tmps,defers:=[] }:=fun {S2} hc2=>⟨⟨[],rfl,⟨List.nodup_nil,by simp⟩,fun _=>rfl⟩,A'.size,fun t ht=>kJ hc2 _ _ (A'.tmp t ht)⟩
   have fin:∀ u,u ≠ .run→(∀ S2 w2,bodyPostM (WF none) 0 P fn (fun e w'=>∃ μ' S',fW μ' S' H' v e∧Rel μ' S' H' B w0 w'∧Carry B μ S H μ' S' H') xe { tmps:=a'.tmps,defers:=[] } w2→LeavesInM (WF none) 0 P fn a'.tmps (fun e w'=>∃ μ' S',fW μ' S' H' v e∧Rel μ' S' H' B w0 w'∧Carry B μ S H μ' S' H') [] u w2) →
     LeavesInM (WF none) 0 P fn a'.tmps (fun e w'=>∃ μ' S',fW μ' S' H' v e∧Rel μ' S' H' B w0 w'∧Carry B μ S H μ' S' H') a'.defers u w':=fun u hu hL=>
    main u hu fun S2 w2 R2 hc2 C2=>hL S2 w2 (hK a' w2 μ' S' S2 xe (A2 hc2) R2 C2 hc2 hx)
   cases e with
   | dJ=>cases (show xe = .normal from hx);exact fin .returning (by simp) fun S2 w2 h=>h
   | ret=>cases (show xe = .ret from hx);exact fin .returning (by simp) fun S2 w2 h=>h
   | gh x=>obtain⟨u,rfl,_⟩:=hx;exact fin (.panicking (Fi u)) (by simp) fun S2 w2 h=>h
   | exit i=>rcases hne with h|h<;>simp[Ex.to] at h
   | goto i=>rcases hne with h|h<;>simp[Ex.to] at h
  have fin:∀ (e:Ex) (σ:St),aF P C Hn (bK P C Hn lf n) lf (Nat.succ id * 4294967296) L (some k) false c ⟨fn.ntmps,cV as,H,L⟩=some (e,σ)→e = .dJ∨e = .ret →
    (∃ vs,eF P σ fn.results.toList=some vs∧v=gU vs∧H'=σ.heap) →
    c.wpIn (WF none) 0 P (bodyPostM (WF none) 0 P fn fun e w'=>∃ μ' S',fW μ' S' H' v e∧Rel μ' S' H' B w0 w'∧Carry B μ S H μ' S' H') { tmps:=us++Array.replicate (fn.ntmps-us.size) undef,defers:=[] } w:=by
   rintro e σ he hex ⟨vs,hvs,rfl,rfl⟩
   refine leave e σ he (fun a' w2 μ' S' S2 xe A2 R2 C2 hc2 hx=>?_) (by rcases hex with rfl|rfl<;>simp[Ex.to])
   obtain⟨u,k1,k2⟩:=qR A2 R2 hvs
   have hL:LeavesInM (WF none) 0 P fn a'.tmps (fun e w'=>∃ μ' S',fW μ' S' σ.heap (gU vs) e∧Rel μ' S' σ.heap B w0 w'∧Carry B μ S H μ' S' σ.heap) [] .returning w2:=⟨u,k1,μ',S2,fW.ret k2,R2,C2⟩
   rcases hex with rfl|rfl
   ·cases (show xe = .normal from hx);exact hL
   ·cases (show xe = .ret from hx);exact hL
  unfold sj at h
  split at h
  ·rename_i σ he
   split at h
   ·rename_i vs hvs;cases h;exact fin .dJ σ he (.inl rfl) ⟨vs,hvs,rfl,rfl⟩
   ·simp at h
  ·rename_i σ he
   split at h
   ·rename_i vs hvs;cases h;exact fin .ret σ he (.inr rfl) ⟨vs,hvs,rfl,rfl⟩
   ·simp at h
  ·rename_i x σ he
   cases h
   refine leave (.gh x) _ he (fun a' w2 μ' S' S2 xe A2 R2 C2 hc2 hx=>?_) (.inl rfl)
   obtain⟨u,rfl,hu⟩:=hx
   exact⟨μ',S2,⟨u,rfl,kJ hc2 _ _ hu⟩,R2,C2⟩
  ·simp at h
theorem Py {Hn:Hints}(hC:bV P C){n:Nat}(ih:dl P (bK P C Hn lf n)){id i:Nat}{as:List AV}{H H':Heap}{L L':List Nat}{v:AV}(h:bK P C Hn lf (n+1) id (.jZ i) as H L=some (v,H',L'))(hBd:∀ q,H q≠none→q∈L)
  {μ:Mu} {S:an} {B:Nat} {w0 w:World} {us:Array Value} (R:Rel μ S H B w0 w) (hv:aP μ S H as us.toList) :
  w9 P μ (.jZ i) us w fun e w'=>∃ μ' S',fW μ' S' H' v e∧Rel μ' S' H' B w0 w'∧Carry B μ S H μ' S' H':=by
 simp only[bK] at h
 split at h
 case h_2=>simp at h
 rename_i k r x σ hin
 intro b cp hm
 unfold yQ at hin
 split at hin
 case h_2=>simp at hin
 rename_i k r ts hH
 split at hin
 case h_2=>simp at hin
 rename_i x hx
 obtain⟨hps,e1⟩:=aj hin
 cases e1
 obtain⟨Lp,hL,hrng,hst,hvs⟩:=R.loop hH hm
 rw[hC.2.2,hx,Option.some.injEq] at hrng
 have hlen:=aT hv
 simp only[Array.length_toList] at hlen
 have hps:=Nat.eq_of_beq_eq_true hps
 have hsz:us.size=Lp.params.size:=by rw[← hlen,← hps,hrng]
 have hyv:VR μ S H (.jZ i) (.func (.yield b) #[] #[]):=by
  simp only[VR]
  exact⟨b,cp,hm,fun t e g xs h=>by rw[hH] at h;simp at h,rfl⟩
 have getμ:∀ {μ':Mu} {S':an} {H':Heap},Carry B μ S H μ' S' H'→∃ c,μ' i=some ⟨some b,c⟩:=by
  intro μ' S' H' hc
  have:=hc.vr _ _ hyv
  simp only[VR] at this
  obtain⟨b',c',h1,_,h2⟩:=this
  injection h2 with h2;injection h2 with h2
  subst h2
  exact⟨c',h1⟩
 refine⟨Lp.fn,_,Lp.assign,Lp.body,run_yield hL hsz,roundIn_of_wpIn trivial ?_⟩
 have hT:aP μ S H (oM ts x.1.toList as) ((Lp.params.zip us).foldl (fun tmps (t,a)=>tmps.setIfInBounds t a) Lp.tmps).toList:=by
  have:=Bc (ps:=x.1.toList) hvs hv
  rw[← Array.foldl_toList,Array.toList_zip,← show x.1=Lp.params by rw[hrng]]
  exact this
 have hsl:∀ (ts:List AV) (ps:List Tmp) (as:List AV),(oM ts ps as).length=ts.length:=by
  intro ts ps
  induction ps generalizing ts with
  | nil=>intro as;cases as<;>rfl
  | cons p ps ihp=>
   intro as
   cases as with
   | nil=>rfl
   | cons a as=>simp only[oM];rw[ihp];simp
 have A0:AR S (false,[]) μ S ⟨ts.length,cV (oM ts x.1.toList as),H,L⟩ { tmps:=(Lp.params.zip us).foldl (fun tmps (t,a)=>tmps.setIfInBounds t a) Lp.tmps,defers:=[] }:=by
  refine⟨⟨[],rfl,⟨List.nodup_nil,by simp⟩,fun _=>rfl⟩,?_,fun t ht=>?_⟩
  ·have:=aT hT
   rw[hsl] at this
   simpa using this.symm
  ·have:=kz hT t
   rw[List.getD_eq_getElem?_getD,Array.getElem?_toList] at this
   rw[Array.getD_eq_getD_getElem?]
   exact this
 have hod:=R.ids hBd
 unfold Bu at h
 split at h
 case h_2=>simp at h
 rename_i σ1 h1
 split at h
 case h_2=>simp at h
 rename_i σ2 h2
 split at h
 case h_2=>simp at h
 rename_i e σ3 h3
 have ea:x.2.1=Lp.assign:=by rw[hrng]
 have eb:x.2.2=Lp.body:=by rw[hrng]
 rw[← ea,← eb]
 have hB0:Bd ⟨ts.length,cV (oM ts x.1.toList as),H,L⟩:=hBd
 have hB1:=aJ ih false _ _ _ _ h1 hB0
 refine aH (rd:=some b) (μo:=μ) (So:=S) (Ho:=H) (fun h=>absurd rfl h) hC ih hod x.2.1 .none _ .dJ σ1 _ w μ S _ h1 hBd A0 R Carry.refl fun a1 w1 μ1 S1 xe A1 R1 C1 hx1=>?_
 cases (show xe = .normal from hx1)
 unfold tI at h2
 split at h2
 case h_2=>simp at h2
 rename_i k' r' ts1 hH1
 obtain⟨hkr,e2⟩:=aj h2
 cases e2
 simp only[Bool.and_eq_true] at hkr
 have ek:=Nat.eq_of_beq_eq_true hkr.1
 have er:=Nat.eq_of_beq_eq_true hkr.2
 subst ek er
 obtain⟨c1,hm1⟩:=getμ C1
 obtain⟨L1,hL1,hr1,hst1,hv1⟩:=R1.loop hH1 hm1
 obtain⟨R2,E2⟩:=R1.xE (st':=.busy) (L':={ L1 with state:=.busy }) hH1 hm1 hL1 ⟨rfl,rfl,rfl,rfl⟩ rfl
 refine⟨_,run_beginRound hL1 hst1.1,?_⟩
 have hB2:Bd ⟨σ1.nt,σ1.tmps,aU σ1.heap i (some (.loop k' r' .busy ts1)),σ1.ids⟩:=by
  intro q hq
  by_cases eq:q=i
  ·subst eq;exact hB1 q (by rw[hH1];simp)
  ·simp only at hq;rw[aA _ _ eq] at hq;exact hB1 q hq
 refine aH (rd:=some b) (μo:=μ) (So:=S) (Ho:=H) (fun h=>absurd rfl h) hC ih hod x.2.2 .none _ e σ3 a1 _ μ1 S1 _ h3 hB2 ⟨A1.defers,A1.size,fun t ht=>en E2 _ _ (A1.tmp t ht)⟩ R2 (C1.trans (Carry.of E2)) fun a3 w3 μ3 S3 xe A3 R3 C3 hx3=>?_
 unfold yo at h
 split at h
 case h_2=>simp at h
 rename_i k2 r2 ts3 hH3
 obtain⟨hkr,e3⟩:=aj h
 cases e3
 obtain⟨c3,hm3⟩:=getμ C3
 simp only[Bool.and_eq_true] at hkr
 have ek:=Nat.eq_of_beq_eq_true hkr.1.1
 have er:=Nat.eq_of_beq_eq_true hkr.1.2
 subst ek er
 obtain⟨L3,hL3,hr3,hst3,hv3⟩:=R3.loop hH3 hm3
 have fin:∀ (j:Option Code) (st:O2) (c:Bool),j.isNone=c→st.Is (if j.isNone then .ready else .done) j→st=e.st→c=e.on→∃ v' w',(Instr.endRound b j).run P w3 = .ok v' w' ∧
   ∃ μ' S',fW μ' S' (aU σ3.heap i (some (.loop k2 r2 e.st ts3))) (.lit (.bool e.on)) (Ending.returned v')∧Rel μ' S' (aU σ3.heap i (some (.loop k2 r2 e.st ts3))) B w0 w'∧Carry B μ S H μ' S' (aU σ3.heap i (some (.loop k2 r2 e.st ts3))):=by
  intro j st c hj his he hc
  subst he
  subst hc
  obtain⟨R4,E4⟩:=R3.xE (st':=e.st) (L':={ L3 with state:=if j.isNone then .ready else .done,pending:=j }) hH3 hm3 hL3 ⟨rfl,rfl,rfl,rfl⟩ his
  refine⟨_,_,run_endRound j hL3,μ3,S3,?_,R4,C3.trans (Carry.of E4)⟩
  rw[hj]
  exact fW.ret (by simp only[VR])
 cases e with
 | dJ=>cases (show xe = .normal from hx3);exact fin none .ready true rfl ⟨rfl,rfl⟩ rfl rfl
 | ret=>cases (show xe = .ret from hx3);exact fin (some .ret) (.done .ret) false rfl ⟨rfl,rfl⟩ rfl rfl
 | exit q=>cases (show xe = .exit q from hx3);exact fin (some (.exit q)) (.done (.exit q)) false rfl ⟨rfl,rfl⟩ rfl rfl
 | goto q=>cases (show xe = .goto q from hx3);exact fin (some (.goto q)) (.done (.goto q)) false rfl ⟨rfl,rfl⟩ rfl rfl
 | gh v=>have:=hkr.2;simp[Ex.e7] at this
theorem iZ {Hn:Hints}(hC:bV P C):∀ n,dl P (bK P C Hn lf n)
 | 0=>fun id k as H L v H' L' h=>by simp[bK] at h
 | n+1=>by
  intro id k as H L v H' L' h hBd
  refine⟨UA n id k as H L v H' L' (iZ hC n) h hBd,?_⟩
  intro μ S B w0 w us R hv
  cases k with
  | fn k=>exact UU hC (iZ hC n) h hBd R hv
  | jZ i=>exact Py hC (iZ hC n) h hBd R hv
end
def aa9 (t:Ty)(x:t.T):AV:=cond t.isAgg (.agg (enc t x)) (Tw (enc t x))
def bT:(ps:List Ty)→fG ps→List AV
 | [],_=>[]
 | t::ts,x=>aa9 t x.1::bT ts x.2
def LD (H:Heap)(te:TypeId)(e:Ty):List AV→Option (List e.T×List AV×List Nat)
 | .sl i g::r=>match H i with
  | some (.row te' e' g' xs)=>cond (Nat.beq g g'&&Nat.beq te te') (match jv (e:=e') (e':=e) xs with
   | some ys=>some (ys,r,[i])
   | none=>none) none
  | _=>none
 | .lit (.slice none 0 0)::r=>some ([],r,[])
 | .sub i g a b::r=>match H i with
  | some (.row te' e' g' xs)=>cond (Nat.beq a 0&&Nat.beq g g'&&Nat.beq te te') (match jv (e:=e') (e':=e) (xs.take b) with
   | some ys=>some (ys,r,[i])
   | none=>none) none
  | _=>none
 | _=>none
def gj.sn:gj→Bool
 | .val _=>true
 | .own _ _=>false
 | .pair a b=>a.sn&&b.sn
 | .one a=>a.sn
 | .any=>true
def qH:List gj→Bool
 | []=>true
 | t::ts=>t.sn&&qH ts
def Em (Hv H:Heap):(t:gj)→List AV→Option (t.T×List AV×List Nat)
 | .val t,l=>match dec Hv t l with
  | some (x,r)=>some (x,r,[])
  | none=>none
 | .own te e,l=>LD H te e l
 | .pair a b,l=>match Em Hv H a l with
  | some (x,l',o)=>match Em Hv H b l' with
   | some (y,l'',p)=>some ((x,y),l'',o++p)
   | none=>none
  | none=>none
 | .one a,l=>Em Hv H a l
 | .any,_=>none
def Th (Hv H:Heap)(t:gj)(a:AV):Option (t.T×List Nat):=
 cond (t.isAgg == a.isAgg) (match Em Hv H t a.inside with
  | some (x,[],o)=>some (x,o)
  | _=>none) none
def zi (Hv H:Heap):(rs:List gj)→List AV→Option (AA rs×List Nat)
 | [],[]=>some ((),[])
 | t::ts,a::as=>match Th Hv H t a with
  | some (x,o)=>match zi Hv H ts as with
   | some (y,p)=>some ((x,y),o++p)
   | none=>none
  | none=>none
 | _,_=>none
def AV.parts (n:Nat):AV→List AV
 | .A8 vs=>cond (Nat.beq n 1) [.A8 vs] vs
 | a=>[a]
def iu (rs:List gj):Option (AV×Heap×List Nat)→Option (AA rs)
 | some (v,H,_)=>cond v.e7 none (match zi (cond (qH rs) H (fun _=>none)) H rs (v.parts rs.length) with
  | some (y,o)=>cond (distinct o) (some y) none
  | none=>none)
 | none=>none
def top (P:Program)(C:Cons)(Hn:Hints)(lf n k:Nat)(ps:List Ty)(rs:List gj)(x:fG ps):Option (AA rs):=
 iu rs (bK P C Hn lf n 0 (.fn k) (bT ps x) (fun _=>none) [])
section
variable [ar]{P:Program}{w w' w0:World}{μ:Mu}{S S':an}{H Hv:Heap}{B:Nat}
omit [ar] in
theorem VK {t:Ty}{x:t.T}{v:Value}(h:Vp S t x v):VR μ S H (aa9 t x) v:=by
 unfold Vp at h
 unfold aa9
 cases ha:t.isAgg with
 | true=>
  rw[ha,if_pos rfl] at h
  obtain⟨cs,rfl,h⟩:=h
  simp only[cond_true,VR]
  exact⟨cs,rfl,iJ t x _ h⟩
 | false=>
  rw[ha,if_neg (by simp)] at h
  have:=iJ (μ:=μ) (H:=H) t x _ h
  have hl:=aT this
  simp only[cond_false]
  match he:enc t x,this,hl with
  | [a],this,_=>simp only[aP] at this;obtain⟨_,_,e,k,_⟩:=this;cases e;exact k
  | [],_,hl=>simp at hl
  | _::_::_,_,hl=>simp at hl
omit [ar] in
theorem jM:∀ {ps:List Ty} {x:fG ps} {vs:List Value},js S ps x vs→aP μ S H (bT ps x) vs
 | [],x,vs,h=>by simp only[js] at h;subst h;simp[bT,aP]
 | t::ts,x,vs,h=>by
  obtain⟨v,r,rfl,h1,h2⟩:=h
  simp only[bT,aP]
  exact⟨v,r,rfl,VK h1,jM h2⟩
inductive OI (μ:Mu):List iP→List Nat→Prop
 | nil:OI μ [] []
 | Vf {q os o}:q.loc.blk=none→OI μ os o→OI μ (q::os) o
 | own {q os i o}:μ i=some q.loc→OI μ os o→OI μ (q::os) (i::o)
omit [ar] in
theorem OI.append {os os':List iP}{o o':List Nat}(h:OI μ os o)(h':OI μ os' o'):OI μ (os++os') (o++o'):=by
 induction h with
 | nil=>exact h'
 | Vf h1 _ ih=>exact .Vf h1 ih
 | own h1 _ ih=>exact .own h1 ih
omit [ar] in
theorem OI.mem {os:List iP}{o:List Nat}(h:OI μ os o):∀ q∈os,q.loc.blk=none∨∃ i∈o,μ i=some q.loc:=by
 induction h with
 | nil=>simp
 | Vf h1 _ ih=>
  intro q hq
  rcases List.mem_cons.1 hq with rfl|hq
  ·exact .inl h1
  ·exact ih q hq
 | own h1 _ ih=>
  intro q hq
  rcases List.mem_cons.1 hq with rfl|hq
  ·exact .inr ⟨_,by simp,h1⟩
  ·rcases ih q hq with h|⟨i,h2,h3⟩
   ·exact .inl h
   ·exact .inr ⟨i,by simp[h2],h3⟩
theorem OI.apart (R:Rel μ S H B w0 w){os:List iP}{o:List Nat}(h:OI μ os o):distinct o=true→os.Pairwise Ae:=by
 induction h with
 | nil=>intro;exact .nil
 | Vf h1 h2 ih=>
  intro hd
  refine List.pairwise_cons.2 ⟨fun q hq b hb=>?_,ih hd⟩
  rw[h1] at hb;simp at hb
 | @own p os i o h1 h2 ih=>
  intro hd
  simp only[distinct,Bool.and_eq_true,Bool.not_eq_true'] at hd
  refine List.pairwise_cons.2 ⟨fun q hq b hb=>?_,ih hd.2⟩
  rcases h2.mem q hq with h|⟨j,hj,h3⟩
  ·rw[h];simp
  ·refine R.sep i j _ _ b (fun e=>?_) h1 h3 hb
   subst e
   have:=List.any_eq_false.1 hd.1 i hj
   simp at this
theorem XF (R:Rel μ S H B w0 w){i:Nat}{te:TypeId}{e:Ty}{g:Nat}{xs:List e.T}(hi:H i=some (.row te e g xs)){l:Lc}(hm:μ i=some l):mB S w B ⟨l,te,e,xs⟩:=by
 obtain⟨l',h1,h2⟩:=R.obj i _ hi
 have:l'=l:=Option.some.inj (h1.symm.trans hm)
 subst this
 exact h2
theorem OQ (R:Rel μ S H B w0 w){te:TypeId}{e:Ty}{as:List AV}{vs:List Value}{x:List e.T}{r:List AV}{o:List Nat}(hv:aP μ S H as vs)(h:LD H te e as=some (x,r,o)) :
  ∃ cs us os,vs=cs++us∧Qv S (.own te e) x cs os∧aP μ S H r us∧OI μ os o∧∀ q∈os,mB S w B q:=by
 unfold LD at h
 split at h
 ·rename_i i g r'
  split at h
  ·rename_i te' e' g' xs hH
   cases hb:(Nat.beq g g'&&Nat.beq te te') with
   | false=>rw[hb] at h;simp at h
   | true=>
    rw[hb] at h
    simp only[cond_true] at h
    simp only[Bool.and_eq_true] at hb
    have hgg:=Nat.eq_of_beq_eq_true hb.1
    have htt:=Nat.eq_of_beq_eq_true hb.2
    subst htt
    split at h
    ·rename_i ys hc
     cases h
     obtain⟨he,rfl⟩:=cQ hc
     subst he
     simp only[aP] at hv
     obtain⟨v,u,rfl,h1,h2⟩:=hv
     simp only[VR] at h1
     obtain⟨_,l,hm,h3⟩:=h1
     have hv':=(h3 _ _ _ _ hH).2 hgg
     subst hv'
     exact⟨[_],u,[⟨l,te,e',xs⟩],rfl,⟨l,rfl,rfl⟩,h2,.own hm .nil,by intro q hq;simp at hq;subst hq;exact XF R hH hm⟩
    ·simp at h
  ·simp at h
 ·cases h
  simp only[aP,VR] at hv
  obtain⟨v,u,rfl,rfl,h2⟩:=hv
  exact⟨[_],u,[⟨⟨none,0⟩,te,e,[]⟩],rfl,⟨⟨none,0⟩,rfl,rfl⟩,h2,.Vf rfl .nil,by intro q hq;simp at hq;subst hq;exact⟨⟨Nat.le_refl _,Nat.zero_le _⟩,.inl ⟨rfl,rfl⟩⟩⟩
 ·rename_i i g a b r'
  split at h
  ·rename_i te' e' g' xs hH
   cases hb:(Nat.beq a 0&&Nat.beq g g'&&Nat.beq te te') with
   | false=>rw[hb] at h;simp at h
   | true=>
    rw[hb] at h
    simp only[cond_true] at h
    simp only[Bool.and_eq_true] at hb
    have haa:=Nat.eq_of_beq_eq_true hb.1.1
    have hgg:=Nat.eq_of_beq_eq_true hb.1.2
    have htt:=Nat.eq_of_beq_eq_true hb.2
    subst htt haa
    split at h
    ·rename_i ys hc
     cases h
     obtain⟨he,rfl⟩:=cQ hc
     subst he
     simp only[aP] at hv
     obtain⟨v,u,rfl,h1,h2⟩:=hv
     simp only[VR] at h1
     obtain⟨_,l,hm,h3⟩:=h1
     obtain⟨p1,p2,ad,rfl,p3,_⟩:=(h3 _ _ _ _ hH).2 hgg
     have had:=p3 (by simp)
     have had':ad=l.addr:=by
      rw[had]
      cases l.addr with
      | none=>rfl
      | some q=>simp[add_zero]
     subst had'
     have hlen:List.length (xs.take b)=b:=by rw[List.length_take];omega
     obtain⟨l',m1,m2⟩:=R.obj i _ hH
     have:l'=l:=Option.some.inj (m1.symm.trans hm)
     subst this
     have hO:=Bs b m2
     refine⟨[_],u,[⟨l',te,e',xs.take b⟩],rfl,⟨l',by rw[hlen];rfl,rfl⟩,h2,.own hm .nil,by intro q hq;simp at hq;subst hq;exact hO⟩
    ·simp at h
  ·simp at h
 ·simp at h
def Vq (B:Nat)(S:an)(w:World):an:=fun b=>cond (Nat.ble B b) w.heap[b]? (S b)
theorem Dk (R:Rel μ S H B w0 w)(b:Nat)(o:Obj)(h:S b=some o):Vq B S w b=some o:=by
 unfold Vq
 cases Nat.ble B b with
 | true=>exact R.st b o h
 | false=>exact h
theorem abo (R:Rel μ S H B w0 w)(b:Nat)(o:Obj)(h:Vq B S w b=some o):w.heap[b]? = some o:=by
 unfold Vq at h
 cases hb:Nat.ble B b with
 | true=>rw[hb] at h;exact h
 | false=>rw[hb] at h;exact R.st b o h
theorem Xa (R:Rel μ S H B w0 w){i:Nat}{t:TypeId}{e:Ty}{g:Nat}{xs:List e.T}(hi:H i=some (.row t e g xs)){l:Lc}(hm:μ i=some l) :
  Rd (Vq B S w) (.row e) xs [.slice l.addr xs.length l.cap]:=by
 obtain⟨l',h1,h2⟩:=R.obj i _ hi
 have:l'=l:=Option.some.inj (h1.symm.trans hm)
 subst this
 refine⟨l'.addr,l'.cap,rfl,⟨h2.1.1,fun ha=>?_⟩,fun j x hj=>?_⟩
 ·rcases h2.2 with h3|⟨b,cs,e1,_⟩
  ·exact h3.2
  ·simp[Lc.addr,e1] at ha
 rcases h2.2 with h3|⟨b,cs,e1,hB,_,h4,_,h6⟩
 ·have hlt:j<xs.length:=by
   rcases Nat.lt_or_ge j xs.length with h|h
   ·exact h
   ·rw[List.getElem?_eq_none h] at hj;simp at hj
  have:=h2.1.1;omega
 ·obtain⟨c,k1,k2⟩:=h6 j x hj
  refine⟨⟨b,0,none⟩,c,by simp[Lc.addr,e1],dS (Dk R) _ _ _ k1,fun m v hv=>?_⟩
  rw[bg,Nat.zero_add]
  have hb:Vq B S w b=some (.cells cs t (0,0)):=by
   unfold Vq
   rw[Nat.ble_eq_true_of_le hB];exact h4
  simp only[cellS,hb,Option.isSome_none,Bool.false_eq_true,if_false]
  exact k2 m v hv
omit [ar] in
theorem kF:∀ (t:gj) (x:t.T) (cs:List Value) (os:List iP),t.sn=true→Qv S t x cs os→os=[]
 | .val t,x,cs,os,_,h=>h.2
 | .own _ _,x,cs,os,hn,_=>by simp[gj.sn] at hn
 | .pair a b,x,cs,os,hn,h=>by
  simp only[gj.sn,Bool.and_eq_true] at hn
  obtain⟨c,d,o,p,_,rfl,h1,h2⟩:=h
  rw[kF a _ _ _ hn.1 h1,kF b _ _ _ hn.2 h2];rfl
 | .one a,x,cs,os,hn,h=>kF a x cs os hn h
 | .any,x,cs,os,hn,h=>h.2
omit [ar] in
theorem yf:∀ {rs:List gj} {y:AA rs} {us:List Value} {os:List iP},qH rs=true→Fb S rs y us os→os=[]
 | [],_,_,_,_,h=>h.2
 | t::ts,y,us,os,hn,h=>by
  simp only[qH,Bool.and_eq_true] at hn
  obtain⟨v,r,o,p,_,rfl,h1,h2⟩:=h
  rw[yf hn.2 h2,List.append_nil]
  unfold uM at h1
  split at h1
  ·obtain⟨cs,_,h1⟩:=h1
   exact kF t _ _ _ hn.1 h1
  ·exact kF t _ _ _ hn.1 h1
theorem sy (R:Rel μ S H B w0 w)(hS:∀ b o,S b=some o→S' b=some o)(hrow:∀ i t e g xs l,Hv i=some (.row t e g xs)→μ i=some l→Rd S' (.row e) xs [.slice l.addr xs.length l.cap])(sub:∀ i o,Hv i=some o→H i=some o) :
  ∀ (t:gj) (as:List AV) (vs:List Value) (x:t.T) (r:List AV) (o:List Nat),aP μ S H as vs→Em Hv H t as=some (x,r,o) →
  ∃ cs us os,vs=cs++us∧Qv S' t x cs os∧aP μ S H r us∧OI μ os o∧∀ q∈os,mB S w B q
 | .val t,as,vs,x,r,o,hv,h=>by
  simp only[Em] at h
  split at h
  ·rename_i y r' hd
   cases h
   obtain⟨cs,us,h1,h2,h3⟩:=qQ (S':=S') (H:=H) hS hrow sub t as vs _ _ hv hd
   exact⟨cs,us,[],h1,⟨h2,rfl⟩,h3,.nil,by simp⟩
  ·simp at h
 | .own te e,as,vs,x,r,o,hv,h=>OQ R hv h
 | .pair a b,as,vs,x,r,o,hv,h=>by
  simp only[Em] at h
  split at h
  ·rename_i y l' o1 h1
   split at h
   ·rename_i z l'' o2 h2
    cases h
    obtain⟨c1,u1,os1,e1,k1,r1,i1,w1⟩:=sy R hS hrow sub a as vs y l' o1 hv h1
    obtain⟨c2,u2,os2,e2,k2,r2,i2,w2⟩:=sy R hS hrow sub b l' u1 z _ o2 r1 h2
    refine⟨c1++c2,u2,os1++os2,by rw[e1,e2,List.append_assoc],⟨c1,c2,os1,os2,rfl,rfl,k1,k2⟩,r2,i1.append i2,fun q hq=>?_⟩
    rcases List.mem_append.1 hq with h|h
    ·exact w1 q h
    ·exact w2 q h
   ·simp at h
  ·simp at h
 | .one a,as,vs,x,r,o,hv,h=>by
  simp only[Em] at h
  exact sy R hS hrow sub a as vs x r o hv h
 | .any,as,vs,x,r,o,hv,h=>by simp[Em] at h
theorem SD (R:Rel μ S H B w0 w)(hS:∀ b o,S b=some o→S' b=some o)(hrow:∀ i t e g xs l,Hv i=some (.row t e g xs)→μ i=some l→Rd S' (.row e) xs [.slice l.addr xs.length l.cap])(sub:∀ i o,Hv i=some o→H i=some o)
  {t:gj} {a:AV} {v:Value} {x:t.T} {o:List Nat} (hv:VR μ S H a v) (h:Th Hv H t a=some (x,o)) :
  ∃ os,uM S' t x v os∧OI μ os o∧∀ q∈os,mB S w B q:=by
 unfold Th at h
 cases hb:(t.isAgg == a.isAgg) with
 | false=>rw[hb] at h;simp at h
 | true=>
  rw[hb] at h
  simp only[cond_true] at h
  have hta:t.isAgg=a.isAgg:=by simpa using hb
  split at h
  ·rename_i y o' hd
   cases h
   unfold uM
   rw[hta]
   cases ha:a.isAgg with
   | true=>
    simp only[if_true]
    cases a<;>simp only[AV.isAgg,reduceCtorEq] at ha
    simp only[VR] at hv
    obtain⟨vs,rfl,hvs⟩:=hv
    obtain⟨c,u,os,e1,k1,k2,k3,k4⟩:=sy R hS hrow sub t _ vs.toList _ [] _ hvs hd
    simp only[aP] at k2
    subst k2
    rw[List.append_nil] at e1
    exact⟨os,⟨vs,rfl,by rw[e1];exact k1⟩,k3,k4⟩
   | false=>
    simp only[Bool.false_eq_true,if_false]
    have base:aP μ S H a.inside [v]:=by
     cases a<;>first|(simp[AV.isAgg] at ha;done)|(simp only[AV.inside,aP];exact⟨v,[],rfl,hv,rfl⟩)
    obtain⟨c,u,os,e1,k1,k2,k3,k4⟩:=sy R hS hrow sub t _ [v] _ [] _ base hd
    simp only[aP] at k2
    subst k2
    rw[List.append_nil] at e1
    exact⟨os,by rw[e1];exact k1,k3,k4⟩
  ·simp at h
theorem r4 (R:Rel μ S H B w0 w)(hS:∀ b o,S b=some o→S' b=some o)(hrow:∀ i t e g xs l,Hv i=some (.row t e g xs)→μ i=some l→Rd S' (.row e) xs [.slice l.addr xs.length l.cap])(sub:∀ i o,Hv i=some o→H i=some o) :
  ∀ {rs:List gj} {as:List AV} {vs:List Value} {y:AA rs} {o:List Nat},aP μ S H as vs→zi Hv H rs as=some (y,o) →
  ∃ os,Fb S' rs y vs os∧OI μ os o∧(∀ q∈os,mB S w B q)∧vs.length=rs.length
 | [],[],vs,y,o,hv,h=>by
  simp only[aP] at hv;subst hv
  simp only[zi,Option.some.injEq,Prod.mk.injEq] at h
  obtain⟨_,rfl⟩:=h
  exact⟨[],⟨rfl,rfl⟩,.nil,by simp,rfl⟩
 | [],_::_,vs,y,o,hv,h=>by simp[zi] at h
 | t::ts,[],vs,y,o,hv,h=>by simp[zi] at h
 | t::ts,a::as,vs,y,o,hv,h=>by
  simp only[zi] at h
  split at h
  ·rename_i x o1 h1
   split at h
   ·rename_i z o2 h2
    cases h
    simp only[aP] at hv
    obtain⟨v,r,rfl,k1,k2⟩:=hv
    obtain⟨os1,a1,a2,a3⟩:=SD R hS hrow sub k1 h1
    obtain⟨os2,b1,b2,b3,b4⟩:=r4 R hS hrow sub k2 h2
    refine⟨os1++os2,⟨v,r,os1,os2,rfl,rfl,a1,b1⟩,a2.append b2,fun q hq=>?_,by simp[b4]⟩
    rcases List.mem_append.1 hq with h|h
    ·exact a3 q h
    ·exact b3 q h
   ·simp at h
  ·simp at h
theorem B0 {w w':World}{S S':an}{μ':Mu}{H':Heap}{L':List Nat}{v:AV}{u:Value}{rs:List gj}{y:AA rs}(R':Rel μ' S' H' w.heap.size w w')
  (C':Carry w.heap.size (fun _=>none) S (fun _=>none) μ' S' H') (k1:VR μ' S' H' v u) (ht:iu rs (some (v,H',L'))=some y) :
  ∃ us S' os,Ending.returned u = .returned (i6 us)∧Below w.heap.size w w'∧(∀ b o,S b=some o→S' b=some o) ∧
   (∀ b o,S' b=some o→w'.heap[b]? = some o)∧(∀ b,S' b≠none→S b≠none∨w.heap.size≤b)∧Fb S' rs y us os ∧
   (∀ o∈os,mB S' w' w.heap.size o)∧os.Pairwise Ae:=by
 simp only[iu] at ht
 obtain⟨hnp,ht⟩:=cM ht
 split at ht
 case h_2=>simp at ht
 rename_i y' o hd
 obtain⟨hdis,rfl⟩:=aj ht
 have hparts:∃ us,aP μ' S' H' (v.parts rs.length) us∧(us.length=rs.length→u=i6 us):=by
  have one:aP μ' S' H' [v] [u]:=by simp only[aP];exact⟨u,[],rfl,k1,rfl⟩
  cases v with
  | A8 as=>
   simp only[AV.parts]
   cases hb:Nat.beq rs.length 1 with
   | true=>exact⟨[u],one,fun _=>rfl⟩
   | false=>
    simp only[VR] at k1
    obtain⟨x,rfl,k2⟩:=k1
    refine⟨x.toList,k2,fun hl=>?_⟩
    have hne:rs.length≠1:=fun e=>by rw[e] at hb;simp at hb
    match hx:x.toList with
    | []=>simp only[i6];rw[← hx]
    | [z]=>rw[hx] at hl;simp at hl;omega
    | z1::z2::l=>simp only[i6];rw[← hx]
  | _=>exact⟨[u],one,fun _=>rfl⟩
 obtain⟨us,hus,hu⟩:=hparts
 cases hno:qH rs with
 | false=>
  rw[hno] at hd
  obtain⟨os,q1,q2,q3,q4⟩:=r4 (S':=S') R' (fun b o h=>h) (fun i t e g xs l h=>by simp at h) (fun i o h=>by simp at h) hus hd
  exact⟨us,S',os,by rw[hu q4],R'.below,C'.sub,R'.st,fun b hb=>C'.st b hb,q1,q3,q2.apart R' hdis⟩
 | true=>
  rw[hno] at hd
  obtain⟨os,q1,q2,q3,q4⟩:=r4 (S':=Vq w.heap.size S' w') R' (Dk R') (fun i t e g xs l h hm=>Xa R' h hm) (fun i o h=>h) hus hd
  have:=yf hno q1
  subst this
  refine⟨us,Vq w.heap.size S' w',[],by rw[hu q4],R'.below,fun b o h=>Dk R' b o (C'.sub b o h),fun b o h=>abo R' b o h,fun b hb=>?_,q1,by simp,.nil⟩
  unfold Vq at hb
  cases hble:Nat.ble w.heap.size b with
  | true=>exact .inr (Nat.le_of_ble_eq_true hble)
  | false=>rw[hble] at hb;exact C'.st b hb
theorem LV {C:Cons}{Hn:Hints}(hC:bV P C){lf n k:Nat}{c:bA}(h:∀ x y,c.f x=some y→top P C Hn lf n k c.ps c.rs x=some y):c.OK P k:=by
 intro x y hf S w vs hst hpre ha
 have ht:=h x y hf
 unfold top at ht
 cases he:bK P C Hn lf n 0 (.fn k) (bT c.ps x) (fun _=>none) [] with
 | none=>rw[he] at ht;simp[iu] at ht
 | some p=>
  obtain⟨v,H',L'⟩:=p
  rw[he] at ht
  have R0:Rel (fun _=>none) S (fun _=>none) w.heap.size w w:=⟨Below.refl _ _,Nat.le_refl _,hst,fun _=>rfl,fun _ _ h=>by simp at h,fun _ _ _ _ _ _ h=>by simp at h,hpre⟩
  refine w9.mono (c:=.fn k) ((iZ hC n 0 (.fn k) _ _ _ _ _ _ he (fun _ h=>absurd rfl h)).2 (fun _=>none) S w.heap.size w w vs.toArray R0 (by simpa using jM ha)) ?_
  rintro e w' ⟨μ',S',q0,R',C'⟩
  obtain⟨u,rfl,k1⟩:=q0.val (by
   have ht':=ht
   simp only[iu] at ht'
   exact (cM ht').1)
  exact B0 R' C' k1 ht
end
end Go.Sy
