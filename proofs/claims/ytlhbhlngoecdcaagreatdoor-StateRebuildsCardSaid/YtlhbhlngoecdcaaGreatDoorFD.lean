/- Sym16, Sym17, Sym18, Sym18b, Sym19, Sym20, Sym21, Sym22, Sym24. -/
import Derived.Test.YtlhbhlngoecdcaaGreatDoorFC
import Derived.Carry
import Derived.ProofKit
import Derived.SizedLaws
import Derived.RecoverIn
import Derived.RangeFuncLeaves
namespace Go.Sy
open Go Go.RowKit
set_option linter.unusedSimpArgs false
set_option linter.unusedVariables false
mutual
def l8:AV→AV→Bool
 | .ptr i o,.ptr j p=>Nat.beq i j&&Nat.beq o p
 | .sl i g,.sl j h=>Nat.beq i j&&Nat.beq g h
 | .aq,.aq=>true
 | .agg a,.agg b=>vp a b
 | .jZ i,.jZ j=>Nat.beq i j
 | .mp i,.mp j=>Nat.beq i j
 | .lit (.tuple x),.lit (.tuple y)=>Nat.beq x.size 0&&Nat.beq y.size 0
 | .lit (.int k i),.lit (.int l j)=>Ou k l&&decide (i=j)
 | .fn (.func f) a b,.fn (.func g) c d=>Nat.beq f g&&vp a c&&vp b d
 | _,_=>false
def vp:List AV→List AV→Bool
 | [],[]=>true
 | a::as,b::bs=>l8 a b&&vp as bs
 | _,_=>false
end
mutual
theorem Od:∀ (a b:AV),l8 a b=true→a=b
 | .ptr i o,b,h=>by
  cases b<;>simp only[l8,Bool.false_eq_true] at h
  simp only[Bool.and_eq_true] at h
  rw[Nat.eq_of_beq_eq_true h.1,Nat.eq_of_beq_eq_true h.2]
 | .sl i o,b,h=>by
  cases b<;>simp only[l8,Bool.false_eq_true] at h
  simp only[Bool.and_eq_true] at h
  rw[Nat.eq_of_beq_eq_true h.1,Nat.eq_of_beq_eq_true h.2]
 | .agg a,b,h=>by
  cases b<;>simp only[l8,Bool.false_eq_true] at h
  rw[rU _ _ h]
 | .aq,b,h=>by
  cases b<;>simp only[l8,Bool.false_eq_true] at h
  rfl
 | .jZ i,b,h=>by
  cases b<;>simp only[l8,Bool.false_eq_true] at h
  rw[Nat.eq_of_beq_eq_true h]
 | .mp i,b,h=>by
  cases b<;>simp only[l8,Bool.false_eq_true] at h
  rw[Nat.eq_of_beq_eq_true h]
 | .lit x,b,h=>by
  cases b with
  | lit y=>
   cases x with
   | int k i=>
    cases y<;>simp only[l8,Bool.false_eq_true,Bool.and_eq_true,decide_eq_true_eq] at h
    rw[GY h.1,h.2]
   | tuple x=>
    cases y<;>simp only[l8,Bool.false_eq_true] at h
    rename_i y
    simp only[Bool.and_eq_true] at h
    have h1:=Nat.eq_of_beq_eq_true h.1
    have h2:=Nat.eq_of_beq_eq_true h.2
    have e1:x = #[]:=by simpa using h1
    have e2:y = #[]:=by simpa using h2
    rw[e1,e2]
   | _=>simp[l8] at h
  | _=>cases x<;>simp[l8] at h
 | .fn f a b,y,h=>by
  cases y with
  | fn g c d=>
   cases f<;>cases g<;>simp only[l8,Bool.false_eq_true] at h
   simp only[Bool.and_eq_true] at h
   rw[Nat.eq_of_beq_eq_true h.1.1,rU a c h.1.2,rU b d h.2]
  | _=>cases f<;>simp[l8] at h
 | .NK e x o,y,h=>by cases y<;>simp[l8] at h
 | .Fm i g k o,y,h=>by cases y<;>simp[l8] at h
 | .cont e xs,y,h=>by cases y<;>simp[l8] at h
 | .A8 l,y,h=>by cases y<;>simp[l8] at h
theorem rU:∀ (as bs:List AV),vp as bs=true→as=bs
 | [],[],_=>rfl
 | [],_::_,h=>by simp[vp] at h
 | _::_,[],h=>by simp[vp] at h
 | a::as,b::bs,h=>by
  simp only[vp,Bool.and_eq_true] at h
  rw[Od a b h.1,rU as bs h.2]
end
def Hr (e:Ty):List AV→Option (List e.T×List AV)
 | .cont e' xs::r=>match jv (e:=e') (e':=e) xs with
  | some ys=>some (ys,r)
  | none=>none
 | _=>none
def Fh (k:Nat):List AV→Option (Unit×List AV)
 | .fn (.func j) [] []::r=>cond (Nat.beq j k) (some ((),r)) none
 | _=>none
theorem LJ {k:Nat}{l:List AV}{x:Unit}{r:List AV}(h:Fh k l=some (x,r)):l=AV.fn (.func k) [] []::r:=by
 unfold Fh at h
 split at h
 ·rename_i j r'
  cases hb:Nat.beq j k with
  | true=>
   rw[hb] at h
   cases h
   rw[Nat.eq_of_beq_eq_true hb]
  | false=>rw[hb] at h;cases h
 ·cases h
def xm:(t:Ty)→List AV→Option (t.T×List AV)
 | .int k,l=>CV k l
 | .bool,l=>xY l
 | .str,l=>DQ l
 | .row e,l=>Hr e l
 | .pair a b,l=>match xm a l with
  | some (x,l')=>match xm b l' with
   | some (y,l'')=>some ((x,y),l'')
   | none=>none
  | none=>none
 | .one a,l=>xm a l
 | .Bo k,l=>Fh k l
theorem xC:∀ (t:Ty) (l:List AV) (x:t.T) (r:List AV),xm t l=some (x,r)→l=enc t x++r
 | .int k,l,x,r,h=>by
  simp only[xm] at h
  unfold CV at h
  split at h
  ·obtain⟨hk,he⟩:=aj h
   cases he
   simp only[decide_eq_true_eq] at hk
   subst hk;rfl
  ·simp at h
 | .bool,l,x,r,h=>by
  simp only[xm] at h
  unfold xY at h
  split at h
  ·cases h;rfl
  ·simp at h
 | .str,l,x,r,h=>by
  simp only[xm] at h
  unfold DQ at h
  split at h
  ·cases h;rfl
  ·simp at h
 | .Bo k,l,x,r,h=>by
  simp only[xm] at h
  rw[LJ h];rfl
 | .row e,l,x,r,h=>by
  simp only[xm] at h
  unfold Hr at h
  split at h
  ·split at h
   ·rename_i hc
    cases h
    obtain⟨he,rfl⟩:=cQ hc
    subst he;rfl
   ·simp at h
  ·simp at h
 | .pair a b,l,x,r,h=>by
  simp only[xm] at h
  split at h
  ·rename_i y l' h1
   split at h
   ·rename_i z l'' h2
    cases h
    rw[xC a l y l' h1,xC b l' z _ h2]
    simp only[enc,List.append_assoc]
   ·simp at h
  ·simp at h
 | .one a,l,x,r,h=>by
  simp only[xm] at h
  simpa only [enc] using xC a l x r h
inductive SK where
 | data (t:Ty)
 | int (k:IntKind)
 | bool
 | str
 | cont (e:Ty)
 | fix (a:AV)
@[reducible] def SK.T:SK→Type
 | .data t=>t.T
 | .int _=>Int
 | .bool=>Bool
 | .str=>ByteArray
 | .cont e=>List e.T
 | .fix _=>Unit
def SK.put:(s:SK)→s.T→AV
 | .data t,x=>.agg (enc t x)
 | .int k,x=>.lit (.int k x)
 | .bool,x=>.lit (.bool x)
 | .str,x=>.lit (.string x)
 | .cont e,xs=>.cont e xs
 | .fix a,_=>a
def SS (k:IntKind):AV→Option Int
 | .lit (.int k' x)=>cond (decide (k'=k)) (some x) none
 | _=>none
def NZ (t:Ty):AV→Option t.T
 | .agg cs=>match xm t cs with
  | some (x,[])=>some x
  | _=>none
 | _=>none
def NA:AV→Option Bool
 | .lit (.bool x)=>some x
 | _=>none
def Uq:AV→Option ByteArray
 | .lit (.string x)=>some x
 | _=>none
def NB (e:Ty):AV→Option (List e.T)
 | .cont e' xs=>jv (e:=e') (e':=e) xs
 | _=>none
def SK.get:(s:SK)→AV→Option s.T
 | .data t,a=>NZ t a
 | .int k,a=>SS k a
 | .bool,a=>NA a
 | .str,a=>Uq a
 | .cont e,a=>NB e a
 | .fix b,a=>cond (l8 a b) (some ()) none
theorem SK.E9:∀ (s:SK) (a:AV) (x:s.T),s.get a=some x→a=s.put x
 | .data t,a,x,h=>by
  simp only[SK.get] at h
  unfold NZ at h
  split at h
  ·split at h
   ·rename_i hd
    cases h
    rw[xC t _ _ _ hd,List.append_nil];rfl
   ·simp at h
  ·simp at h
 | .int k,a,x,h=>by
  simp only[SK.get] at h
  unfold SS at h
  split at h
  ·obtain⟨hk,e⟩:=aj h
   simp only[decide_eq_true_eq] at hk
   subst hk;subst e;rfl
  ·simp at h
 | .bool,a,x,h=>by
  simp only[SK.get] at h
  unfold NA at h
  split at h
  ·cases h;rfl
  ·simp at h
 | .str,a,x,h=>by
  simp only[SK.get] at h
  unfold Uq at h
  split at h
  ·cases h;rfl
  ·simp at h
 | .cont e,a,x,h=>by
  simp only[SK.get] at h
  unfold NB at h
  split at h
  ·obtain⟨he,e1⟩:=cQ h
   subst he;subst e1;rfl
  ·simp at h
 | .fix b,a,x,h=>by
  simp only[SK.get] at h
  obtain⟨h1,_⟩:=aj h
  exact Od a b h1
@[reducible] def XT:List SK→Type
 | []=>Unit
 | s::ss=>s.T×XT ss
def SO:(l:List SK)→XT l→List AV
 | [],_=>[]
 | s::ss,x=>s.put x.1::SO ss x.2
def Fy:(l:List SK)→List AV→Option (XT l)
 | [],[]=>some ()
 | s::ss,a::as=>match s.get a,Fy ss as with
  | some x,some y=>some (x,y)
  | _,_=>none
 | _,_=>none
theorem sP:∀ (l:List SK) (as:List AV) (x:XT l),Fy l as=some x→as=SO l x
 | [],[],x,h=>rfl
 | [],_::_,x,h=>by simp[Fy] at h
 | s::ss,[],x,h=>by simp[Fy] at h
 | s::ss,a::as,x,h=>by
  simp only[Fy] at h
  split at h
  ·rename_i y z h1 h2
   cases h
   rw[SK.E9 s a y h1,sP ss as z h2];rfl
  ·simp at h
def Zl:Jmp→Jmp→Bool
 | .ret,.ret=>true
 | .exit a,.exit b=>Nat.beq a b
 | .goto a,.goto b=>Nat.beq a b
 | _,_=>false
def abz:O2→O2→Bool
 | .ready,.ready=>true
 | .busy,.busy=>true
 | .over,.over=>true
 | .done a,.done b=>Zl a b
 | _,_=>false
theorem Xm:∀ {a b:O2},abz a b=true→a=b:=by
 intro a b h
 cases a<;>cases b<;>simp only[abz,Bool.false_eq_true] at h<;>try rfl
 rename_i x y
 cases x<;>cases y<;>simp only[Zl,Bool.false_eq_true] at h<;>first|rfl|rw[Nat.eq_of_beq_eq_true h]
inductive OS where
 | box (t:TypeId) (ks:List SK)
 | row (t:TypeId) (e:Ty) (g:Nat)
 | fB
 | loop (k r:Nat) (st:O2) (ks:List SK)
 | map
 | gone
@[reducible] def OS.T:OS→Type
 | .box _ ks=>XT ks
 | .row _ e _=>List e.T
 | .fB=>ByteArray×Nat
 | .loop _ _ _ ks=>XT ks
 | .map=>List (Int×Int)
 | .gone=>Unit
def OS.put:(s:OS)→s.T→Option bq
 | .box t ks,x=>some (.box t (SO ks x))
 | .row t e g,xs=>some (.row t e g xs)
 | .fB,x=>some (.fB x.1 x.2)
 | .loop k r st ks,x=>some (.loop k r st (SO ks x))
 | .map,x=>some (.map x)
 | .gone,_=>none
def Sc (t:TypeId)(ks:List SK):Option bq→Option (XT ks)
 | some (.box t' cs)=>cond (Nat.beq t' t) (Fy ks cs) none
 | _=>none
def Tc (t:TypeId)(e:Ty)(g:Nat):Option bq→Option (List e.T)
 | some (.row t' e' g' xs)=>cond (Nat.beq t' t&&Nat.beq g' g) (jv (e:=e') (e':=e) xs) none
 | _=>none
def FE:Option bq→Option (ByteArray×Nat)
 | some (.fB s pos)=>some (s,pos)
 | _=>none
def getLoop (k r:Nat)(st:O2)(ks:List SK):Option bq→Option (XT ks)
 | some (.loop k' r' st' ts)=>cond (Nat.beq k' k&&Nat.beq r' r&&abz st' st) (Fy ks ts) none
 | _=>none
def Q9:Option bq→Option (List (Int×Int))
 | some (.map es)=>some es
 | _=>none
def NY:Option bq→Option Unit
 | none=>some ()
 | _=>none
def OS.get:(s:OS)→Option bq→Option s.T
 | .box t ks,o=>Sc t ks o
 | .row t e g,o=>Tc t e g o
 | .fB,o=>FE o
 | .loop k r st ks,o=>getLoop k r st ks o
 | .map,o=>Q9 o
 | .gone,o=>NY o
theorem iA {α:Type}{c:Bool}{a:Option α}{b:α}(h:cond c a none=some b):c=true∧a=some b:=by
 cases c<;>simp_all
theorem OS.E9:∀ (s:OS) (o:Option bq) (x:s.T),s.get o=some x→o=s.put x
 | .box t ks,o,x,h=>by
  simp only[OS.get] at h
  unfold Sc at h
  split at h
  ·obtain⟨h1,h2⟩:=iA h
   rw[Nat.eq_of_beq_eq_true h1,sP _ _ _ h2];rfl
  ·simp at h
 | .row t e g,o,x,h=>by
  simp only[OS.get] at h
  unfold Tc at h
  split at h
  ·obtain⟨h1,h2⟩:=iA h
   simp only[Bool.and_eq_true] at h1
   obtain⟨he,e1⟩:=cQ h2
   subst he;subst e1
   rw[Nat.eq_of_beq_eq_true h1.1,Nat.eq_of_beq_eq_true h1.2];rfl
  ·simp at h
 | .fB,o,x,h=>by
  simp only[OS.get] at h
  unfold FE at h
  split at h
  ·cases h;rfl
  ·simp at h
 | .map,o,x,h=>by
  simp only[OS.get] at h
  unfold Q9 at h
  split at h
  ·cases h;rfl
  ·simp at h
 | .loop k r st ks,o,x,h=>by
  simp only[OS.get] at h
  unfold getLoop at h
  split at h
  ·obtain⟨h1,h2⟩:=iA h
   simp only[Bool.and_eq_true] at h1
   rw[Nat.eq_of_beq_eq_true h1.1.1,Nat.eq_of_beq_eq_true h1.1.2,Xm h1.2,sP _ _ _ h2];rfl
  ·simp at h
 | .gone,o,x,h=>by
  simp only[OS.get] at h
  unfold NY at h
  split at h
  ·rfl
  ·simp at h
@[reducible] def OT:List (Nat×OS)→Type
 | []=>Unit
 | s::ss=>s.2.T×OT ss
def Wu:(l:List (Nat×OS))→OT l→List (Nat×Option bq)
 | [],_=>[]
 | s::ss,x=>(s.1,s.2.put x.1)::Wu ss x.2
def We (f:Nat→Option bq):(l:List (Nat×OS))→Option (OT l)
 | []=>some ()
 | s::ss=>match s.2.get (f s.1),We f ss with
  | some x,some y=>some (x,y)
  | _,_=>none
theorem GL (f:Nat→Option bq):∀ (l:List (Nat×OS)) (x:OT l),We f l=some x→(l.map (·.1)).map (fun i=>(i,f i))=Wu l x
 | [],x,h=>rfl
 | s::ss,x,h=>by
  simp only[We] at h
  split at h
  ·rename_i y z h1 h2
   cases h
   simp only[List.map_cons,Wu]
   rw[OS.E9 s.2 _ y h1,GL f ss z h2]
  ·simp at h
@[reducible] def RT:List bF→Type
 | []=>Unit
 | r::rs=>List r.e.T×RT rs
def xU:(l:List bF)→RT l→List (Nat×Option bq)
 | [],_=>[]
 | r::rs,x=>(r.id,some (.row r.te r.e 0 x.1))::xU rs x.2
def aah (σ:St)(r:bF):Option (List r.e.T×Option Nat):=
 match σ.tu r.at' with
 | .lit (.slice none 0 0)=>some ([],none)
 | .sl a g=>match σ.heap a with
  | some (.row te e g' xs)=>cond (Nat.beq g g'&&Nat.beq te r.te) (match jv (e:=e) (e':=r.e) xs with
   | some ys=>some (ys,some a)
   | none=>none) none
  | _=>none
 | _=>none
def tf (σ:St):(l:List bF)→Option (RT l×List (Option Nat))
 | []=>some ((),[])
 | r::rs=>match aah σ r,tf σ rs with
  | some (x,s),some (y,ss)=>some ((x,y),s::ss)
  | _,_=>none
theorem Kx {σ:St}{r:bF}{x:List r.e.T}{s:Option Nat}(h:aah σ r=some (x,s)):JI σ r=some ⟨r.id,s,r.te,r.e,x⟩:=by
 unfold aah at h
 unfold JI
 split at h
 ·rename_i hx;cases h;simp only[hx]
 ·rename_i a g hx
  simp only[hx]
  split at h
  ·rename_i te e g' xs hH
   simp only[hH]
   cases hb:(Nat.beq g g'&&Nat.beq te r.te) with
   | false=>rw[hb] at h;simp at h
   | true=>
    rw[hb] at h
    simp only[cond_true] at h ⊢
    split at h
    ·rename_i ys hc;cases h;simp only[hc]
    ·simp at h
  ·simp at h
 ·simp at h
theorem sX {σ:St}:∀ {l:List bF} {x:RT l} {ss:List (Option Nat)},tf σ l=some (x,ss) →
  ∃ ls,Jn σ l=some ls∧ls.map (fun s=>(s.id,some (bq.row s.te s.e 0 s.xs)))=xU l x∧ls.map (·.id)=l.map (·.id)∧Src.list ls=ss.filterMap id
 | [],x,ss,h=>by simp only[tf,Option.some.injEq,Prod.mk.injEq] at h;obtain⟨_,rfl⟩:=h;exact⟨[],rfl,rfl,rfl,rfl⟩
 | r::rs,x,ss,h=>by
  simp only[tf] at h
  split at h
  ·rename_i y s z ss' h1 h2
   cases h
   obtain⟨ls,k1,k2,k3,k4⟩:=sX h2
   refine⟨⟨r.id,s,r.te,r.e,y⟩::ls,?_,?_,?_,?_⟩
   ·simp only[Jn,Kx h1,k1]
   ·simp only[List.map_cons,k2,xU]
   ·simp only[List.map_cons,k3]
   ·unfold Src.list at k4 ⊢
    cases s with
    | none=>simp only[List.filterMap_cons,k4,id]
    | some a=>simp only[List.filterMap_cons,k4,id]
  ·simp at h
structure aa where
 nt:Nat
 keep:List (Nat×SK)
 od:List (Nat×OS)
 own:List (Nat×OS)
 rows:List bF
def aa.hint (s:aa):Hint:=⟨s.keep.map (·.1),s.own.map (·.1),s.rows⟩
@[reducible] def aa.X (s:aa):Type:=XT (s.keep.map (·.2))×OT (s.od++s.own)×RT s.rows
def aa.ids (s:aa):List Nat:=(s.od++s.own).map (·.1)
def Wd:List Nat→List AV→List (Nat×AV)
 | t::ts,a::as=>(t,a)::Wd ts as
 | _,_=>[]
def aa.Kr (s:aa)(x:s.X):St:=
 ⟨s.nt,lkT (GD s.rows++Wd (s.keep.map (·.1)) (SO _ x.1)),On (xU _ x.2.2++Wu _ x.2.1),s.ids++s.rows.map (·.id)⟩
def nL:List Nat→List Nat→Bool
 | [],[]=>true
 | a::as,b::bs=>Nat.beq a b&&nL as bs
 | _,_=>false
theorem gy:∀ {as bs:List Nat},nL as bs=true→as=bs
 | [],[],_=>rfl
 | [],_::_,h=>by simp[nL] at h
 | _::_,[],h=>by simp[nL] at h
 | a::as,b::bs,h=>by
  simp only[nL,Bool.and_eq_true] at h
  rw[Nat.eq_of_beq_eq_true h.1,gy h.2]
def aa.fits (s:aa)(σ:St)(ss:List (Option Nat)):Bool:=
 Nat.beq σ.nt s.nt&&distinct (ss.filterMap id)&&distinct (s.rows.map (·.id))&&s.rows.all (fun r=>!mem s.ids r.id)&&(ss.filterMap id).all (fun a=>!mem s.ids a)
def aa.read (s:aa)(σ:St):Option s.X:=
 match Fy (s.keep.map (·.2)) ((s.keep.map (·.1)).map fun t=>clean s.ids (σ.val (.tmp t))),We (fun i=>(σ.heap i).map (mz s.rows s.ids i)) (s.od++s.own),tf σ s.rows with
 | some x,some y,some (z,ss)=>cond (s.fits σ ss) (some (x,y,z)) none
 | _,_,_=>none
theorem J2 (f:Nat→AV):∀ (l:List Nat),l.map (fun t=>(t,f t))=Wd l (l.map f)
 | []=>rfl
 | t::l=>by simp only[List.map_cons,Wd,J2 f l]
theorem aa.uE {s:aa}{σ:St}{x:s.X}(h:s.read σ=some x):head (s.od.map (·.1)) s.hint σ=some (s.Kr x):=by
 unfold aa.read at h
 split at h
 ·rename_i y z r ss h1 h2 h3
  obtain⟨hf,rfl⟩:=aj h
  unfold aa.fits at hf
  simp only[Bool.and_eq_true] at hf
  obtain⟨⟨⟨⟨f1,f2⟩,f3⟩,f4⟩,f5⟩:=hf
  obtain⟨ls,k1,k2,k3,k4⟩:=sX h3
  have hL:s.od.map (·.1)++s.hint.ids=s.ids:=by simp[aa.hint,aa.ids]
  have g1:=sP _ _ _ h1
  have g2:=GL _ _ _ h2
  unfold head
  simp only[hL]
  have hs:Jn σ s.hint.rows=some ls:=k1
  rw[hs]
  have e1:ls.all (fun p=>!mem s.ids p.id)=true:=by
   rw[List.all_eq_true] at f4 ⊢
   intro p hp
   have:p.id∈s.rows.map (·.id):=by rw[← k3];exact List.mem_map.2 ⟨p,hp,rfl⟩
   obtain⟨q,hq,e⟩:=List.mem_map.1 this
   rw[← e];exact f4 q hq
  simp only[k3,k4,f2,f3,e1,f5,Bool.and_self,Bool.and_true,cond_true]
  rw[Nat.eq_of_beq_eq_true f1]
  simp only[aa.Kr,Option.some.injEq,St.mk.injEq,true_and]
  refine⟨?_,?_,trivial⟩
  ·congr 1
   show GD s.rows++(s.keep.map (·.1)).map (fun t=>(t,clean s.ids (σ.val (.tmp t))))=_
   rw[J2 (fun t=>clean s.ids (σ.val (.tmp t))),g1]
  ·rw[k2]
   congr 2
 ·simp at h
def Le {α:Type}(a b:Option α):Prop:=∀ r,a=some r→b=some r
theorem Le.refl {α:Type}(a:Option α):Le a a:=fun _ h=>h
theorem Le.of_eq {α:Type}{a b:Option α}(h:a=b):Le a b:=h ▸ Le.refl a
theorem Le.none {α:Type}(b:Option α):Le Option.none b:=fun _ h=>by simp at h
theorem Le.trans {α:Type}{a b c:Option α}(h:Le a b)(k:Le b c):Le a c:=fun r x=>k r (h r x)
theorem Le.bind {α β:Type}{a:Option α}{f g:α→Option β}(h:∀ x,Le (f x) (g x)):Le (a.bind f) (a.bind g):=by
 cases a with
 | none=>exact Le.none _
 | some x=>exact h x
inductive R3 (α β γ:Type) where
 | next (x:α)
 | out (y:β)
 | ret (y:γ)
def iter {α β γ:Type}:Nat→(α→Option (R3 α β γ))→α→Option (Sum β γ)
 | 0,_,_=>none
 | n+1,f,x=>match f x with
  | some (.next x')=>iter n f x'
  | some (.out y)=>some (.inl y)
  | some (.ret y)=>some (.inr y)
  | none=>none
structure aL where
 n:Nat
 k:Nat
 shape:aa
 Ru:Nat
 out:aa
 ret:aa
 step:shape.X→Option (R3 shape.X out.X ret.X)
 rnd:Bool:=false
 lab:Option Nat:=none
 sel:Option (Nat×Int):=none
 gm:List (Nat×Nat×Nat):=[]
def aL.rf (s:aL):Option Nat:=cond s.rnd none (some s.k)
def XX:Option Nat→Option Nat→Bool
 | none,none=>true
 | some a,some b=>Nat.beq a b
 | _,_=>false
theorem xH {a b:Option Nat}(h:XX a b=true):a=b:=by
 cases a<;>cases b<;>simp only[XX,Bool.false_eq_true] at h<;>first|rfl|rw[Nat.eq_of_beq_eq_true h]
def aL.od (s:aL):List Nat:=s.shape.od.map (·.1)
def aL.lh (s:aL):tv:=⟨s.shape.hint,some s.out.hint,some s.ret.hint,s.gm⟩
def aL.fits (s:aL)(n k:Nat)(od:List Nat)(rf lab:Option Nat):Bool:=
 XX s.lab lab&&XX s.rf rf&&Nat.beq s.n n&&Nat.beq s.k k&&nL s.od od&&nL (s.out.od.map (·.1)) od&&nL (s.ret.od.map (·.1)) od
def aL.Yl (s:aL)(σ:St):Bool:=
 match s.sel with
 | none=>true
 | some (t,i)=>match σ.tmps t with
  | .lit (.int _ j)=>decide (j=i)
  | _=>false
abbrev oR:=Nat→Nat→St→Option aL
def sumOf (Sm:oR)(base:Nat)(x:Code)(σ:St):Option aL:=
 match bS x with
 | some r=>Sm base r σ
 | none=>none
def aV (Sm:oR):Hints:=fun base r σ=>match Sm base r σ with
 | some s=>some s.lh
 | none=>none
def ab3:Code→Code→List Code
 | .label _,y=>[y]
 | _,_=>[]
def aK:Code→List Code
 | .seq x y=>ab3 x y++(aK x++aK y)
 | .scope x=>aK x
 | .cond _ x y=>aK x++aK y
 | .block _ x=>aK x
 | .loop x=>x::aK x
 | .rangeFunc _ _ x y=>aK x++aK y
 | _=>[]
def St.Px (σ:St)(d:Nat)(v:AV):St:=⟨σ.nt,aU σ.tmps d v,σ.heap,σ.ids⟩
section
variable {R:Type}
def rN (σ:St)(H:Heap)(L:List Nat)(dst:Option Tmp)(v:AV)(k:St→Option R):Option R:=
 match dst with
 | none=>k ⟨σ.nt,σ.tmps,H,L⟩
 | some d=>cond (mG d σ.nt) (k ⟨σ.nt,aU σ.tmps d v,H,L⟩) none
def rD (σ:St)(id:Nat)(dst:Option Tmp)(e:NQ)(k:St→List Nat→Option R):Option R:=
 cond (e.new && !(bC σ.heap e.sets&&fK id e.sets)) none (rN σ (bh σ.heap e.sets) σ.ids dst e.v fun σ'=>k σ' (cond e.new (e.sets.map (·.1)) []))
def kG (σ:St)(x:Operand)(k:St→Bool→Option R)(skip:Option R):Option R:=
 match σ.val x with
 | .lit (.bool c)=>match x with
  | .tmp d=>cond c (k (σ.Px d (.lit (.bool true))) true) (k (σ.Px d (.lit (.bool false))) false)
  | _=>cond c (k σ true) (k σ false)
 | .lit (.tuple _)=>skip
 | _=>none
abbrev gv (R:Type):=Nat→Callee→List AV→Heap→List Nat→(AV→Heap→List Nat→Option R)→Option R
def xB (u:dA)(Hh:Heap)(i g:Nat)(part:Option Nat)(rest:List AV)(k:bq→AV→Option R):Option R:=
 match Hh i with
 | some (.row te e g' xs)=>match jv (e:=e) (e':=u.e) (match part with
   | none=>xs
   | some b=>xs.take b) with
  | some zs=>match cZ (fun q=>cond (Nat.beq q i) none (Hh q)) u.ps rest with
   | some x=>(u.f zs x).bind fun ys=>cond (Nat.beq g g'&&Nat.beq te u.te&&u.e.flat) (match u.keep with
      | true=>cond (Nat.beq (List.length ys) (List.length zs)&&part.isNone) (k (.row te u.e g ys) (.lit (.tuple #[]))) none
      | false=>k (.row te u.e (g+1) ys) (.sl i (g+1))) none
   | none=>none
  | none=>none
 | _=>none
def Sq (u:dA)(Hh:Heap)(as:List AV)(k:Nat→bq→AV→Option R):Option R:=
 match as with
 | .sl i g::rest=>xB u Hh i g none rest (k i)
 | .sub i g a b::rest=>cond (Nat.beq a 0) (xB u Hh i g (some b) rest (k i)) none
 | _=>none
theorem Ak (u:dA)(Hh:Heap)(i g:Nat)(part:Option Nat)(rest:List AV)(k:bq→AV→Option R):xB u Hh i g part rest k=match jR u Hh i g part rest with
  | some (o,v)=>k o v
  | none=>none:=by
 unfold xB jR
 generalize cZ (fun q=>cond (Nat.beq q i) none (Hh q)) u.ps rest=d
 cases Hh i with
 | none=>rfl
 | some o=>
  cases o with
  | row te e g' xs=>
   simp only
   generalize jv (e:=e) (e':=u.e) (match part with
    | none=>xs
    | some b=>xs.take b)=q
   cases q with
   | none=>rfl
   | some zs=>
    cases d with
    | none=>rfl
    | some x=>
     simp only
     cases u.f zs x with
     | none=>rfl
     | some ys=>
      simp only[Option.bind_some]
      cases (Nat.beq g g'&&Nat.beq te u.te&&u.e.flat) with
      | false=>rfl
      | true=>
       simp only[cond_true]
       cases u.keep with
       | true=>simp only;cases (Nat.beq (List.length ys) (List.length zs)&&part.isNone)<;>rfl
       | false=>rfl
  | _=>rfl
theorem VL (u:dA)(Hh:Heap)(as:List AV)(k:Nat→bq→AV→Option R):Sq u Hh as k=match k9 u Hh as with
  | some (i,o,v)=>k i o v
  | none=>none:=by
 cases as with
 | nil=>rfl
 | cons x rest=>
  cases x with
  | sl i g=>
   simp only[Sq,k9]
   rw[Ak]
   cases jR u Hh i g none rest<;>rfl
  | sub i g a b=>
   simp only[Sq,k9]
   rw[Ak]
   cases Nat.beq a 0 with
   | false=>rfl
   | true=>simp only[cond_true];cases jR u Hh i g (some b) rest<;>rfl
  | _=>rfl
def OJ (kp:AV→Heap→List Nat→Option R)(k:AV→Heap→List Nat→Option R):AV→Heap→List Nat→Option R
 | .gh x=>fun H L=>kp x H L
 | v=>fun H L=>k v H L
def SG (P:Program)(t:TypeId)(a b:AV):Option (Nat×Nat×Nat×Nat×Int):=
 match a,b with
 | .ptr j off,.lit (.int _ i)=>match P.underlying t with
  | some (.array n el)=>match P.info? el with
   | some inf=>some (j,off,n,inf.size,i)
   | none=>none
  | _=>none
 | _,_=>none
def Bt (i:Int):Nat→Nat→(Nat→Option R)→Option R
 | _,0,_=>none
 | m,n+1,K=>cond (decide (i=(m:Int))) (K m) (Bt i (m+1) n K)
theorem qY {i:Int}{r:R}:∀ (n m:Nat) (K:Nat→Option R),Bt i m n K=some r→∃ q,q<m+n∧i=(q:Int)∧K q=some r
 | 0,m,K,h=>by simp[Bt] at h
 | n+1,m,K,h=>by
  simp only[Bt] at h
  by_cases hi:i=(m:Int)
  ·rw[decide_eq_true hi] at h
   exact⟨m,by omega,hi,h⟩
  ·rw[decide_eq_false hi] at h
   obtain⟨q,h1,h2⟩:=qY n (m+1) K h
   exact⟨q,by omega,h2⟩
def X0 (P:Program)(C:Cons)(G:gv R)(Hh:Heap)(id:Nat)(o:Oper)(σ:St)(kp:AV→Heap→List Nat→Option R)(k:St→List Nat→Option R):Option R:=
 match sem P Hh id o σ.val with
  | some (.val c v)=>cond c (rN σ σ.heap σ.ids o.dst v fun σ'=>k σ' []) none
  | some (.new c i ob v)=>cond c (rD σ id o.dst ⟨[(i,ob)],true,v⟩ k) none
  | some (.wr c i ob v)=>cond c (rD σ id o.dst ⟨[(i,ob)],false,v⟩ k) none
  | some (.Vr c i ob v u)=>cond c (rD σ id o.dst ⟨[(i,ob)],false,v⟩ k) (rD σ id o.dst ⟨[],false,u⟩ k)
  | some (.call kk as)=>match jt C o kk with
   | some u=>Sq u Hh as fun i ob v=>rD σ id o.dst ⟨[(i,ob)],false,v⟩ k
   | none=>match uD C kk with
   | some rB=>match Fp P o,cZ (ja rB Hh) rB.ps as with
    | true,some x=>(rB.f x).bind fun y=>rD σ id o.dst ⟨jh rB.rs y id,true,gU (tc rB.rs y id)⟩ k
    | _,_=>none
   | none=>G id kk as σ.heap σ.ids (OJ kp fun v H' L'=>rN σ H' L' o.dst v fun σ'=>k σ' [])
  | none=>none
def SF (P:Program)(C:Cons)(G:gv R)(Hh:Heap)(id:Nat)(o:Oper)(σ:St)(kp:AV→Heap→List Nat→Option R)(k:St→List Nat→Option R):Option R:=
 match o.op with
 | .panic x=>match σ.val x with
  | .Db t v=>kp (.Db t v) σ.heap σ.ids
  | _=>none
 | .pick c a b=>kG σ c (fun σ t=>rN σ σ.heap σ.ids o.dst (cond t (σ.val a) (σ.val b)) fun σ'=>k σ' []) none
 | .indexAddr t x y=>match SG P t (σ.val x) (σ.val y) with
  | some (j,off,n,sz,i)=>Bt i 0 n fun m=>rN σ σ.heap σ.ids o.dst (.ptr j (off+m * sz)) fun σ'=>k σ' []
  | none=>X0 P C G Hh id o σ kp k
 | _=>X0 P C G Hh id o σ kp k
def Wy (P:Program)(C:Cons)(G:gv R)(ops:Array Oper)(hide:Heap→Heap)(id i:Nat)(σ:St)(kp:AV→Heap→List Nat→Option R)(k:St→List Nat→Option R):Option R:=
 match ops[i]? with
 | none=>k σ []
 | some o=>match o.guard with
  | none=>SF P C G (hide σ.heap) id o σ kp k
  | some (j,b)=>match ops[j]? with
   | some g=>match g.dst with
    | some d=>kG σ (.tmp d) (fun σ c=>cond (c == b) (SF P C G (hide σ.heap) id o σ kp k) (rN σ σ.heap σ.ids o.dst (.lit undef) fun σ'=>k σ' [])) (rN σ σ.heap σ.ids o.dst (.lit undef) fun σ'=>k σ' [])
    | none=>rN σ σ.heap σ.ids o.dst (.lit undef) fun σ'=>k σ' []
   | none=>rN σ σ.heap σ.ids o.dst (.lit undef) fun σ'=>k σ' []
def Xv (P:Program)(C:Cons)(G:gv R)(ops:Array Oper)(base:Nat):List Nat→St→(Ex→St→Option R)→Option R
 | [],σ,k=>k .dJ σ
 | i::l,σ,k=>Wy P C G ops (fun H=>H) (base+i * 16) i σ (fun x H' L'=>k (.gh x) ⟨σ.nt,σ.tmps,H',L'⟩) fun σ' L=>Xv P C G ops base l (σ'.ay L) k
def Ze (P:Program)(C:Cons)(ops:Array Oper)(m:List Nat)(W:List (Option Nat))(base:Nat):List Nat→List Nat→St→(St→Option R)→Option R
 | [],L,σ,k=>k (σ.ay L)
 | i::l,L,σ,k=>cond (mD P C ops m W i σ) (Wy P C (fun _ _ _ _ _ _=>none) ops (cu base ops.size (m.getD i 0) (sY m W ops.size i)) (base+i * 16) i σ (fun _ _ _=>none) fun σ' L'=>Ze P C ops m W base l (L++L') σ' k) none
def U0 (P:Program)(C:Cons)(ops:Array Oper)(base:Nat)(σ:St)(k:St→Option R):Option R:=
 cond (bW P C ops (aB ops)) (Ze P C ops (aB ops) (qG P C ops (aB ops) base σ) base (List.range ops.size) [] σ k) none
def YH (ops:Array Oper):Nat→Nat→Nat→Option Nat
 | 0,_,_=>none
 | n+1,b,t=>match xW t b ops.toList 0 with
  | some (y,o)=>match o.op with
   | .move (.tmp t')=>YH ops n y t'
   | _=>none
  | none=>some t
def Zb (P:Program)(ops:Array Oper):List Oper→Nat→Option (Nat×Nat)
 | [],_=>none
 | o::l,b=>match (match o.op with
  | .indexAddr t _ (.tmp d)=>match P.underlying t with
   | some (.array n _)=>match YH ops 9 b d with
    | some d'=>some (d',n)
    | none=>none
   | _=>none
  | _=>none) with
  | some r=>some r
  | none=>Zb P ops l (b+1)
def OL (P:Program)(C:Cons)(G:gv R)(ops:Array Oper)(base z:Nat)(σ:St)(k:Ex→St→Option R):Option R:=
 Wy P C G ops (fun H=>H) (base+z * 16) z σ (fun x H' L'=>k (.gh x) ⟨σ.nt,σ.tmps,H',L'⟩) fun σ' L=>k .dJ (σ'.ay L)
def Mm (P:Program)(C:Cons)(G:gv R)(ops:Array Oper)(base:Nat)(σ:St)(k:Ex→St→Option R):Option R:=
 match zy C ops (aB ops) with
 | none=>U0 P C ops base σ (k .dJ)
 | some z=>cond (bW P C ops (aB ops)) (Ze P C ops (aB ops) (qG P C ops (aB ops) base σ) base (List.range z) [] σ fun σ'=>OL P C G ops base z σ' k) none
def kRe (P:Program)(C:Cons)(ops:Array Oper)(m:List Nat)(W:List (Option Nat))(base z:Nat):List Nat→List Nat→St→(St→Option R)→Option R
 | [],L,σ,k=>k (σ.ay L)
 | i::l,L,σ,k=>cond (mD P C ops m W i σ) (Wy P C (fun _ _ _ _ _ _=>none) ops (cu base ops.size (m.getD i 0) (sY m W ops.size i)) (base+i * 16) i σ (fun _ _ _=>none) fun σ' L'=>
  cond (ux m z i) (cond (xV ops i σ σ') (kRe P C ops m W base z l L σ k) none) (kRe P C ops m W base z l (L++L') σ' k)) none
def aaA (P:Program)(C:Cons)(G:gv R)(ops:Array Oper)(base z:Nat)(σ:St)(k:Ex→St→Option R):Option R:=
 cond (bW P C ops (aB ops)) (Ze P C ops (aB ops) (qG P C ops (aB ops) base σ) base (eR (aB ops) z ops.size) [] σ fun σ1=>
  Wy P C G ops (fun H=>H) (base+z * 16) z σ1 (fun x H' L'=>k (.gh x) ⟨σ1.nt,Bg ops (aB ops) z σ1,H',L'⟩) fun σ2 L=>
   kRe P C ops (aB ops) (qG P C ops (aB ops) base σ) base z (BB (aB ops) z ops.size) [] (σ2.ay L) (k .dJ)) none
def Q1 (P:Program)(C:Cons)(G:gv R)(ops:Array Oper)(base z z2:Nat)(σ:St)(k:Ex→St→Option R):Option R:=
 cond (bW P C ops (aB ops)) (Ze P C ops (aB ops) (qG P C ops (aB ops) base σ) base (eR (aB ops) z ops.size) [] σ fun σ1=>
  Wy P C G ops (fun H=>H) (base+z * 16) z σ1 (fun x H' L'=>k (.gh x) ⟨σ1.nt,Bg ops (aB ops) z σ1,H',L'⟩) fun σ2 L=>
   kRe P C ops (aB ops) (qG P C ops (aB ops) base σ) base z (nO (aB ops) z ops.size z2) [] (σ2.ay L) fun σ3=>OL P C G ops base z2 σ3 k) none
def EW (P:Program)(C:Cons)(G:gv R)(ops:Array Oper)(base:Nat)(σ:St)(k:Ex→St→Option R):Option R:=
 match UZ C ops (aB ops) with
 | some (z,z2)=>Q1 P C G ops base z z2 σ k
 | none=>match Uu C ops (aB ops) with
  | some z=>aaA P C G ops base z σ k
  | none=>Mm P C G ops base σ k
def Ar (P:Program)(C:Cons)(G:gv R)(ops:Array Oper)(base:Nat)(σ:St)(k:Ex→St→Option R):Option R:=
 match MP P ops σ ops.toList 0 with
 | some j=>EW P C G ops base σ fun e σ'=>k e (σ.align j σ')
 | none=>EW P C G ops base σ k
def Va (P:Program)(C:Cons)(G:gv R)(ops:Array Oper)(base:Nat)(σ:St)(k:Ex→St→Option R):Option R:=
 match Zb P ops ops.toList 0 with
 | some (d,n)=>match σ.tmps d with
  | .lit (.int kk i)=>Bt i 0 n fun m=>Ar P C G ops base (σ.Px d (.lit (.int kk (m:Int)))) k
  | _=>Ar P C G ops base σ k
 | none=>Ar P C G ops base σ k
def HF:Nat→(St→(Ex→St→Option R)→Option R)→St→(Ex→St→Option R)→Option R
 | 0,_,_,_=>none
 | n+1,f,σ,k=>f σ fun e σ'=>match e with
  | .dJ=>HF n f σ' k
  | .gh _=>none
  | e=>k e σ'
def D1 (σ:St)(i:Nat)(H:Heap)(L:List Nat)(k:Ex→St→Option R):Option R:=
 match H i with
 | some (.loop kk r .ready ts)=>k .dJ ⟨σ.nt,σ.tmps,aU H i (some (.loop kk r .over ts)),L⟩
 | some (.loop kk r (.done j) ts)=>k j.ex ⟨σ.nt,σ.tmps,aU H i (some (.loop kk r .over ts)),L⟩
 | _=>none
def KU (P:Program)(G:gv R)(base:Nat)(rf:Option Nat)(g:Operand)(body:Code)(σ:St)(k:Ex→St→Option R):Option R:=
 match rf,σ.val g,bS body with
 | some fid,.fn (.func kk) first caps,some r=>match dR P fid r with
  | some x=>match Sj σ base fid r x with
   | some (σ1,i)=>cond (gW P kk) (G (i+1) (.fn kk) (first++[.jZ i]++caps) σ1.heap σ1.ids (OJ (fun _ _ _=>none) fun _ H L=>D1 σ i H L k)) none
   | none=>none
  | none=>none
 | _,_,_=>none
def NE (i k r:Nat)(e:Ex)(σ:St)(K:AV→Heap→List Nat→Option R):Option R:=
 match yo i k r e σ with
 | some (v,H,L)=>K v H L
 | none=>none
def BC (l:Nat)(k:Ex→St→Option R):Ex→St→Option R:=fun e σ=>match e with
 | .dJ=>k (.exit Dz) σ
 | .goto i=>cond (Nat.beq i l) (k .dJ σ) none
 | .exit i=>cond (Nat.beq i Dz) none (k (.exit i) σ)
 | .ret=>k .ret σ
 | .gh _=>none
def xP (k:Ex→St→Option R):Ex→St→Option R:=fun e σ=>match e with
 | .exit i=>cond (Nat.beq i Dz) (k .dJ σ) (k (.exit i) σ)
 | .ret=>k .ret σ
 | _=>none
def cq (P:Program)(C:Cons)(Sm:oR)(G:gv R)(n fid lf base:Nat)(od:List Nat)(rf:Option Nat):Bool→Code→St→(Ex→St→Option R)→Option R
 | _,.skip,σ,k=>k .dJ σ
 | _,.region id ops draw,σ,k=>
  cond draw (Va P C G ops (jx base id) σ k) (Xv P C G ops (jx base id) (List.range ops.size) σ k)
 | false,.seq x y,σ,k=>cq P C Sm G n fid lf base od rf false x σ fun e σ'=>match e with
  | .dJ=>cq P C Sm G n fid lf base od rf false y σ' k
  | e=>k e σ'
 | true,.seq x y,σ,k=>match tO x with
  | some l=>match sumOf Sm base y σ with
   | some s=>cond (s.fits n fid od rf (some l)) (match s.shape.read σ with
    | some z=>(iter lf s.step z).bind fun r=>match r with
     | .inl y=>xP k (.exit s.Ru) (s.out.Kr y)
     | .inr y=>k .ret (s.ret.Kr y)
    | none=>none) none
   | none=>HF lf (fun σ k'=>cq P C Sm G n fid lf base od rf false y σ (BC l k')) σ (xP k)
  | none=>cq P C Sm G n fid lf base od rf false x σ fun e σ'=>match e with
   | .dJ=>cq P C Sm G n fid lf base od rf true y σ' k
   | .goto _=>none
   | e=>k e σ'
 | _,.cond c x y,σ,k=>kG σ c (fun σ' b=>cond b (cq P C Sm G n fid lf base od rf false x σ' k) (cq P C Sm G n fid lf base od rf false y σ' k)) none
 | _,.block id x,σ,k=>cq P C Sm G n fid lf base od rf false x σ fun e σ'=>match e with
  | .exit i=>cond (Nat.beq i id) (k .dJ σ') (k (.exit i) σ')
  | e=>k e σ'
 | _,.loop x,σ,k=>match sumOf Sm base x σ with
  | some s=>cond (s.fits n fid od rf none) (match s.shape.read (σ.gm s.gm) with
   | some z=>(iter lf s.step z).bind fun r=>match r with
    | .inl y=>k (.exit s.Ru) (s.out.Kr y)
    | .inr y=>k .ret (s.ret.Kr y)
   | none=>none) none
  | none=>HF lf (cq P C Sm G n fid lf base od rf false x) σ k
 | _,.exit id,σ,k=>k (.exit id) σ
 | _,.label _,σ,k=>k .dJ σ
 | _,.ret,σ,k=>k .ret σ
 | _,.rangeFunc g _ _ body,σ,k=>KU P G base rf g body σ k
 | _,.scope x,σ,k=>cond (jE x) (cq P C Sm G n fid lf base od rf true x σ fun e σ'=>match e with
   | .goto _=>none
   | e=>k e σ') none
 | _,.goto l,σ,k=>k (.goto l) σ
 | _,_,_,_=>none
def HL (P:Program)(rs:List ResultVar)(σ:St)(k:AV→Heap→List Nat→Option R):Option R:=
 match eF P σ rs with
 | some vs=>k (gU vs) σ.heap σ.ids
 | none=>none
end
def ZY (i k r:Nat){R:Type}(asn body:St→(Ex→St→Option R)→Option R)(σ:St)(K:AV→Heap→List Nat→Option R):Option R:=
 asn σ fun e σ1=>match e with
  | .dJ=>match tI i k r σ1 with
   | some σ2=>body σ2 fun e σ3=>NE i k r e σ3 K
   | none=>none
  | _=>none
def mF (P:Program)(C:Cons)(Sm:oR)(lf:Nat){R:Type}:Nat→gv R
 | 0=>fun _ _ _ _ _ _=>none
 | n+1=>fun base c as H L K=>match c with
  | .fn k=>match P.funcs[k]? with
   | some fn=>match fn.body with
    | some c=>cond (Nat.ble as.length fn.ntmps) (cq P C Sm (mF P C Sm lf n) n k lf (Nat.succ base * 4294967296) L (some k) false c ⟨fn.ntmps,cV as,H,L⟩ fun e σ=>match e with
     | .dJ=>HL P fn.results.toList σ K
     | .ret=>HL P fn.results.toList σ K
     | .gh v=>K (.gh v) σ.heap σ.ids
     | _=>none) none
    | none=>none
   | none=>none
  | .jZ i=>match yQ P i as H L with
   | some (k,r,x,σ)=>ZY i k r (cq P C Sm (mF P C Sm lf n) n k lf (Nat.succ base * 4294967296) L none false x.2.1) (cq P C Sm (mF P C Sm lf n) n k lf (Nat.succ base * 4294967296) L none false x.2.2) σ K
   | none=>none
def X6 (P:Program)(C:Cons)(Sm:oR)(lf n k:Nat)(ps:List Ty)(rs:List gj)(x:fG ps):Option (AA rs):=
 mF P C Sm lf n 0 (.fn k) (bT ps x) (fun _=>none) [] fun v H L=>iu rs (some (v,H,L))
def aL.jP (s:aL):Ex→St→Option (R3 s.shape.X s.out.X s.ret.X)
 | .dJ,σ=>match s.shape.read σ with
  | some x=>some (.next x)
  | none=>none
 | .exit i,σ=>cond (Nat.beq i s.Ru) (match s.out.read σ with
  | some y=>some (.out y)
  | none=>none) none
 | .ret,σ=>match s.ret.read σ with
  | some y=>some (.ret y)
  | none=>none
 | _,_=>none
def aL.EN (s:aL):Ex→St→Option (R3 s.shape.X s.out.X s.ret.X):=
 match s.lab with
 | none=>s.jP
 | some l=>BC l s.jP
def gf (P:Program)(C:Cons)(Sm:oR)(lf:Nat):Prop:=
 ∀ base r σ s,Sm base r σ=some s→∀ fn c x,P.funcs[s.k]? = some fn→fn.body=some c→x∈aK c→bS x=some r →
  ∀ z,Le (s.step z) (cq P C Sm (mF P C Sm lf s.n) s.n s.k lf base s.od s.rf false x (s.shape.Kr z) s.EN)
theorem Ry {α:Type}(f:Nat→α)(i:Nat)(v:α)(h:f i=v):aU f i v=f:=by
 funext n
 by_cases e:n=i
 ·subst e;rw[ax,h]
 ·rw[aA _ _ e]
theorem uo {σ:St}{d:Nat}{v:AV}(h:σ.tmps d=v):σ.Px d v=σ:=by
 unfold St.Px;rw[Ry _ _ _ h]
section
variable {R:Type}{P:Program}{C:Cons}
theorem pG (σ:St)(H:Heap)(L:List Nat)(dst:Option Tmp)(v:AV)(k:St→Option R):rN σ H L dst v k=((⟨σ.nt,σ.tmps,H,L⟩:St).put dst v).bind k:=by
 cases dst with
 | none=>rfl
 | some d=>
  simp only[rN,St.put]
  cases mG d σ.nt<;>rfl
theorem NH (σ:St)(id:Nat)(dst:Option Tmp)(e:NQ)(k:St→List Nat→Option R) :
  rD σ id dst e k=(σ.IQ id dst e).bind fun σ'=>k σ' (cond e.new (e.sets.map (·.1)) []):=by
 unfold rD St.IQ
 cases (e.new && !(bC σ.heap e.sets&&fK id e.sets)) with
 | true=>rfl
 | false=>simp only[cond_false];exact pG _ _ _ _ _ _
theorem qU {σ:St}{x:Operand}{c:Bool}(h:σ.val x = .lit (.bool c))(k:St→Bool→Option R)(skip:Option R):kG σ x k skip=k σ c:=by
 unfold kG
 rw[h]
 cases x with
 | tmp d=>
  have hd:σ.tmps d = .lit (.bool c):=by
   simp only[St.val] at h
   cases hl:mG d σ.nt with
   | true=>rw[hl] at h;exact h
   | false=>rw[hl] at h;simp at h
  cases c
  ·simp only[cond_false];rw[uo hd]
  ·simp only[cond_true];rw[uo hd]
 | const v=>cases c<;>rfl
 | global g=>cases c<;>rfl
 | func f=>cases c<;>rfl
def jF (F:j3)(G:gv R):Prop:=∀ base k as H L (K:AV→Heap→List Nat→Option R),Le (G base k as H L K) ((F base k as H L).bind fun p=>K p.1 p.2.1 p.2.2)
def fQ (P:Program)(C:Cons)(F:j3)(Hh:Heap)(id:Nat)(o:Oper)(σ:St):Option (Sum (AV×Heap×List Nat) (St×List Nat)):=
 match bn P C Hh id o σ.val with
 | some e=>(σ.IQ id o.dst e).map fun σ'=>.inr (σ',cond e.new (e.sets.map (·.1)) [])
 | none=>match fU P C F Hh id o σ.val σ.heap σ.ids with
  | some (.gh x,H',L')=>some (.inl (x,H',L'))
  | some (v,H',L')=>((⟨σ.nt,σ.tmps,H',L'⟩:St).put o.dst v).map fun σ'=>.inr (σ',[])
  | none=>none
def Ls (P:Program)(C:Cons)(F:j3)(Hh:Heap)(id:Nat)(o:Oper)(σ:St):Option (Sum (AV×Heap×List Nat) (St×List Nat)):=
 match o.op with
 | .panic x=>match σ.val x with
  | .Db t v=>some (.inl (.Db t v,σ.heap,σ.ids))
  | _=>none
 | _=>fQ P C F Hh id o σ
def mV (kp:AV→Heap→List Nat→Option R)(k:St→List Nat→Option R):Sum (AV×Heap×List Nat) (St×List Nat)→Option R
 | .inl p=>kp p.1 p.2.1 p.2.2
 | .inr p=>k p.1 p.2
theorem iN {α β γ δ:Type}(a:Option α)(f:α→β)(k:α→β→Option γ)(J:Sum δ (α×β)→Option γ)(hJ:∀ p,J (.inr p)=k p.1 p.2):((a.map fun x=>.inr (x,f x)).bind J)=a.bind fun x=>k x (f x):=by
 cases a with
 | none=>rfl
 | some x=>exact hJ _
theorem MZ {F:j3}{G:gv R}(hG:jF F G)(Hh:Heap)(id:Nat)(o:Oper)(σ:St)(kp:AV→Heap→List Nat→Option R)(k:St→List Nat→Option R) :
  Le (X0 P C G Hh id o σ kp k) ((fQ P C F Hh id o σ).bind (mV kp k)):=by
 have gen:∀ (s:Option Out),sem P Hh id o σ.val=s→Le (match s with
   | some (.val c v)=>cond c (rN σ σ.heap σ.ids o.dst v fun σ'=>k σ' []) none
   | some (.new c i ob v)=>cond c (rD σ id o.dst ⟨[(i,ob)],true,v⟩ k) none
   | some (.wr c i ob v)=>cond c (rD σ id o.dst ⟨[(i,ob)],false,v⟩ k) none
   | some (.Vr c i ob v u)=>cond c (rD σ id o.dst ⟨[(i,ob)],false,v⟩ k) (rD σ id o.dst ⟨[],false,u⟩ k)
   | some (.call kk as)=>match jt C o kk with
    | some u=>Sq u Hh as fun i ob v=>rD σ id o.dst ⟨[(i,ob)],false,v⟩ k
    | none=>match uD C kk with
    | some rB=>match Fp P o,cZ (ja rB Hh) rB.ps as with
     | true,some x=>(rB.f x).bind fun y=>rD σ id o.dst ⟨jh rB.rs y id,true,gU (tc rB.rs y id)⟩ k
     | _,_=>none
    | none=>G id kk as σ.heap σ.ids (OJ kp fun v H' L'=>rN σ H' L' o.dst v fun σ'=>k σ' [])
   | none=>none) ((fQ P C F Hh id o σ).bind (mV kp k)):=by
  intro s hs
  have effE:∀ e,bn P C Hh id o σ.val=some e→Le (rD σ id o.dst e k) ((fQ P C F Hh id o σ).bind (mV kp k)):=by
   intro e he
   unfold fQ
   rw[he]
   refine Le.of_eq ?_
   rw[NH]
   exact (iN (σ.IQ id o.dst e) (fun _=>cond e.new (e.sets.map (·.1)) []) k (mV kp k) fun _=>rfl).symm
  cases s with
  | none=>exact Le.none _
  | some out=>
   cases out with
   | val c v=>
    cases c with
    | true=>
     have he:bn P C Hh id o σ.val=some ⟨[],false,v⟩:=by unfold bn;rw[hs];rfl
     exact (Le.of_eq (by rw[NH];exact pG σ σ.heap σ.ids o.dst v fun σ'=>k σ' [])).trans (effE _ he)
    | false=>exact Le.none _
   | new c i ob v=>
    cases c with
    | true=>
     have he:bn P C Hh id o σ.val=some ⟨[(i,ob)],true,v⟩:=by unfold bn;rw[hs];rfl
     exact effE _ he
    | false=>exact Le.none _
   | Vr c i ob v u=>
    cases c with
    | true=>
     have he:bn P C Hh id o σ.val=some ⟨[(i,ob)],false,v⟩:=by unfold bn;rw[hs];rfl
     exact effE _ he
    | false=>
     have he:bn P C Hh id o σ.val=some ⟨[],false,u⟩:=by unfold bn;rw[hs];rfl
     exact effE _ he
   | wr c i ob v=>
    cases c with
    | true=>
     have he:bn P C Hh id o σ.val=some ⟨[(i,ob)],false,v⟩:=by unfold bn;rw[hs];rfl
     exact effE _ he
    | false=>exact Le.none _
   | call kk as=>
    cases hu:jt C o kk with
    | some u=>
     simp only[hu]
     rw[VL]
     cases ho:k9 u Hh as with
     | none=>exact Le.none _
     | some q=>
      obtain⟨i,ob,v⟩:=q
      simp only
      have he:bn P C Hh id o σ.val=some ⟨[(i,ob)],false,v⟩:=by unfold bn;rw[hs];simp only[hu,ho]
      exact effE _ he
    | none=>
    simp only[hu]
    cases hc:uD C kk with
    | none=>
     have he:bn P C Hh id o σ.val=none:=by unfold bn;rw[hs];simp only[hu,hc];split<;>simp_all
     have hi:fU P C F Hh id o σ.val σ.heap σ.ids=F id kk as σ.heap σ.ids:=by unfold fU;rw[hs];simp only[hc]
     unfold fQ
     rw[he,hi]
     simp only[hc]
     refine (hG _ _ _ _ _ _).trans (Le.of_eq ?_)
     cases F id kk as σ.heap σ.ids with
     | none=>rfl
     | some p=>
      obtain⟨v,H',L'⟩:=p
      cases v with
      | gh x=>rfl
      | _=>
       simp only[Option.bind_some,OJ,pG]
       exact (iN _ (fun _=>[]) k (mV kp k) fun _=>rfl).symm
    | some rB=>
     have he:bn P C Hh id o σ.val=match Fp P o with
      | true=>za rB Hh id as
      | false=>none:=by unfold bn;rw[hs];simp only[hu,hc];cases Fp P o<;>rfl
     simp only[hc]
     cases hr:Fp P o with
     | false=>exact Le.none _
     | true=>
      rw[hr] at he
      cases hd:cZ (ja rB Hh) rB.ps as with
      | none=>exact Le.none _
      | some x=>
       cases hf:rB.f x with
       | none=>simp only[hf];exact Le.none _
       | some y=>
        simp only[za,hd,hf] at he
        simp only[hf]
        exact effE _ he
 unfold X0
 exact gen _ rfl
theorem VH {F:j3}{G:gv R}(hG:jF F G)(Hh:Heap)(id:Nat)(o:Oper)(σ:St)(kp:AV→Heap→List Nat→Option R)(k:St→List Nat→Option R) :
  Le (SF P C G Hh id o σ kp k) ((Ls P C F Hh id o σ).bind (mV kp k)):=by
 unfold SF
 have other:(∀ x,o.op ≠ .panic x)→Ls P C F Hh id o σ=fQ P C F Hh id o σ:=by
  intro h
  unfold Ls
  split
  ·rename_i y hop;exact absurd hop (h y)
  ·rfl
 split
 ·rename_i x hop
  unfold Ls
  simp only[hop]
  cases σ.val x with
  | Db t v=>exact Le.refl _
  | _=>exact Le.none _
 ·rename_i c a b hop
  obtain⟨dst,op,ty,pos,af,gd⟩:=o
  simp only at hop
  subst hop
  have hX:Ls P C F Hh id ⟨dst,.pick c a b,ty,pos,af,gd⟩ σ=fQ P C F Hh id ⟨dst,.pick c a b,ty,pos,af,gd⟩ σ:=rfl
  rw[hX]
  cases hv:σ.val c with
  | lit x=>
   cases x with
   | bool t=>
    rw[qU hv]
    have he:bn P C Hh id ⟨dst,.pick c a b,ty,pos,af,gd⟩ σ.val=some ⟨[],false,cond t (σ.val a) (σ.val b)⟩:=by
     simp only[bn,sem,hv];rfl
    unfold fQ
    rw[he]
    refine Le.of_eq ?_
    rw[pG]
    exact (iN _ (fun _=>[]) k (mV kp k) fun _=>rfl).symm
   | _=>simp only[kG,hv];exact Le.none _
  | _=>simp only[kG,hv];exact Le.none _
 ·rename_i t x y hop
  rw[other (by rw[hop];simp)]
  split
  ·rename_i j off n sz i hfk
   intro r hr
   obtain⟨q,h1,h2,h3⟩:=qY n 0 _ hr
   unfold SG at hfk
   split at hfk
   case h_2=>simp at hfk
   rename_i j' off' kk i' hx hy
   split at hfk
   case h_2=>simp at hfk
   rename_i n' el ht
   split at hfk
   case h_2=>simp at hfk
   rename_i inf hinf
   cases hfk
   have hq:(decide (0≤i)&&decide (i<(n:Int)))=true:=by
    rw[h2];simp;omega
   have ht2:i.toNat=q:=by rw[h2];simp
   have hs:sem P Hh id o σ.val=some (.val true (.ptr j (off+q * inf.size))):=by
    unfold sem
    rw[hop]
    simp only[hx,hy,Gl,ht,hinf,hq,ht2]
   have he:bn P C Hh id o σ.val=some ⟨[],false,.ptr j (off+q * inf.size)⟩:=by unfold bn;rw[hs];rfl
   unfold fQ
   rw[he]
   rw[pG] at h3
   exact (iN _ (fun _=>[]) k (mV kp k) fun _=>rfl).trans h3
  ·exact MZ hG Hh id o σ kp k
 ·rename_i h1 h2 h3
  rw[other fun y hy=>h1 y hy]
  exact MZ hG Hh id o σ kp k
def LZ (P:Program)(C:Cons)(F:j3)(ops:Array Oper)(hide:Heap→Heap)(id i:Nat)(σ:St)(kp:AV→Heap→List Nat→Option R)(k:St→List Nat→Option R):Option R:=
 match gp P C F ops hide id i σ with
 | some (x,H',L')=>kp x H' L'
 | none=>(ir P C F ops hide id i σ).bind fun σ'=>k σ' (ef P C ops (hide σ.heap) id i σ)
theorem Wm {F:j3}{ops:Array Oper}{hide:Heap→Heap}{id i:Nat}{o:Oper}{σ:St}(ho:ops[i]? = some o)(hw:want ops σ o=some true)(kp:AV→Heap→List Nat→Option R)(k:St→List Nat→Option R) :
  (Ls P C F (hide σ.heap) id o σ).bind (mV kp k)=LZ P C F ops hide id i σ kp k:=by
 unfold LZ gp ir ef Ls
 simp only[ho,hw]
 cases hop:o.op with
 | panic x=>
  simp only
  cases hv:σ.val x with
  | Db t v=>rfl
  | _=>
   have hs:sem P (hide σ.heap) id o σ.val=none:=by unfold sem;rw[hop]
   have h1:bn P C (hide σ.heap) id o σ.val=none:=by unfold bn;rw[hs]
   have h2:fU P C F (hide σ.heap) id o σ.val σ.heap σ.ids=none:=by unfold fU;rw[hs]
   simp only[h1,h2]
   rfl
 | _=>
  simp only[fQ]
  cases he:bn P C (hide σ.heap) id o σ.val with
  | some e=>exact iN _ (fun _=>cond e.new (e.sets.map (·.1)) []) k (mV kp k) fun _=>rfl
  | none=>
   simp only
   cases hi:fU P C F (hide σ.heap) id o σ.val σ.heap σ.ids with
   | none=>rfl
   | some p=>
    obtain⟨v,H',L'⟩:=p
    cases v with
    | gh x=>rfl
    | _=>exact iN _ (fun _=>[]) k (mV kp k) fun _=>rfl
theorem aa7 {F:j3}{ops:Array Oper}{hide:Heap→Heap}{id i:Nat}{o:Oper}{σ:St}(ho:ops[i]? = some o)(hw:want ops σ o=some false)(kp:AV→Heap→List Nat→Option R)(k:St→List Nat→Option R) :
  (rN σ σ.heap σ.ids o.dst (.lit undef) fun σ'=>k σ' [])=LZ P C F ops hide id i σ kp k:=by
 unfold LZ gp ir ef
 simp only[ho,hw]
 exact pG _ _ _ _ _ _
theorem rK {F:j3}{G:gv R}(hG:jF F G)(ops:Array Oper)(hide:Heap→Heap)(id i:Nat)(σ:St)(kp:AV→Heap→List Nat→Option R)(k:St→List Nat→Option R) :
  Le (Wy P C G ops hide id i σ kp k) (LZ P C F ops hide id i σ kp k):=by
 unfold Wy
 cases ho:ops[i]? with
 | none=>unfold LZ gp ir ef;simp only[ho];exact Le.refl _
 | some o=>
  simp only
  have yes:want ops σ o=some true→Le (SF P C G (hide σ.heap) id o σ kp k) (LZ P C F ops hide id i σ kp k):=fun hw=>
   (VH hG _ _ _ _ _ _).trans (Le.of_eq (Wm ho hw kp k))
  have noo:want ops σ o=some false→Le (rN σ σ.heap σ.ids o.dst (.lit undef) fun σ'=>k σ' []) (LZ P C F ops hide id i σ kp k):=fun hw=>
   Le.of_eq (aa7 ho hw kp k)
  cases hg:o.guard with
  | none=>
   exact yes (by unfold want;rw[hg])
  | some p=>
   obtain⟨j,b⟩:=p
   simp only
   cases hj:ops[j]? with
   | none=>exact noo (by unfold want;simp only[hg,hj])
   | some g=>
    simp only
    cases hd:g.dst with
    | none=>exact noo (by unfold want;simp only[hg,hj,hd])
    | some d=>
     simp only
     cases hv:σ.val (.tmp d) with
     | lit x=>
      cases x with
      | bool c=>
       rw[qU hv]
       have hw:want ops σ o=some (c == b):=by unfold want;simp only[hg,hj,hd,hv]
       cases hcb:c == b with
       | true=>exact yes (by rw[hw,hcb])
       | false=>exact noo (by rw[hw,hcb])
      | tuple vs=>
       have hw:want ops σ o=some false:=by unfold want;simp only[hg,hj,hd,hv]
       have:∀ kk z,kG (R:=R) σ (.tmp d) kk z=z:=by intro kk z;unfold kG;rw[hv]
       rw[this];exact noo hw
      | _=>simp only[kG,hv];exact Le.none _
     | _=>simp only[kG,hv];exact Le.none _
theorem Oi {F:j3}{G:gv R}(hG:jF F G)(ops:Array Oper)(base:Nat):∀ (l:List Nat) (σ:St) (k:Ex→St→Option R),Le (Xv P C G ops base l σ k) ((qz P C F ops base l σ).bind fun p=>k p.1 p.2)
 | [],σ,k=>Le.refl _
 | i::l,σ,k=>by
  simp only[Xv,qz]
  refine (rK hG _ _ _ _ _ _ _).trans ?_
  unfold LZ
  cases gp P C F ops (fun H=>H) (base+i * 16) i σ with
  | some p=>exact Le.refl _
  | none=>
   simp only
   cases ir P C F ops (fun H=>H) (base+i * 16) i σ with
   | none=>exact Le.none _
   | some σ'=>exact Oi hG ops base l _ k
theorem uQ (ops:Array Oper)(m:List Nat)(W:List (Option Nat))(base:Nat):∀ (l L:List Nat) (σ:St) (k:St→Option R),Le (Ze P C ops m W base l L σ k) ((dQ P C ops m W base l σ).bind fun σ'=>k (σ'.ay (L++fL P C ops m W base l σ)))
 | [],L,σ,k=>by simp only[Ze,dQ,fL,List.append_nil,Option.bind_some];exact Le.refl _
 | i::l,L,σ,k=>by
  simp only[Ze,dQ,Ay,fL]
  cases mD P C ops m W i σ with
  | false=>exact Le.none _
  | true=>
  simp only[cond_true]
  refine (rK (F:=dX) (fun _ _ _ _ _ _=>Le.none _) _ _ _ _ _ _ _).trans ?_
  unfold LZ
  split
  ·exact Le.none _
  cases ir P C dX ops (cu base ops.size (m.getD i 0) (sY m W ops.size i)) (base+i * 16) i σ with
  | none=>exact Le.none _
  | some σ'=>
   refine (uQ ops m W base l _ σ' k).trans (Le.of_eq ?_)
   simp only[List.append_assoc]
theorem SZ (ops:Array Oper)(base:Nat)(σ:St)(k:St→Option R):Le (U0 P C ops base σ k) ((wN P C ops base σ).bind k):=by
 unfold U0 wN
 cases bW P C ops (aB ops) with
 | false=>exact Le.none _
 | true=>
  refine (uQ ops (aB ops) (qG P C ops (aB ops) base σ) base (List.range ops.size) [] σ k).trans (Le.of_eq ?_)
  simp only[List.nil_append,cond_true]
  cases dQ P C ops (aB ops) (qG P C ops (aB ops) base σ) base (List.range ops.size) σ<;>rfl
theorem J7 {F:j3}{G:gv R}(hG:jF F G)(ops:Array Oper)(base z:Nat)(σ:St)(k:Ex→St→Option R):Le (OL P C G ops base z σ k) ((oa P C F ops base z σ).bind fun p=>k p.1 p.2):=by
 unfold OL oa
 refine (rK hG _ _ _ _ _ _ _).trans ?_
 unfold LZ
 cases gp P C F ops (fun H=>H) (base+z * 16) z σ with
 | some p=>exact Le.refl _
 | none=>
  simp only
  cases ir P C F ops (fun H=>H) (base+z * 16) z σ with
  | none=>exact Le.none _
  | some σ'=>exact Le.refl _
theorem QH {F:j3}{G:gv R}(hG:jF F G)(ops:Array Oper)(base:Nat)(σ:St)(k:Ex→St→Option R):Le (Mm P C G ops base σ k) ((qW P C F ops base σ).bind fun p=>k p.1 p.2):=by
 unfold Mm qW
 cases zy C ops (aB ops) with
 | none=>
  simp only
  refine (SZ _ _ _ _).trans (Le.of_eq ?_)
  cases wN P C ops base σ<;>rfl
 | some z=>
  simp only
  cases bW P C ops (aB ops) with
  | false=>exact Le.none _
  | true=>
   simp only[cond_true]
   refine (uQ ops (aB ops) (qG P C ops (aB ops) base σ) base (List.range z) [] σ _).trans ?_
   cases dQ P C ops (aB ops) (qG P C ops (aB ops) base σ) base (List.range z) σ with
   | none=>exact Le.none _
   | some σ1=>
    simp only[List.nil_append,Option.bind_some]
    exact J7 hG _ _ _ _ _
theorem CR (ops:Array Oper)(m:List Nat)(W:List (Option Nat))(base z:Nat):∀ (l L:List Nat) (σ:St) (k:St→Option R),Le (kRe P C ops m W base z l L σ k) ((uP P C ops m W base z l σ).bind fun σ'=>k (σ'.ay (L++kC P C ops m W base z l σ)))
 | [],L,σ,k=>by simp only[kRe,uP,kC,List.append_nil,Option.bind_some];exact Le.refl _
 | i::l,L,σ,k=>by
  have h0:=uQ (R:=R) (P:=P) (C:=C) ops m W base [i] [] σ
  simp only[kRe,uP,kC]
  unfold Ay
  cases mD P C ops m W i σ with
  | false=>exact Le.none _
  | true=>
   simp only[cond_true]
   refine (rK (F:=dX) (fun _ _ _ _ _ _=>Le.none _) _ _ _ _ _ _ _).trans ?_
   unfold LZ
   cases hp:gp P C dX ops (cu base ops.size (m.getD i 0) (sY m W ops.size i)) (base+i * 16) i σ with
   | some p=>exact Le.none _
   | none=>
    simp only
    cases hop:ir P C dX ops (cu base ops.size (m.getD i 0) (sY m W ops.size i)) (base+i * 16) i σ with
    | none=>exact Le.none _
    | some σ'=>
     simp only[Option.bind_some]
     cases ux m z i with
     | true=>
      simp only[cond_true]
      cases xV ops i σ σ' with
      | false=>exact Le.none _
      | true=>exact CR ops m W base z l L σ k
     | false=>
      simp only[cond_false]
      rw[← List.append_assoc]
      exact CR ops m W base z l _ σ' k
theorem Wo {F:j3}{G:gv R}(hG:jF F G)(ops:Array Oper)(base z:Nat)(σ:St)(k:Ex→St→Option R):Le (aaA P C G ops base z σ k) ((JY P C F ops base z σ).bind fun p=>k p.1 p.2):=by
 unfold aaA JY
 cases bW P C ops (aB ops) with
 | false=>exact Le.none _
 | true=>
  simp only[cond_true]
  refine (uQ ops (aB ops) (qG P C ops (aB ops) base σ) base (eR (aB ops) z ops.size) [] σ _).trans ?_
  cases dQ P C ops (aB ops) (qG P C ops (aB ops) base σ) base (eR (aB ops) z ops.size) σ with
  | none=>exact Le.none _
  | some σ1=>
   simp only[List.nil_append,Option.bind_some]
   unfold Ad
   refine (rK hG _ _ _ _ _ _ _).trans ?_
   unfold LZ
   split
   ·rename_i p hp
    rw[hp];exact Le.refl _
   ·rename_i hp
    rw[hp]
    simp only
    cases ir P C F ops (fun H=>H) (base+z * 16) z (σ1.ay (fL P C ops (aB ops) (qG P C ops (aB ops) base σ) base (eR (aB ops) z ops.size) σ)) with
    | none=>exact Le.none _
    | some σ2=>
     simp only[Option.bind_some]
     refine (CR ops (aB ops) _ base z _ _ _ _).trans ?_
     simp only[List.nil_append]
     split
     ·rename_i h;rw[h];exact Le.refl _
     ·rename_i h;rw[h];exact Le.none _
theorem Vl {F:j3}{G:gv R}(hG:jF F G)(ops:Array Oper)(base z z2:Nat)(σ:St)(k:Ex→St→Option R):Le (Q1 P C G ops base z z2 σ k) ((yE P C F ops base z z2 σ).bind fun p=>k p.1 p.2):=by
 unfold Q1 yE
 cases bW P C ops (aB ops) with
 | false=>exact Le.none _
 | true=>
  simp only[cond_true]
  refine (uQ ops (aB ops) (qG P C ops (aB ops) base σ) base (eR (aB ops) z ops.size) [] σ _).trans ?_
  cases dQ P C ops (aB ops) (qG P C ops (aB ops) base σ) base (eR (aB ops) z ops.size) σ with
  | none=>exact Le.none _
  | some σ1=>
   simp only[List.nil_append,Option.bind_some]
   unfold tQ
   refine (rK hG _ _ _ _ _ _ _).trans ?_
   unfold LZ
   split
   ·rename_i p hp
    rw[hp];exact Le.refl _
   ·rename_i hp
    rw[hp]
    simp only
    cases ir P C F ops (fun H=>H) (base+z * 16) z (σ1.ay (fL P C ops (aB ops) (qG P C ops (aB ops) base σ) base (eR (aB ops) z ops.size) σ)) with
    | none=>exact Le.none _
    | some σ2=>
     simp only[Option.bind_some]
     refine (CR ops (aB ops) _ base z _ _ _ _).trans ?_
     simp only[List.nil_append]
     split
     ·rename_i h;rw[h];exact J7 hG _ _ _ _ _
     ·rename_i h;rw[h];exact Le.none _
theorem Bb {F:j3}{G:gv R}(hG:jF F G)(ops:Array Oper)(base:Nat)(σ:St)(k:Ex→St→Option R):Le (EW P C G ops base σ k) ((iM P C F ops base σ).bind fun p=>k p.1 p.2):=by
 unfold EW iM
 cases UZ C ops (aB ops) with
 | some p=>exact Vl hG _ _ _ _ _ _
 | none=>
  simp only
  cases Uu C ops (aB ops) with
  | some z=>exact Wo hG _ _ _ _ _
  | none=>exact QH hG _ _ _ _
theorem ul {F:j3}{G:gv R}(hG:jF F G)(ops:Array Oper)(base:Nat)(σ:St)(k:Ex→St→Option R):Le (Ar P C G ops base σ k) ((jL P C F ops base σ).bind fun p=>k p.1 p.2):=by
 unfold Ar jL
 cases MP P ops σ ops.toList 0 with
 | some j=>
  simp only
  refine (Bb hG _ _ _ _).trans (Le.of_eq ?_)
  cases iM P C F ops base σ<;>rfl
 | none=>exact Bb hG _ _ _ _
theorem UR {F:j3}{G:gv R}(hG:jF F G)(ops:Array Oper)(base:Nat)(σ:St)(k:Ex→St→Option R):Le (Va P C G ops base σ k) ((jL P C F ops base σ).bind fun p=>k p.1 p.2):=by
 unfold Va
 split
 ·split
  ·rename_i d n _ _ kk i hd
   intro r hr
   obtain⟨q,h1,h2,h3⟩:=qY n 0 _ hr
   have:σ.Px d (.lit (.int kk (q:Int)))=σ:=uo (by rw[hd,h2])
   rw[this] at h3
   exact ul hG ops base σ k r h3
  ·exact ul hG ops base σ k
 ·exact ul hG ops base σ k
theorem yN {f:St→Option (Ex×St)}{g:St→(Ex→St→Option R)→Option R}(h:∀ σ k,Le (g σ k) ((f σ).bind fun p=>k p.1 p.2)) :
  ∀ (n:Nat) (σ:St) (k:Ex→St→Option R),Le (HF n g σ k) ((cE n f σ).bind fun p=>k p.1 p.2)
 | 0,σ,k=>Le.refl _
 | n+1,σ,k=>by
  simp only[HF,cE]
  refine (h _ _).trans ?_
  cases f σ with
  | none=>exact Le.none _
  | some p=>
   obtain⟨e,σ'⟩:=p
   cases e with
   | dJ=>exact yN h n σ' k
   | gh v=>exact Le.none _
   | _=>exact Le.refl _
def aL.fin (s:aL):Sum s.out.X s.ret.X→Ex×St
 | .inl y=>(.exit s.Ru,s.out.Kr y)
 | .inr y=>(.ret,s.ret.Kr y)
theorem LI {s:aL}{od:List Nat}(h1:s.od=od)(h2:s.out.od.map (·.1)=od)(h3:s.ret.od.map (·.1)=od){f:St→Option (Ex×St)}
  (hf:∀ z,Le (s.step z) ((f (s.shape.Kr z)).bind fun p=>s.jP p.1 p.2)):∀ (n:Nat) (σ:St) (z:s.shape.X),s.shape.read σ=some z →
  Le ((iter n s.step z).map s.fin) (oE od (some s.lh) (cE n (dy od (some s.lh) f) σ))
 | 0,σ,z,_=>Le.none _
 | n+1,σ,z,hr=>by
  have hh:=aa.uE hr
  have hod:s.shape.od.map (·.1)=od:=h1
  rw[hod] at hh
  have hR:dy od (some s.lh) f σ=f (s.shape.Kr z):=by
   simp only[dy,aL.lh,hh]
  simp only[iter,cE,hR]
  cases hs:s.step z with
  | none=>exact Le.none _
  | some r=>
   have:=hf z r hs
   cases hfe:f (s.shape.Kr z) with
   | none=>rw[hfe] at this;simp at this
   | some p=>
    obtain⟨e,σ'⟩:=p
    rw[hfe] at this
    simp only[Option.bind_some] at this
    cases e with
    | dJ=>
     simp only[aL.jP] at this
     split at this
     ·rename_i x hx
      cases this
      exact LI h1 h2 h3 hf n σ' x hx
     ·simp at this
    | gh v=>simp[aL.jP] at this
    | exit i=>
     simp only[aL.jP] at this
     obtain⟨hi,this⟩:=iA this
     split at this
     ·rename_i y hy
      cases this
      have hy':=aa.uE hy
      rw[h2] at hy'
      intro q hq
      simp only[oE,aL.lh,hy']
      simp only[Option.map_some,aL.fin,Option.some.injEq] at hq
      rw[← hq,Nat.eq_of_beq_eq_true hi]
     ·simp at this
    | ret=>
     simp only[aL.jP] at this
     split at this
     ·rename_i y hy
      cases this
      have hy':=aa.uE hy
      rw[h3] at hy'
      intro q hq
      simp only[oE,aL.lh,hy']
      simp only[Option.map_some,aL.fin,Option.some.injEq] at hq
      rw[← hq]
     ·simp at this
    | goto l=>simp[aL.jP] at this
end
section
variable {P:Program}{C:Cons}{Sm:oR}{lf:Nat}
theorem yp {base:Nat}{x:Code}{σ:St}:hintOf (aV Sm) base x σ=(sumOf Sm base x σ).map aL.lh:=by
 unfold hintOf sumOf aV
 cases bS x with
 | none=>rfl
 | some r=>simp only;cases Sm base r σ<;>rfl
theorem LX {R:Type}(σ:St)(i:Nat)(H:Heap)(L:List Nat)(k:Ex→St→Option R):D1 σ i H L k=(oH σ i H L).bind fun p=>k p.1 p.2:=by
 unfold D1 oH
 split<;>simp_all
theorem QE {R:Type}{F:j3}{G:gv R}(hG:jF F G)(base:Nat)(rf:Option Nat)(g:Operand)(body:Code)(σ:St)(k:Ex→St→Option R) :
  Le (KU P G base rf g body σ k) ((iG P F base rf g body σ).bind fun p=>k p.1 p.2):=by
 unfold KU iG
 split
 ·rename_i fid kk first caps r hg hr
  simp only[hg,hr]
  cases dR P fid r with
  | none=>exact Le.none _
  | some x=>
   simp only
   cases Sj σ base fid r x with
   | none=>exact Le.none _
   | some p=>
    obtain⟨σ1,i⟩:=p
    simp only
    cases gW P kk with
    | false=>exact Le.none _
    | true=>
     simp only[cond_true]
     refine (hG _ _ _ _ _ _).trans ?_
     cases F (i+1) (.fn kk) (first++[.jZ i]++caps) σ1.heap σ1.ids with
     | none=>exact Le.none _
     | some q=>
      obtain⟨v,H,L⟩:=q
      cases v with
      | gh x=>exact Le.none _
      | _=>exact Le.of_eq (LX _ _ _ _ _)
 ·exact Le.none _
theorem bQ:∀ (c:Code) (x:cN),x∈bc c→(∀ z∈aK x.2.1,z∈aK c)∧∀ z∈aK x.2.2,z∈aK c
 | .seq a b,x,h=>by
  simp only[bc,List.mem_append] at h
  rcases h with h|h
  ·obtain⟨h1,h2⟩:=bQ a x h
   exact⟨fun z hz=>by simp[aK,h1 z hz],fun z hz=>by simp[aK,h2 z hz]⟩
  ·obtain⟨h1,h2⟩:=bQ b x h
   exact⟨fun z hz=>by simp[aK,h1 z hz],fun z hz=>by simp[aK,h2 z hz]⟩
 | .scope a,x,h=>by
  obtain⟨h1,h2⟩:=bQ a x h
  exact⟨fun z hz=>h1 z hz,fun z hz=>h2 z hz⟩
 | .cond _ a b,x,h=>by
  simp only[bc,List.mem_append] at h
  rcases h with h|h
  ·obtain⟨h1,h2⟩:=bQ a x h
   exact⟨fun z hz=>by simp[aK,h1 z hz],fun z hz=>by simp[aK,h2 z hz]⟩
  ·obtain⟨h1,h2⟩:=bQ b x h
   exact⟨fun z hz=>by simp[aK,h1 z hz],fun z hz=>by simp[aK,h2 z hz]⟩
 | .block _ a,x,h=>by
  obtain⟨h1,h2⟩:=bQ a x h
  exact⟨fun z hz=>h1 z hz,fun z hz=>h2 z hz⟩
 | .loop a,x,h=>by
  obtain⟨h1,h2⟩:=bQ a x h
  exact⟨fun z hz=>by simp[aK,h1 z hz],fun z hz=>by simp[aK,h2 z hz]⟩
 | .rangeFunc _ _ a b,x,h=>by
  simp only[bc,List.mem_singleton] at h
  subst h
  exact⟨fun z hz=>by simp[aK,hz],fun z hz=>by simp[aK,hz]⟩
 | .skip,x,h=>by simp[bc] at h
 | .region _ _ _,x,h=>by simp[bc] at h
 | .exit _,x,h=>by simp[bc] at h
 | .label _,x,h=>by simp[bc] at h
 | .ret,x,h=>by simp[bc] at h
 | .goto _,x,h=>by simp[bc] at h
 | .refuse _,x,h=>by simp[bc] at h
theorem FK {r:Nat}:∀ {l:List cN} {y:cN},zY r l=some y→y∈l
 | [],y,h=>by simp[zY] at h
 | z::l,y,h=>by
  simp only[zY] at h
  cases hz:cN.is z r with
  | true=>
   rw[hz] at h
   simp only[cond_true] at h
   cases hb:(l.any fun y=>cN.is y r) with
   | true=>rw[hb] at h;simp at h
   | false=>rw[hb] at h;simp only[cond_false,Option.some.injEq] at h;simp[h]
  | false=>rw[hz] at h;exact List.mem_cons_of_mem _ (FK h)
theorem Mf {k r:Nat}{x:cN}(h:dR P k r=some x):∃ fn c,P.funcs[k]? = some fn∧fn.body=some c∧x∈bc c:=by
 unfold dR at h
 split at h
 ·rename_i fn hfn
  split at h
  ·rename_i c hc;exact⟨fn,c,hfn,hc,FK h⟩
  ·simp at h
 ·simp at h
theorem SJ {i:Nat}{as:List AV}{H:Heap}{L:List Nat}{k r:Nat}{x:cN}{σ:St}(h:yQ P i as H L=some (k,r,x,σ)):dR P k r=some x:=by
 unfold yQ at h
 split at h
 ·split at h
  ·rename_i hx
   obtain⟨_,e⟩:=aj h
   cases e
   exact hx
  ·simp at h
 ·simp at h
theorem VX {R:Type}{i k r:Nat}{asn body:St→(Ex→St→Option R)→Option R}{asn' body':St→Option (Ex×St)}(h1:∀ σ K,Le (asn σ K) ((asn' σ).bind fun p=>K p.1 p.2))
  (h2:∀ σ K,Le (body σ K) ((body' σ).bind fun p=>K p.1 p.2)) (σ:St) (K:AV→Heap→List Nat→Option R) :
  Le (ZY i k r asn body σ K) ((Bu i k r asn' body' σ).bind fun p=>K p.1 p.2.1 p.2.2):=by
 unfold ZY Bu
 refine (h1 _ _).trans ?_
 cases asn' σ with
 | none=>exact Le.none _
 | some p=>
  obtain⟨e,σ1⟩:=p
  cases e with
  | dJ=>
   simp only[Option.bind_some]
   cases tI i k r σ1 with
   | none=>exact Le.none _
   | some σ2=>
    simp only
    refine (h2 _ _).trans ?_
    cases body' σ2 with
    | none=>exact Le.none _
    | some q=>
     obtain⟨e,σ3⟩:=q
     simp only[Option.bind_some,NE]
     cases yo i k r e σ3<;>exact Le.refl _
  | _=>exact Le.none _
theorem bI (hr:gf P C Sm lf){n fid base:Nat}{od:List Nat}{rf:Option Nat}(hG:∀ {R:Type},jF (R:=R) (bK P C (aV Sm) lf n) (mF P C Sm lf n))
  {fn:Func} {c0:Code} (hfn:P.funcs[fid]? = some fn) (hc0:fn.body=some c0) :
  ∀ {R:Type} (sc:Bool) (c:Code) (σ:St) (k:Ex→St→Option R),(∀ x∈aK c,x∈aK c0) →
   Le (cq P C Sm (mF P C Sm lf n) n fid lf base od rf sc c σ k) ((aF P C (aV Sm) (bK P C (aV Sm) lf n) lf base od rf sc c σ).bind fun p=>k p.1 p.2)
 | R,sc,.skip,σ,k,_=>Le.refl _
 | R,sc,.region id ops draw,σ,k,_=>by
  simp only[cq,aF]
  cases draw with
  | true=>
   simp only[cond_true]
   exact UR hG _ _ _ _
  | false=>
   simp only[cond_false]
   exact Oi hG _ _ _ _ _
 | R,false,.seq x y,σ,k,hl=>by
  simp only[cq,aF]
  refine (bI hr hG hfn hc0 false x σ _ (fun z hz=>hl z (by simp[aK,hz]))).trans ?_
  cases aF P C (aV Sm) (bK P C (aV Sm) lf n) lf base od rf false x σ with
  | none=>exact Le.none _
  | some p=>
   obtain⟨e,σ'⟩:=p
   cases e with
   | dJ=>exact bI hr hG hfn hc0 false y σ' k (fun z hz=>hl z (by simp[aK,hz]))
   | _=>exact Le.refl _
 | R,true,.seq x y,σ,k,hl=>by
  simp only[cq,aF]
  cases hx:tO x with
  | none=>
   simp only
   refine (bI hr hG hfn hc0 false x σ _ (fun z hz=>hl z (by simp[aK,hz]))).trans ?_
   cases aF P C (aV Sm) (bK P C (aV Sm) lf n) lf base od rf false x σ with
   | none=>exact Le.none _
   | some p=>
    obtain⟨e,σ'⟩:=p
    cases e with
    | dJ=>exact bI hr hG hfn hc0 true y σ' k (fun z hz=>hl z (by simp[aK,hz]))
    | goto l=>exact Le.none _
    | _=>exact Le.refl _
  | some l=>
   simp only
   have hxe:=yT hx
   subst hxe
   have fl:∀ {R:Type} (σ:St) (k:Ex→St→Option R),Le (cq P C Sm (mF P C Sm lf n) n fid lf base od rf false y σ (BC l k)) ((jK l (aF P C (aV Sm) (bK P C (aV Sm) lf n) lf base od rf false y σ)).bind fun p=>k p.1 p.2):=by
    intro R σ k
    refine (bI hr hG hfn hc0 false y σ _ (fun z hz=>hl z (by simp[aK,hz]))).trans ?_
    cases aF P C (aV Sm) (bK P C (aV Sm) lf n) lf base od rf false y σ with
    | none=>exact Le.none _
    | some p=>
     obtain⟨e,σ'⟩:=p
     cases e with
     | dJ=>exact Le.refl _
     | goto i=>simp only[Option.bind_some,BC,jK,jk];cases Nat.beq i l<;>exact Le.refl _
     | exit i=>simp only[Option.bind_some,BC,jK,jk];cases Nat.beq i Dz<;>exact Le.refl _
     | ret=>exact Le.refl _
     | gh v=>exact Le.none _
   have un:∀ (r:Option (Ex×St)),Le (r.bind fun p=>xP k p.1 p.2) ((yx r).bind fun p=>k p.1 p.2):=by
    intro r
    cases r with
    | none=>exact Le.none _
    | some p=>
     obtain⟨e,σ'⟩:=p
     cases e with
     | exit i=>simp only[Option.bind_some,xP,yx,QY];cases Nat.beq i Dz<;>exact Le.refl _
     | ret=>exact Le.refl _
     | _=>exact Le.none _
   rw[yp]
   cases hs:sumOf Sm base y σ with
   | none=>
    simp only[Option.map_none]
    have e1:∀ r,oE od none r=r:=by intro r;unfold oE;split<;>rfl
    rw[e1]
    refine Le.trans ?_ (un _)
    exact yN (g:=fun σ k'=>cq P C Sm (mF P C Sm lf n) n fid lf base od rf false y σ (BC l k')) (fun σ k=>fl σ k) lf σ _
   | some s=>
    simp only[Option.map_some]
    cases hfit:s.fits n fid od rf (some l) with
    | false=>exact Le.none _
    | true=>
     simp only[cond_true]
     unfold aL.fits at hfit
     simp only[Bool.and_eq_true] at hfit
     obtain⟨⟨⟨⟨⟨⟨IF,f0⟩,f1⟩,f2⟩,f3⟩,f4⟩,f5⟩:=hfit
     have IF:=xH IF
     have f0:=xH f0
     have f1:=Nat.eq_of_beq_eq_true f1
     have f2:=Nat.eq_of_beq_eq_true f2
     have f3:=gy f3
     have f4:=gy f4
     have f5:=gy f5
     cases hz:s.shape.read σ with
     | none=>exact Le.none _
     | some z=>
      simp only
      have hround:∀ z,Le (s.step z) ((jK l (aF P C (aV Sm) (bK P C (aV Sm) lf n) lf base od rf false y (s.shape.Kr z))).bind fun p=>s.jP p.1 p.2):=by
       intro z
       unfold sumOf at hs
       cases hfr:bS y with
       | none=>rw[hfr] at hs;simp at hs
       | some r=>
        rw[hfr] at hs
        have:=hr base r σ s hs fn c0 y (by rw[f2];exact hfn) hc0 (hl y (by simp[aK,ab3])) hfr z
        rw[f0,f1,f2,f3] at this
        unfold aL.EN at this
        rw[IF] at this
        exact this.trans (fl _ _)
      have:=LI (f:=fun σ=>jK l (aF P C (aV Sm) (bK P C (aV Sm) lf n) lf base od rf false y σ)) f3 f4 f5 hround lf σ z hz
      intro q hq
      cases hi:iter lf s.step z with
      | none=>rw[hi] at hq;simp at hq
      | some r=>
       rw[hi] at hq this
       have h2:=this (s.fin r) rfl
       rw[h2]
       cases r with
       | inl y=>exact un (some (.exit s.Ru,s.out.Kr y)) q hq
       | inr y=>exact hq
 | R,sc,.cond c x y,σ,k,hl=>by
  simp only[cq,aF]
  cases hv:σ.val c with
  | lit v=>
   cases v with
   | bool b=>
    rw[qU hv]
    cases b with
    | true=>exact bI hr hG hfn hc0 false x σ k (fun z hz=>hl z (by simp[aK,hz]))
    | false=>exact bI hr hG hfn hc0 false y σ k (fun z hz=>hl z (by simp[aK,hz]))
   | _=>simp only[kG,hv];exact Le.none _
  | _=>simp only[kG,hv];exact Le.none _
 | R,sc,.block id x,σ,k,hl=>by
  simp only[cq,aF]
  refine (bI hr hG hfn hc0 false x σ _ (fun z hz=>hl z (by simpa [aK] using hz))).trans ?_
  cases aF P C (aV Sm) (bK P C (aV Sm) lf n) lf base od rf false x σ with
  | none=>exact Le.none _
  | some p=>
   obtain⟨e,σ'⟩:=p
   cases e with
   | exit i=>simp only[Option.bind_some];cases Nat.beq i id<;>exact Le.refl _
   | _=>exact Le.refl _
 | R,sc,.loop x,σ,k,hl=>by
  simp only[cq,aF]
  rw[yp]
  cases hs:sumOf Sm base x σ with
  | none=>
   simp only[Option.map_none]
   have e1:∀ r,oE od none r=r:=by intro r;unfold oE;split<;>rfl
   rw[e1]
   exact yN (fun σ k=>bI hr hG hfn hc0 false x σ k (fun z hz=>hl z (by simp[aK,hz]))) lf σ k
  | some s=>
   simp only[Option.map_some]
   cases hfit:s.fits n fid od rf none with
   | false=>exact Le.none _
   | true=>
    simp only[cond_true]
    unfold aL.fits at hfit
    simp only[Bool.and_eq_true] at hfit
    obtain⟨⟨⟨⟨⟨⟨IF,f0⟩,f1⟩,f2⟩,f3⟩,f4⟩,f5⟩:=hfit
    have IF:=xH IF
    have f0:=xH f0
    have f1:=Nat.eq_of_beq_eq_true f1
    have f2:=Nat.eq_of_beq_eq_true f2
    have f3:=gy f3
    have f4:=gy f4
    have f5:=gy f5
    cases hz:s.shape.read (σ.gm s.gm) with
    | none=>exact Le.none _
    | some z=>
     simp only
     have hround:∀ z,Le (s.step z) ((aF P C (aV Sm) (bK P C (aV Sm) lf n) lf base od rf false x (s.shape.Kr z)).bind fun p=>s.jP p.1 p.2):=by
      intro z
      unfold sumOf at hs
      cases hfr:bS x with
      | none=>rw[hfr] at hs;simp at hs
      | some r=>
       rw[hfr] at hs
       have:=hr base r σ s hs fn c0 x (by rw[f2];exact hfn) hc0 (hl x (by simp[aK])) hfr z
       rw[f0,f1,f2,f3] at this
       unfold aL.EN at this
       rw[IF] at this
       exact this.trans (bI hr hG hfn hc0 false x _ _ (fun z hz=>hl z (by simp[aK,hz])))
     have:=LI f3 f4 f5 hround lf (σ.gm s.gm) z hz
     intro q hq
     cases hi:iter lf s.step z with
     | none=>rw[hi] at hq;simp at hq
     | some r=>
      rw[hi] at hq this
      have h2:=this (s.fin r) rfl
      rw[show LU (some s.lh) σ=σ.gm s.gm from rfl]
      rw[h2]
      cases r<;>exact hq
 | R,sc,.exit id,σ,k,_=>Le.refl _
 | R,sc,.label _,σ,k,_=>Le.refl _
 | R,sc,.ret,σ,k,_=>Le.refl _
 | R,sc,.rangeFunc g ps asn body,σ,k,_=>by simp only[cq,aF];exact QE hG _ _ _ _ _ _
 | R,sc,.scope x,σ,k,hl=>by
  simp only[cq,aF]
  cases jE x with
  | false=>exact Le.none _
  | true=>
   simp only[cond_true]
   refine (bI hr hG hfn hc0 true x σ _ (fun z hz=>hl z (by simpa [aK] using hz))).trans ?_
   cases aF P C (aV Sm) (bK P C (aV Sm) lf n) lf base od rf true x σ with
   | none=>exact Le.none _
   | some p=>
    obtain⟨e,σ'⟩:=p
    cases e with
    | goto l=>exact Le.none _
    | _=>exact Le.refl _
 | R,sc,.goto _,σ,k,_=>Le.refl _
 | R,sc,.refuse _,σ,k,_=>Le.none _
theorem iB (hr:gf P C Sm lf):∀ (n:Nat) {R:Type},jF (R:=R) (bK P C (aV Sm) lf n) (mF P C Sm lf n)
 | 0,R=>fun base k as H L K=>Le.none _
 | n+1,R=>fun base k as H L K=>by
  cases k with
  | fn k=>
   simp only[mF,bK]
   cases hfn:P.funcs[k]? with
   | none=>exact Le.none _
   | some fn=>
    simp only
    cases hb:fn.body with
    | none=>exact Le.none _
    | some c=>
     simp only
     cases Nat.ble as.length fn.ntmps with
     | false=>exact Le.none _
     | true=>
      simp only[cond_true]
      refine (bI hr (fun {R}=>iB hr n) hfn hb false c _ _ (fun x hx=>hx)).trans ?_
      cases aF P C (aV Sm) (bK P C (aV Sm) lf n) lf (Nat.succ base * 4294967296) L (some k) false c ⟨fn.ntmps,cV as,H,L⟩ with
      | none=>exact Le.none _
      | some p=>
       obtain⟨e,σ⟩:=p
       cases e with
       | dJ=>
        simp only[Option.bind_some,sj,HL]
        cases eF P σ fn.results.toList<;>exact Le.refl _
       | ret=>
        simp only[Option.bind_some,sj,HL]
        cases eF P σ fn.results.toList<;>exact Le.refl _
       | gh v=>exact Le.refl _
       | _=>exact Le.none _
  | jZ i=>
   simp only[mF,bK]
   cases hin:yQ P i as H L with
   | none=>exact Le.none _
   | some p=>
    obtain⟨k,r,x,σ⟩:=p
    simp only
    obtain⟨fn,c,hfn,hc,hx⟩:=Mf (SJ hin)
    obtain⟨hl1,hl2⟩:=bQ c x hx
    exact VX (fun σ K=>bI hr (fun {R}=>iB hr n) hfn hc false _ σ K hl1) (fun σ K=>bI hr (fun {R}=>iB hr n) hfn hc false _ σ K hl2) σ K
theorem Xu (hr:gf P C Sm lf){n k:Nat}{ps:List Ty}{rs:List gj}{x:fG ps}:Le (X6 P C Sm lf n k ps rs x) (top P C (aV Sm) lf n k ps rs x):=by
 unfold X6 top
 refine (iB hr n _ _ _ _ _ _).trans ?_
 cases bK P C (aV Sm) lf n 0 (.fn k) (bT ps x) (fun _=>none) [] with
 | none=>exact Le.none _
 | some p=>exact Le.refl _
theorem ah [ar](hC:bV P C)(hr:gf P C Sm lf){n k:Nat}{c:bA}
  (h:∀ x,X6 P C Sm lf n k c.ps c.rs x=c.f x):c.OK P k:=
 LV (Hn:=aV Sm) (lf:=lf) (n:=n) hC fun x y hf=>Xu hr y (by rw[h x];exact hf)
end
section
variable [ar]{P:Program}{C:Cons}{lf:Nat}
def Hl (P:Program)(C:Cons)(Hn:Hints)(lf n k:Nat)(od:List Nat)(as:List AV)(H:Heap)(L:List Nat):Option (AV×Heap×List Nat):=
 match P.funcs[k]? with
 | some fn=>match fn.body with
  | some c=>cond (Nat.ble as.length fn.ntmps) (sj P fn.results.toList (aF P C Hn (bK P C Hn lf n) lf 4294967296 od (some k) false c ⟨fn.ntmps,cV as,H,L⟩)) none
  | none=>none
 | none=>none
theorem Uv {Hn:Hints}(hC:bV P C){n k:Nat}{od:List Nat}{as:List AV}{H H' Ho:Heap}{L L':List Nat}{v:AV}(h:Hl P C Hn lf n k od as H L=some (v,H',L'))(hnp:v.e7=false)(hBd:∀ q,H q≠none→q∈L)
  {μ μo:Mu} {S:an} {B:Nat} {w0 w:World} {us:Array Value} (hod:∀ i,μo i≠none→i∈od) (C0:Carry B μo S Ho μ S H) (R:Rel μ S H B w0 w) (hv:aP μ S H as us.toList) :
  Calls P k us w fun e w'=>∃ u μ' S',e = .returned u∧VR μ' S' H' v u∧Rel μ' S' H' B w0 w'∧(∀ b,S' b≠none→S b≠none∨B≤b)∧(∀ b o,S b=some o→S' b=some o):=by
 have ih:=iZ (lf:=lf) (Hn:=Hn) hC n
 unfold Hl at h
 split at h
 case h_2=>simp at h
 rename_i fn hfn
 split at h
 case h_2=>simp at h
 rename_i c hc
 cases hle:Nat.ble as.length fn.ntmps with
 | false=>rw[hle] at h;simp at h
 | true=>
  rw[hle] at h
  simp only[cond_true] at h
  have hle:=Nat.le_of_ble_eq_true hle
  have hlen:=aT hv
  simp only[Array.length_toList] at hlen
  refine (gw (r:=none) (n:=0)).1 (callsIn_of_wp_marks hfn hc trivial ?_ rfl)
  have A0:AR S (false,[]) μ S ⟨fn.ntmps,cV as,H,L⟩ { tmps:=us++Array.replicate (fn.ntmps-us.size) undef,defers:=[] }:=by
   refine⟨⟨[],rfl,⟨List.nodup_nil,by simp⟩,fun _=>rfl⟩,by simp;omega,fun t ht=>?_⟩
   have:=kz hv t
   rw[List.getD_eq_getElem?_getD] at this
   rw[Array.getD_eq_getD_getElem?]
   by_cases hlt:t<us.size
   ·rw[Array.getElem?_append_left hlt];simpa using this
   ·rw[Array.getElem?_append_right (by omega),Array.getElem?_replicate]
    have e1:us.toList[t]? = none:=by rw[List.getElem?_eq_none];simp;omega
    rw[e1] at this
    have:t-us.size<fn.ntmps-us.size:=by simp only at ht;omega
    rw[if_pos this];assumption
  have fin:∀ (e:Ex) (σ:St),aF P C Hn (bK P C Hn lf n) lf 4294967296 od (some k) false c ⟨fn.ntmps,cV as,H,L⟩=some (e,σ)→e = .dJ∨e = .ret →
    (∃ vs,eF P σ fn.results.toList=some vs∧v=gU vs∧H'=σ.heap) →
    c.wpIn (WF none) 0 P (bodyPostM (WF none) 0 P fn fun e w'=>∃ u μ' S',e = .returned u∧VR μ' S' H' v u∧Rel μ' S' H' B w0 w'∧(∀ b,S' b≠none→S b≠none∨B≤b)∧(∀ b o,S b=some o→S' b=some o)) { tmps:=us++Array.replicate (fn.ntmps-us.size) undef,defers:=[] } w:=by
   rintro e σ he hex ⟨vs,hvs,rfl,rfl⟩
   refine aH (Dt:=(false,[])) (μo:=μo) (So:=S) (Ho:=Ho) (fun _=>⟨rfl,rfl⟩) hC ih hod c (.top hfn hc) _ e σ _ w μ S _ he hBd A0 R C0 fun a' w' μ' S' xe A' R' C' hx=>?_
   have main:LeavesInM (WF none) 0 P fn a'.tmps (fun e w'=>∃ u μ' S',e = .returned u∧VR μ' S' σ.heap (gU vs) u∧Rel μ' S' σ.heap B w0 w'∧(∀ b,S' b≠none→S b≠none∨B≤b)∧(∀ b o,S b=some o→S' b=some o)) a'.defers .returning w':=by
    obtain⟨ms,hms,hmk,_⟩:=A'.defers
    rw[hms]
    refine l6 (by simp) R.pre ms S' w' R' hmk C'.sub (fun D hD=>?_) fun S2 w2 R2 hc2 hs2 hn2=>?_
    ·rcases C'.st D (by rw[(hmk.2 D hD).2];simp) with h|h
     ·exact absurd (hmk.2 D hD).1 h
     ·exact h
    ·have A2:AR S (false,[]) μ' S2 σ { tmps:=a'.tmps,defers:=[] }:=⟨⟨[],rfl,⟨List.nodup_nil,by simp⟩,fun _=>rfl⟩,A'.size,fun t ht=>kJ hc2 _ _ (A'.tmp t ht)⟩
     obtain⟨u,k1,k2⟩:=qR A2 R2 hvs
     exact⟨u,k1,u,μ',S2,rfl,k2,R2,fun b hb=>C'.st b (hn2 b hb),hs2⟩
   rcases hex with rfl|rfl
   ·cases (show xe = .normal from hx);exact main
   ·cases (show xe = .ret from hx);exact main
  unfold sj at h
  split at h
  ·rename_i σ he
   split at h
   ·rename_i vs hvs;cases h;exact fin .dJ σ he (.inl rfl) ⟨vs,hvs,rfl,rfl⟩
   ·simp at h
  ·rename_i σ he
   split at h
   ·rename_i vs hvs;cases h;exact fin .ret σ he (.inr rfl) ⟨vs,hvs,rfl,rfl⟩
   ·simp at h
  ·cases h;simp[AV.e7] at hnp
  ·simp at h
omit [ar] in
theorem vo {S S':an}(h:∀ b o,S b=some o→S' b=some o):∀ {ps:List Ty} {x:fG ps} {vs:List Value},js S ps x vs→js S' ps x vs
 | [],_,_,hr=>hr
 | t::ts,x,vs,hr=>by
  obtain⟨v,r,e,h1,h2⟩:=hr
  refine⟨v,r,e,?_,vo h h2⟩
  unfold Vp at h1 ⊢
  split at h1
  ·rename_i ht
   rw[if_pos ht]
   obtain⟨cs,e2,h1⟩:=h1
   exact⟨cs,e2,dS h _ _ _ h1⟩
  ·rename_i ht
   rw[if_neg ht]
   exact dS h _ _ _ h1
def q8 (te:TypeId)(e:Ty)(zs:List e.T):Heap:=aU (fun _=>none) 1 (some (.row te e 0 zs))
def WM (P:Program)(C:Cons)(Hn:Hints)(lf n k:Nat)(te:TypeId)(e:Ty)(ps:List Ty)(zs:List e.T)(x:fG ps):Option (AA [.own te e]):=
 iu [.own te e] (Hl P C Hn lf n k [] (.sl 1 0::bT ps x) (q8 te e zs) [1])
theorem H7 {Hn:Hints}(hC:bV P C){n k:Nat}{te:TypeId}{e:Ty}{ps:List Ty}{f:List e.T→fG ps→Option (List e.T×Unit)}(hfl:e.flat=true)
  (h:∀ zs x y,f zs x=some y→WM P C Hn lf n k te e ps zs x=some y) :
  (⟨te,e,ps,false,fun zs x=>(f zs x).map (·.1)⟩:dA).OK P k:=by
 intro zs x ys hf S w B v0 cs0 vs hS hG ha hR hown hv0 hB
 simp only at zs x ys hf ha hR hown
 cases hfe:f zs x with
 | none=>rw[hfe] at hf;simp at hf
 | some y=>
 rw[hfe] at hf
 simp only[Option.map_some,Option.some.injEq] at hf
 have ht:=h zs x y hfe
 unfold WM at ht
 cases he:Hl P C Hn lf n k [] (.sl 1 0::bT ps x) (q8 te e zs) [1] with
 | none=>rw[he] at ht;simp[iu] at ht
 | some p=>
 obtain⟨v,H',L'⟩:=p
 rw[he] at ht
 simp only[iu] at ht
 obtain⟨hnp,ht⟩:=cM ht
 split at ht
 case h_2=>simp at ht
 rename_i y' o hd
 obtain⟨hdis,rfl⟩:=aj ht
 let S1:an:=fun b=>if v0.ownBlock=some b then none else w.heap[b]?
 have hS1:∀ b o,S b=some o→S1 b=some o:=by
  intro b o hb
  show (if v0.ownBlock=some b then none else w.heap[b]?)=some o
  rw[if_neg (fun hq=>by rw[hv0 b hq] at hb;simp at hb)]
  exact hS b o hb
 have hS1w:∀ b o,S1 b=some o→w.heap[b]? = some o:=by
  intro b o hb
  have hb:(if v0.ownBlock=some b then none else w.heap[b]?)=some o:=hb
  split at hb
  ·simp at hb
  ·exact hb
 have hS1v:∀ b,v0.ownBlock=some b→S1 b=none:=by
  intro b hb
  show (if v0.ownBlock=some b then none else w.heap[b]?)=none
  rw[if_pos hb]
 obtain⟨l,hv0e,hl,hO⟩:=nq (μ:=aU (fun _=>none) 1 (some ⟨v0.ownBlock,0⟩)) (H:=q8 te e zs) (g:=0) (mN hfl hR:jS S1 e zs cs0) hS1v hown
 have hO':sB (aU (fun _=>none) 1 (some l)) S1 (q8 te e zs) w B l (.row te e 0 zs):=hO
 have R0:Rel (aU (fun _=>none) 1 (some l)) S1 (q8 te e zs) B w w:=by
  refine⟨Below.refl _ _,hB,hS1w,fun i=>?_,fun i ob hi=>?_,fun i j li lj b hij hi hj hb=>?_,ar.mono S S1 hS1 hG⟩
  ·by_cases e1:i=1
   ·subst e1;simp[q8,ax]
   ·unfold q8;rw[aA _ _ e1,aA _ _ e1];rfl
  ·by_cases e1:i=1
   ·subst e1
    unfold q8 at hi
    rw[ax] at hi
    cases hi
    exact⟨l,ax _ _ _,hO'⟩
   ·unfold q8 at hi;rw[aA _ _ e1] at hi;simp at hi
  ·by_cases e1:i=1
   ·subst e1
    rw[aA _ _ (Ne.symm hij)] at hj
    simp at hj
   ·rw[aA _ _ e1] at hi;simp at hi
 have hargs:aP (aU (fun _=>none) 1 (some l)) S1 (q8 te e zs) (.sl 1 0::bT ps x) (v0::vs).toArray.toList:=by
  have ha1:js S1 ps x vs:=vo hS1 ha
  simp only[aP]
  refine⟨v0,vs,by simp,?_,jM ha1⟩
  simp only[VR]
  refine⟨⟨_,_,_,hv0e⟩,l,ax _ _ _,fun t e' gc xs hH=>?_⟩
  unfold q8 at hH
  rw[ax] at hH
  injection hH with hH
  injection hH with q1 q2 q3 q4
  subst q1 q2 q3
  cases q4
  exact⟨Nat.le_refl _,fun _=>hv0e⟩
 have C0:Carry B (fun _=>none) S1 (fun _=>none) (aU (fun _=>none) 1 (some l)) S1 (q8 te e zs):=Carry.of (Ext.new rfl)
 refine Calls.mono (Uv (μo:=fun _=>none) (Ho:=fun _=>none) (od:=[]) hC he hnp (fun q hq=>?_) (fun i hi=>absurd rfl hi) C0 R0 hargs) ?_
 ·by_cases e1:q=1
  ·subst e1;simp
  ·unfold q8 at hq;rw[aA _ _ e1] at hq;simp at hq
 rintro ex w' ⟨u,μ',S',rfl,k1,R',hst,hsub⟩
 have hparts:∃ us,aP μ' S' H' (v.parts [gj.own te e].length) us∧us=[u]:=by
  refine⟨[u],?_,rfl⟩
  have one:aP μ' S' H' [v] [u]:=by simp only[aP];exact⟨u,[],rfl,k1,rfl⟩
  cases v<;>exact one
 obtain⟨us,hus,rfl⟩:=hparts
 obtain⟨os,q1,q2,q3,q4⟩:=r4 (S':=S') R' (fun b o h=>h) (fun i t e g xs l h=>by simp[qH,gj.sn] at h) (fun i o h=>by simp[qH,gj.sn] at h) hus hd
 obtain⟨v1,r1,o1,o2,e1,e2,d1,d2⟩:=q1
 obtain⟨rfl,rfl⟩:=d2
 cases e1
 unfold uM at d1
 simp only[gj.isAgg,Bool.false_eq_true,if_false] at d1
 obtain⟨l2,c1,c2⟩:=d1
 subst c2
 cases c1
 subst hf
 have hOK:=q3 ⟨l2,te,e,y'.1⟩ (by rw[e2];simp)
 have hOb:sB μ' S' H' w' B l2 (.row te e 0 y'.1):=hOK
 obtain⟨cs,g1,g2⟩:=zQ hOb
 have hblk:∀ b,l2.blk=some b→S' b=none:=by
  intro b hb
  rcases hOK.2 with h3|⟨b',cs',f1,_,f2,_⟩
  ·rw[h3.1] at hb;simp at hb
  ·rw[f1] at hb;cases hb;exact f2
 refine⟨_,cs,rfl,fun h=>by simp at h,mN hfl g1,g2,fun b hb=>?_,R'.below.os,R'.below.tape,R'.below.output,R'.below.size,fun b hb hne=>?_⟩
 ·rw[sE] at hb
  rcases Nat.lt_or_ge b w.heap.size with hlt|hge
  ·by_cases hq:v0.ownBlock=some b
   ·exact .inl hq
   ·exfalso
    have h1:S1 b=some w.heap[b]:=by
     show (if v0.ownBlock=some b then none else w.heap[b]?)=_
     rw[if_neg hq];simp[hlt]
    have h2:=hsub b _ h1
    rw[hblk b hb] at h2
    simp at h2
  ·exact .inr hge
 ·have h1:S1 b=some w.heap[b]:=by
   show (if v0.ownBlock=some b then none else w.heap[b]?)=_
   rw[if_neg (fun hq=>hne hq.symm)];simp[hb]
  rw[R'.st b _ (hsub b _ h1)]
  simp[hb]
def Nv (P:Program)(C:Cons)(Sm:oR)(lf n k:Nat)(te:TypeId)(e:Ty)(ps:List Ty)(zs:List e.T)(x:fG ps):Option (AA [.own te e]):=
 match P.funcs[k]? with
 | some fn=>match fn.body with
  | some c=>cond (Nat.ble (AV.sl 1 0::bT ps x).length fn.ntmps) (cq P C Sm (mF P C Sm lf n) n k lf 4294967296 [] (some k) false c ⟨fn.ntmps,cV (.sl 1 0::bT ps x),q8 te e zs,[1]⟩ fun e' σ=>match e' with
   | .dJ=>HL P fn.results.toList σ fun v H L=>iu [.own te e] (some (v,H,L))
   | .ret=>HL P fn.results.toList σ fun v H L=>iu [.own te e] (some (v,H,L))
   | _=>none) none
  | none=>none
 | none=>none
omit [ar] in
theorem U5 {Sm:oR}(hr:gf P C Sm lf){n k:Nat}{te:TypeId}{e:Ty}{ps:List Ty}{zs:List e.T}{x:fG ps}:Le (Nv P C Sm lf n k te e ps zs x) (WM P C (aV Sm) lf n k te e ps zs x):=by
 unfold Nv WM Hl
 cases hfn:P.funcs[k]? with
 | none=>exact Le.none _
 | some fn=>
  simp only
  cases hb:fn.body with
  | none=>exact Le.none _
  | some c=>
   simp only
   cases Nat.ble (AV.sl 1 0::bT ps x).length fn.ntmps with
   | false=>exact Le.none _
   | true=>
    simp only[cond_true]
    refine (bI hr (fun {R}=>iB hr n) hfn hb false c _ _ (fun x hx=>hx)).trans ?_
    cases aF P C (aV Sm) (bK P C (aV Sm) lf n) lf 4294967296 [] (some k) false c ⟨fn.ntmps,cV (.sl 1 0::bT ps x),q8 te e zs,[1]⟩ with
    | none=>exact Le.none _
    | some p=>
     obtain⟨e1,σ⟩:=p
     cases e1 with
     | dJ=>
      simp only[Option.bind_some,sj,HL]
      cases eF P σ fn.results.toList<;>exact Le.refl _
     | ret=>
      simp only[Option.bind_some,sj,HL]
      cases eF P σ fn.results.toList<;>exact Le.refl _
     | _=>exact Le.none _
theorem E3 {Sm:oR}(hC:bV P C)(hr:gf P C Sm lf){n k:Nat}{te:TypeId}{e:Ty}{ps:List Ty}{f:List e.T→fG ps→Option (List e.T×Unit)}(hfl:e.flat=true)
  (h:∀ zs x,Nv P C Sm lf n k te e ps zs x=f zs x):(⟨te,e,ps,false,fun zs x=>(f zs x).map (·.1)⟩:dA).OK P k:=
 H7 (Hn:=aV Sm) (lf:=lf) (n:=n) hC hfl fun zs x y hf=>U5 hr y (by rw[h zs x];exact hf)
end
abbrev aC:Nat:=18446744073709551616
def sI {α:Type}:List (Nat×α)→Nat→Option α
 | [],_=>none
 | p::l,k=>cond (Nat.beq k p.1) (some p.2) (sI l k)
def I1 [ar](P:Program):List (Nat×bA)→Prop
 | []=>True
 | p::l=>p.2.OK P p.1∧I1 P l
def U2 [ar](P:Program):List (Nat×dA)→Prop
 | []=>True
 | p::l=>p.2.OK P p.1∧U2 P l
theorem JW [ar]{P:Program}:∀ {l:List (Nat×bA)},I1 P l→∀ k c,sI l k=some c→c.OK P k
 | [],_,k,c,h=>by simp[sI] at h
 | p::l,ha,k,c,h=>by
  simp only[sI] at h
  cases hb:Nat.beq k p.1 with
  | true=>
   rw[hb] at h
   simp only[cond_true,Option.some.injEq] at h
   subst h
   rw[Nat.eq_of_beq_eq_true hb]
   exact ha.1
  | false=>rw[hb] at h;exact JW ha.2 k c h
theorem Ie [ar]{P:Program}:∀ {l:List (Nat×dA)},U2 P l→∀ k c,sI l k=some c→c.OK P k
 | [],_,k,c,h=>by simp[sI] at h
 | p::l,ha,k,c,h=>by
  simp only[sI] at h
  cases hb:Nat.beq k p.1 with
  | true=>
   rw[hb] at h
   simp only[cond_true,Option.some.injEq] at h
   subst h
   rw[Nat.eq_of_beq_eq_true hb]
   exact ha.1
  | false=>rw[hb] at h;exact Ie ha.2 k c h
def SB (l:List (Nat×bA))(u:List (Nat×dA)):Cons:=⟨sI l,sI u⟩
class RI [ar] (P:Program):Prop where
 ok:∀ k r,ar.jm k r=dR P k r
theorem ak [ar]{P:Program}[RI P]{l:List (Nat×bA)}{u:List (Nat×dA)}(h:I1 P l)(h':U2 P u):bV P (SB l u):=
 ⟨fun k c=>JW h k c,fun k c=>Ie h' k c,RI.ok⟩
def pS (P:Program)(k r:Nat):List Code:=match P.funcs[k]? with
 | some fn=>match fn.body with
  | some c=>(aK c).filter fun x=>match bS x with
   | some q=>Nat.beq q r
   | none=>false
  | none=>[]
 | none=>[]
def hdC (l:List Code):Code:=match l with
 | x::_=>x
 | []=>.skip
def tE:List (Nat×Nat×aL)→oR
 | [],_,_,_=>none
 | p::l,b,r,σ=>cond (Nat.beq b p.1&&Nat.beq r p.2.1&&p.2.2.Yl σ) (some p.2.2) (tE l b r σ)
def Round (P:Program)(C:Cons)(Sm:oR)(lf b r:Nat)(s:aL):Prop:=
 (pS P s.k r).length=1∧∀ z,cq P C Sm (mF P C Sm lf s.n) s.n s.k lf b s.od s.rf false (hdC (pS P s.k r)) (s.shape.Kr z) s.EN=s.step z
def abe (P:Program)(C:Cons)(Sm:oR)(lf:Nat):List (Nat×Nat×aL)→Prop
 | []=>True
 | p::l=>Round P C Sm lf p.1 p.2.1 p.2.2∧abe P C Sm lf l
theorem wz {P:Program}{C:Cons}{Sm:oR}{lf:Nat}:∀ {l:List (Nat×Nat×aL)},abe P C Sm lf l→∀ b r σ s,tE l b r σ=some s→Round P C Sm lf b r s
 | [],_,b,r,σ,s,h=>by simp[tE] at h
 | p::l,ha,b,r,σ,s,h=>by
  simp only[tE] at h
  cases hb:(Nat.beq b p.1&&Nat.beq r p.2.1&&p.2.2.Yl σ) with
  | true=>
   rw[hb] at h
   simp only[cond_true,Option.some.injEq] at h
   subst h
   simp only[Bool.and_eq_true] at hb
   rw[Nat.eq_of_beq_eq_true hb.1.1,Nat.eq_of_beq_eq_true hb.1.2]
   exact ha.1
  | false=>rw[hb] at h;exact wz ha.2 b r σ s h
theorem ai {P:Program}{C:Cons}{lf:Nat}{l:List (Nat×Nat×aL)}(h:abe P C (tE l) lf l):gf P C (tE l) lf:=by
 intro b r σ s hs fn c x hfn hc hx hr z
 obtain⟨h1,h2⟩:=wz h b r σ s hs
 have hmem:x∈pS P s.k r:=by
  unfold pS
  simp only[hfn,hc]
  exact List.mem_filter.2 ⟨hx,by simp only[hr,Nat.beq_refl]⟩
 have hd:hdC (pS P s.k r)=x:=by
  match ht:pS P s.k r,h1 with
  | [y],_=>rw[ht] at hmem;simp at hmem;rw[hmem];rfl
 have:=h2 z
 rw[hd] at this
 exact Le.of_eq this.symm
theorem bA.OK.of [ar]{P:Program}{k:Nat}{c:bA}(h:c.OK P k){g:fG c.ps→Option (AA c.rs)}(hg:∀ x y,g x=some y→c.f x=some y):(⟨c.ps,c.rs,g⟩:bA).OK P k:=
 fun x y hx=>h x y (hg x y hx)
def Wf:(t:Ty)→t.T→Prop
 | .int k,x=>(Lit.int k x).wf=true
 | .bool,_=>True
 | .str,x=>x.size≤maxLen
 | .row e,xs=>List.length xs≤maxLen∧∀ x∈xs,Wf e x
 | .pair a b,x=>Wf a x.1∧Wf b x.2
 | .one a,x=>Wf a x
 | .Bo _,_=>True
def EX:(ps:List Ty)→fG ps→Prop
 | [],_=>True
 | t::ts,x=>Wf t x.1∧EX ts x.2
section
variable {P:Program}{H:Type}{enc:TypeId×Value→H}
theorem BV (hl:laidOutB P=true){W W':World}(hb:Below W.heap.size W W'):∀ {ts:List TypeId} {vs:List Value} {ds:List (DataW H)} {ps:List MemPlace},
  (∀ t∈ts,P.readableRec t=true∧t<P.types.size)→DataW.TrodAll enc P W 0 (fun _=>true) true ts vs ds ps→(∀ x∈ps,x.block<W.heap.size)→∀ sp:Nat→Bool,(∀ x∈ps,sp x.block=true) →
  DataW.TrodAll enc P W' 0 sp true ts vs ds ps
 | [],[],[],ps,_,h,_,sp,_=>h
 | t::ts,v::vs,d::ds,ps,hr,h,hlt,sp,hsp=>by
  obtain⟨p,q,h1,h2,rfl⟩:=h
  refine⟨p,q,?_,BV hl hb (fun t ht=>hr t (by simp[ht])) h2 (fun x hx=>hlt x (by simp[hx])) sp (fun x hx=>hsp x (by simp[hx])),rfl⟩
  exact WideElems.Trod_stays hl (hr t (by simp)).1 (hr t (by simp)).2 h1 (fun x hx=>hb.same (hlt x (by simp[hx]))) (fun x hx=>hsp x (by simp[hx]))
 | [],[],_::_,_,_,h,_,_,_=>by cases h
 | [],_::_,_,_,_,h,_,_,_=>by cases h
 | _::_,[],_,_,_,h,_,_,_=>by cases h
 | _::_,_::_,[],_,_,h,_,_,_=>by cases h
def sizes (P:Program)(fs:List Field):Nat:=(fs.map fun f=>P.cellsOf f.type).sum
theorem IM {S:an}{n:Nat}{cs:List Value}:∀ (fs:List Field) (o:Nat),(∀ (j:Nat) f,fs[j]? = some f→f.offset=o+sizes P (fs.take j))→cs.length=o+sizes P fs →
  (∀ f∈fs,∀ ty,o9 P n f.type=some ty→∃ x,Rd S ty x ((cs.drop f.offset).take (P.cellsOf f.type))∧Wf ty x)→∀ ty,cR (fs.map fun f=>o9 P n f.type)=some ty→∃ x,Rd S ty x (cs.drop o)∧Wf ty x
 | [],o,ho,hl,hf,ty,h=>by simp[cR] at h
 | [f],o,ho,hl,hf,ty,h=>by
  simp only[List.map_cons,List.map_nil] at h
  cases ht:o9 P n f.type with
  | none=>rw[ht] at h;simp[cR] at h
  | some a=>
   rw[ht] at h
   simp only[cR,Option.some.injEq] at h
   subst h
   obtain⟨x,h1,h2⟩:=hf f (by simp) a ht
   have h0:f.offset=o:=by simpa [sizes] using ho 0 f rfl
   rw[h0,List.take_of_length_le (by simp[sizes] at hl;simp;omega)] at h1
   exact⟨x,h1,h2⟩
 | f::g::fs,o,ho,hl,hf,ty,h=>by
  simp only[List.map_cons] at h
  cases ht:o9 P n f.type with
  | none=>rw[ht] at h;simp[cR] at h
  | some a=>
   rw[ht] at h
   simp only[cR] at h
   split at h
   case h_2=>simp at h
   rename_i b hb
   cases h
   obtain⟨x,h1,h2⟩:=hf f (by simp) a ht
   have h0:f.offset=o:=by simpa [sizes] using ho 0 f rfl
   obtain⟨y,k1,k2⟩:=IM (S:=S) (cs:=cs) (g::fs) (o+P.cellsOf f.type) (fun j q hj=>by
    have:=ho (j+1) q (by simpa using hj)
    rw[this];simp[sizes];omega) (by simp[sizes] at hl ⊢;omega) (fun q hq=>hf q (by simp at hq ⊢;exact .inr hq)) b (by simpa using hb)
   refine⟨(x,y),⟨_,_,?_,h1,k1⟩,h2,k2⟩
   rw[h0,← List.drop_drop,List.take_append_drop]
theorem sN {α β:Type}{f:α→Option β}:∀ {l:List α} {r:List β},l.mapM f=some r→r.length=l.length∧∀ (i:Nat) (a:α),l[i]? = some a→∃ b,r[i]? = some b∧f a=some b
 | [],r,h=>by
  simp only[List.mapM_nil,Option.pure_def,Option.some.injEq] at h
  subst h
  exact⟨rfl,fun i a h=>by simp at h⟩
 | x::l,r,h=>by
  simp only[List.mapM_cons,Option.bind_eq_bind,Option.bind_eq_some_iff,Option.pure_def,Option.some.injEq] at h
  obtain⟨b,hb,r',hr',rfl⟩:=h
  obtain⟨h1,h2⟩:=sN hr'
  refine⟨by simp[h1],fun i a hi=>?_⟩
  cases i with
  | zero=>simp at hi;subst hi;exact⟨b,rfl,hb⟩
  | succ i=>exact h2 i a (by simpa using hi)
theorem PK {w:World}{base n:Nat}{a:Addr}{c:List Value}(h:w.cells? base a n=some c):c.length=n∧∀ (m:Nat) v,c[m]? = some v→cellS (p8 w) (a.add m)=some v:=by
 unfold World.cells? at h
 split at h
 ·obtain⟨h1,h2⟩:=sN h
  rw[List.length_range] at h1
  refine⟨h1,fun m v hm=>?_⟩
  have hlt:m<n:=by rw[← h1];exact (List.getElem?_eq_some_iff.1 hm).1
  obtain⟨b,k1,k2⟩:=h2 m m (by simp[hlt])
  rw[hm] at k1
  cases k1
  exact k2
 ·simp at h
theorem MI {β:Type}{R:Nat→β→Prop}:∀ (n:Nat),(∀ i,i<n→∃ b,R i b)→∃ l:List β,l.length=n∧∀ (i:Nat) b,l[i]? = some b→R i b
 | 0,_=>⟨[],rfl,fun i b h=>by simp at h⟩
 | n+1,h=>by
  obtain⟨l,h1,h2⟩:=MI n (fun i hi=>h i (by omega))
  obtain⟨b,hb⟩:=h n (Nat.lt_succ_self n)
  refine⟨l++[b],by simp[h1],fun i c hi=>?_⟩
  by_cases hin:i<l.length
  ·rw[List.getElem?_append_left hin] at hi;exact h2 i c hi
  ·rw[List.getElem?_append_right (by omega)] at hi
   have:i-l.length=0:=by
    rcases Nat.eq_zero_or_pos (i-l.length) with h|h
    ·exact h
    ·rw[List.getElem?_eq_none (by simp;omega)] at hi;simp at hi
   rw[this] at hi
   simp at hi
   subst hi
   rwa [show i=n by omega]
theorem CZ (hl:laidOutB P=true){w:World}{sp:Nat→Bool}{held:Bool}:∀ (n fuel:Nat) (t:TypeId) (cs:List Value) (d:DataW H) (ps:List MemPlace) (ty:Ty),t<P.types.size →
  DataW.trod enc P w 0 sp held fuel t cs=some (d,ps)→o9 P n t=some ty→∃ x:ty.T,Rd (p8 w) ty x cs∧Wf ty x
 | 0,fuel,t,cs,d,ps,ty,ht,h,hty=>by simp[o9] at hty
 | n+1,0,t,cs,d,ps,ty,ht,h,hty=>by simp[DataW.trod] at h
 | n+1,fuel+1,t,cs,d,ps,ty,ht,h,hty=>by
  simp only[o9] at hty
  split at hty
  ·rename_i k hu
   cases hty
   unfold DataW.trod at h
   rw[hu] at h
   split at h<;>simp only[reduceCtorEq,Option.some.injEq,TypeDesc.int.injEq] at *
   rename_i k' n' hk
   subst hk
   split at h
   ·rename_i hc
    obtain⟨rfl,hw⟩:=hc
    exact⟨n',rfl,hw⟩
   ·simp at h
  ·rename_i hu
   cases hty
   unfold DataW.trod at h
   rw[hu] at h
   split at h<;>simp only[reduceCtorEq,Option.some.injEq] at *
   rename_i b _
   exact⟨b,rfl,trivial⟩
  ·rename_i hu
   cases hty
   unfold DataW.trod at h
   rw[hu] at h
   split at h<;>simp only[reduceCtorEq,Option.some.injEq] at *
   rename_i s _
   split at h
   ·rename_i hc;exact⟨s,rfl,hc⟩
   ·simp at h
  ·rename_i e hu
   split at hty
   case h_2=>simp at hty
   rename_i a hte
   cases hty
   have he:=kid_slice hl ht hu
   unfold DataW.trod at h
   rw[hu] at h
   split at h<;>simp only[reduceCtorEq,Option.some.injEq,TypeDesc.slice.injEq] at *
   ·exact⟨[],⟨none,0,rfl,⟨Nat.le_refl _,fun _=>rfl⟩,fun j x hj=>by simp at hj⟩,by simp[Wf]⟩
   ·rename_i e' ad len cap hee
    cases hee
    split at h
    case isFalse=>simp at h
    rename_i hb
    obtain⟨_,hlc,hcm⟩:=hb
    rw[Option.bind_eq_some_iff] at h
    obtain⟨elems,hel,_⟩:=h
    obtain⟨g1,g2⟩:=sN hel
    rw[List.length_range] at g1
    have each:∀ i,i<len→∃ x:a.T,(∃ c,Rd (p8 w) a x c∧∀ m v,c[m]? = some v→cellS (p8 w) (ad.add (i * a.size+m))=some v)∧Wf a x:=by
     intro i hi
     obtain⟨b,k1,k2⟩:=g2 i i (by simp[hi])
     rw[Option.bind_eq_some_iff] at k2
     obtain⟨c,q1,q2⟩:=k2
     obtain⟨r1,r2⟩:=PK q1
     obtain⟨x,z1,z2⟩:=CZ hl n fuel e c b.1 b.2 a he q2 hte
     have size:P.cellsOf e=a.size:=by rw[← r1];exact cz _ _ _ z1
     refine⟨x,⟨c,z1,fun m v hm=>?_⟩,z2⟩
     have:=r2 m v hm
     rw[add_add,size] at this
     exact this
    obtain⟨xs,l1,l2⟩:=MI len each
    refine⟨xs,⟨some ad,cap,by rw[l1],⟨by omega,fun h=>by simp at h⟩,fun j x hj=>?_⟩,⟨by rw[l1];omega,fun x hx=>?_⟩⟩
    ·obtain⟨⟨c,m1,m2⟩,_⟩:=l2 j x hj
     exact⟨ad,c,rfl,m1,m2⟩
    ·obtain⟨j,hj⟩:=List.getElem?_of_mem hx
     exact (l2 j x hj).2
  ·rename_i fs hu
   obtain⟨s1,s2,s3⟩:=kid_struct hl ht hu
   unfold DataW.trod at h
   rw[hu] at h
   simp only at h
   split at h
   case isFalse=>simp at h
   rename_i hlen
   rw[Option.map_eq_some_iff] at h
   obtain⟨l,hm,_⟩:=h
   obtain⟨g1,g2⟩:=sN hm
   have each:∀ f∈fs.toList,∀ ty,o9 P n f.type=some ty→∃ x,Rd (p8 w) ty x ((cs.drop f.offset).take (P.cellsOf f.type))∧Wf ty x:=by
    intro f hf ty hty
    obtain⟨j,hj⟩:=List.getElem?_of_mem hf
    obtain⟨b,k1,k2⟩:=g2 j f hj
    exact CZ hl n fuel f.type _ b.1 b.2 ty (s1 f hf) k2 hty
   have chain:=IM (S:=p8 w) (cs:=cs) fs.toList 0 (fun j f hj=>by rw[s3 j f hj];simp[sizes]) (by rw[hlen,s2];simp[sizes]) each
   rw[List.drop_zero] at chain
   unfold x5 at hty
   split at hty
   ·rename_i a hfs
    cases hty
    have:∃ f,fs.toList=[f]:=by
     cases hfl:fs.toList with
     | nil=>rw[hfl] at hfs;simp at hfs
     | cons f r=>cases r with
      | nil=>exact⟨f,rfl⟩
      | cons g r=>rw[hfl] at hfs;simp at hfs
    obtain⟨x,h1,h2⟩:=chain a (by rw[hfs];simp[cR])
    exact⟨x,h1,h2⟩
   ·exact chain ty hty
  ·simp at hty
end
open Go Go.RowKit Go.WideShapes
def Vu:List TypeId→List Ty→Program→Prop
 | [],[],_=>True
 | t::ts,T::Ts,P=>o9 P 9 t=some T∧Vu ts Ts P
 | _,_,_=>False
section
variable {P:Program}{H:Type}{enc:TypeId×Value→H}
theorem Lo:∀ {l:List (Option Ty)} {ty:Ty},x5 l=some ty→ty.isAgg=true:=by
 intro l ty h
 unfold x5 at h
 split at h
 ·cases h;rfl
 ·rename_i hne
  match l,h,hne with
  | [],h,_=>simp[cR] at h
  | [none],h,_=>simp[cR] at h
  | [some a],h,hne=>exact absurd rfl (hne a)
  | none::_::_,h,_=>simp[cR] at h
  | some a::b::r,h,_=>
   simp only[cR] at h
   split at h
   ·cases h;rfl
   ·simp at h
theorem LY {W:World}{base n:Nat}{t:TypeId}{ty:Ty}{v:Value}(h:o9 P n t=some ty)(hv:Value.okWide P W .any base t v) :
  (ty.isAgg=true→∃ cs,v = .agg cs)∧(ty.isAgg=false→v.cells.toList=[v]):=by
 cases n with
 | zero=>simp[o9] at h
 | succ n=>
  simp only[o9] at h
  split at h
  ·rename_i k hu
   cases h
   obtain⟨n,rfl⟩:=okWide_int hu hv
   exact⟨fun h=>by simp[Ty.isAgg] at h,fun _=>rfl⟩
  ·rename_i hu
   cases h
   obtain⟨n,rfl⟩:=okWide_bool hu hv
   exact⟨fun h=>by simp[Ty.isAgg] at h,fun _=>rfl⟩
  ·rename_i hu
   cases h
   obtain⟨n,rfl⟩:=okWide_string hu hv
   exact⟨fun h=>by simp[Ty.isAgg] at h,fun _=>rfl⟩
  ·rename_i e hu
   split at h
   ·cases h
    obtain⟨a,l,c,rfl⟩:=okWide_slice hu hv
    exact⟨fun h=>by simp[Ty.isAgg] at h,fun _=>rfl⟩
   ·simp at h
  ·rename_i fs hu
   obtain⟨cs,rfl,_⟩:=okWide_struct hu hv
   exact⟨fun _=>⟨cs,rfl⟩,fun h0=>by rw[Lo h] at h0;simp at h0⟩
  ·simp at h
theorem MF (hl:laidOutB P=true){W:World}{base:Nat}:∀ {ts:List TypeId} {Ts:List Ty} {vs:List Value} {ds:List (DataW H)} {ps:List MemPlace},
  DataW.TrodAll enc P W 0 (fun _=>true) true ts vs ds ps→(∀ (j:Nat) t v,ts[j]? = some t→vs[j]? = some v→Value.okWide P W .any base t v) →
  (∀ t∈ts,t<P.types.size)→Vu ts Ts P→∃ x:fG Ts,js (p8 W) Ts x vs∧EX Ts x
 | [],[],[],[],ps,h,_,_,_=>⟨(),rfl,trivial⟩
 | t::ts,T::Ts,v::vs,d::ds,ps,h,hv,ht,hd=>by
  obtain⟨p,q,⟨fuel,h1⟩,h2,rfl⟩:=h
  obtain⟨y,k1,k2⟩:=MF hl h2 (fun j t v=>hv (j+1) t v) (fun t h=>ht t (by simp[h])) hd.2
  obtain⟨x,m1,m2⟩:=CZ hl 9 fuel t _ d p T (ht t (by simp)) h1 hd.1
  obtain⟨s1,s2⟩:=LY hd.1 (hv 0 t v rfl rfl)
  refine⟨(x,y),⟨v,vs,rfl,?_,k1⟩,m2,k2⟩
  unfold Vp
  cases ha:T.isAgg with
  | true=>
   obtain⟨cs,rfl⟩:=s1 ha
   exact⟨cs,rfl,m1⟩
  | false=>
   rw[s2 ha] at m1
   exact m1
 | [],[],_::_,_,_,h,_,_,_=>by cases h
 | [],[],[],_::_,_,h,_,_,_=>by cases h
 | _::_,_::_,[],_,_,h,_,_,_=>by cases h
 | _::_,_::_,_::_,[],_,h,_,_,_=>by cases h
 | [],_::_,_,_,_,_,_,_,hd=>by cases hd
 | _::_,[],_,_,_,_,_,_,hd=>by cases hd
theorem rQ {W:World}{sp:Nat→Bool}{held:Bool}:∀ {ts:List TypeId} {vs:List Value} {ds:List (DataW H)} {ps:List MemPlace},
  DataW.TrodAll enc P W 0 sp held ts vs ds ps→∀ x∈ps,x.block<W.heap.size
 | [],[],[],ps,h,x,hx=>by cases h;simp at hx
 | t::ts,v::vs,d::ds,ps,h,x,hx=>by
  obtain⟨p,q,⟨m,hm⟩,h2,rfl⟩:=h
  rcases List.mem_append.1 hx with hx|hx
  ·exact DataW.trod_lt m _ _ _ hm x hx
  ·exact rQ h2 x hx
 | [],[],_::_,_,h,_,_=>by cases h
 | [],_::_,_,_,h,_,_=>by cases h
 | _::_,[],_,_,h,_,_=>by cases h
 | _::_,_::_,[],_,h,_,_=>by cases h
theorem P7 [ar]{k:FuncId}{Ts:List Ty}{f:fG Ts→Option (AA [.val .bool])}{W:World}{base:Nat}{ts:List TypeId}{args:Array Value}{ds:List (DataW H)}{ps:List MemPlace}
  (hl:laidOutB P=true) (hc:(bA.mk Ts [.val .bool] f).OK P k) (hg:ar.pre (p8 W))
  (h:DataW.TrodAll enc P W 0 (fun _=>true) true ts args.toList ds ps) (hv:∀ (j:Nat) t v,ts[j]? = some t→args.toList[j]? = some v→Value.okWide P W .any base t v)
  (ht:∀ t∈ts,P.readableRec t=true∧t<P.types.size) (hd:Vu ts Ts P) (hp:∀ x:fG Ts,EX Ts x→f x=some (true,())) :
  Calls P k args W fun e W'=>e = .returned (.bool true)∧Below W.heap.size W W'∧DataW.TrodAll enc P W' 0 (fun b=>decide (b<W.heap.size)) true ts args.toList ds ps:=by
 obtain⟨x,h1,h2⟩:=MF hl h hv (fun t h=>(ht t h).2) hd
 have:=hc x (true,()) (hp x h2) (p8 W) W args.toList (fun b o h=>h) hg h1
 rw[Array.toArray_toList] at this
 refine this.mono ?_
 rintro e W' ⟨us,S',os,rfl,hb,_,_,_,hres,_⟩
 obtain⟨v,r,o,p,rfl,_,hv',hr'⟩:=hres
 obtain⟨rfl,_⟩:=hr'
 refine⟨?_,hb,BV hl hb ht h (rQ h) _ (fun x hx=>decide_eq_true (rQ h x hx))⟩
 unfold uM at hv'
 simp only[gj.isAgg,Ty.isAgg,Bool.false_eq_true,if_false,Qv,Rd] at hv'
 obtain⟨h,_⟩:=hv'
 cases h
 rfl
end
open Go Go.RowKit Go.WideShapes Go.ChangeShapes
theorem II {H:Type}{enc:TypeId×Value→H}{P:Program}{W:World}{b:Nat}{sp:Nat→Bool}{held:Bool}:∀ {ts:List TypeId} {vs:List Value} {ds:List (DataW H)} {ps:List MemPlace},
  DataW.TrodAll enc P W b sp held ts vs ds ps→ds.length=ts.length
 | [],[],[],_,_=>rfl
 | _::ts,_::vs,_::ds,_,h=>by obtain⟨p,q,_,h2,_⟩:=h;simp[II h2]
 | [],[],_::_,_,h=>by cases h
 | [],_::_,_,_,h=>by cases h
 | _::_,[],_,_,h=>by cases h
 | _::_,_::_,[],_,h=>by cases h
theorem K3 [ar]{H:Type}{enc:TypeId×Value→H}{C:Checked}{os:Os}{k:FuncId}{fn:Func}{s:ChangeSpec}{X:World→Array Value→Prop}{Ts:List Ty}{F:fG Ts→Option (AA [.val .bool])}{ts:List TypeId}{tb:TypeId}
  (hX:∀ (w w':World) (args:Array Value),w.heap=w'.heap→X w args→X w' args)
  (own:ownKnob C.prog.godebug=none) (started:os.Started) (noInit:C.prog.inits.idxOf? k=none) (hfn:C.prog.funcs[k]? = some fn)
  (witness:∃ (w:World) (tape:Tape) (i:Input),w.os=os∧(w.forCall tape i).Shaped C.prog∧i.vars=[]∧Input.okWide C.prog (w.forCall tape i) .any w.heap.size k i ∧
   ((s.pre enc C.prog fn [] false (w.forCall tape i).memory i.args∧X (w.forCall tape i).memory i.args)∧sizedMet enc C.prog fn (OpenSpec.ofChange s) false (w.forCall tape i).memory i.args)∧({}:Assume).holds C.prog (lone (Frame.enter C.prog k i.args .normal) [] (w.forCall tape i)))
  (hg:∀ (W:World) (args:Array Value),W.ShapedOpen C.prog→X W args→ar.pre (p8 W))
  (hl:laidOutB C.prog=true) (hc:(bA.mk Ts [.val .bool] F).OK C.prog k)
  (hps:fn.params=ts.toArray) (hrs:fn.resultTypes = #[tb]) (hb:C.prog.underlying tb=some .bool)
  (ht:∀ t∈ts,C.prog.readableRec t=true∧t<C.prog.types.size) (hd:Vu ts Ts C.prog)
  (hv:s.vars=[]) (hs:∀ ds:List (DataW H),ds.length=ts.length→s.fn H ds={ results:=[.lit (.bool true)],args:=ds })
  (hp:∀ x:fG Ts,EX Ts x→F x=some (true,())) :
  ReturnsInHanded {} C os k .any (fun w args=>(s.pre enc C.prog fn [] false w args∧X w args)∧sizedMet enc C.prog fn (OpenSpec.ofChange s) false w args) (s.post enc C.prog fn false true false false):=by
 refine returnsInHanded_of_calls own started noInit witness ?_
 intro w tape i _ hsh _ hok hpre hholds
 obtain⟨_,_,_,fn',hfn',_,_,_,_,hval⟩:=hok
 have e:fn'=fn:=Option.some.inj (hfn'.symm.trans hfn)
 subst e
 obtain⟨⟨⟨ds,gs,before,hw,_⟩,hx⟩,_⟩:=hpre
 have hw':=DataW.Whole.of_heap (w':=w.forCall tape i) (by rfl) hw
 have hW:=hw'
 obtain⟨p,q,hA,hV,rfl,_,_⟩:=hw'
 rw[hv] at hV
 obtain⟨rfl,rfl⟩:=trodVars_none hV
 have hpl:fn'.params.toList=ts:=by rw[hps]
 rw[hpl] at hA
 have hlen:=II hA
 refine (P7 (enc:=enc) hl hc (hg _ i.args hsh (hX _ _ _ (by rfl) hx)) hA (fun j t v h1 h2=>hval j t v (by rw[hps];simpa using h1) (by simpa using h2)) ht hd hp).mono ?_
 rintro e W' ⟨rfl,bel,back⟩
 refine ChangeSpec.post_blind ?_
 refine⟨ds,[],_,[],p,[],hW,?_,?_,?_,bel.frame _,fun h=>by cases h⟩
 ·rw[List.append_nil,hs ds hlen,hrs];exact trodAll_mk1 (shut_bool hb true)
 ·rw[List.append_nil,hs ds hlen,hpl];exact back
 ·rw[List.append_nil,hs ds hlen,hv];rfl
def Qb {R:Type}(P:Program)(C:Cons)(Sm:oR)(lf n base:Nat)(kd:Nat)(args:List AV)(v:AV)(H:Heap)(L:List Nat)(K:Heap→List Nat→Option R):Option R:=
 match P.funcs[kd]? with
 | some fd=>match fd.body with
  | some (.seq (.region idr ops false) b)=>match ops.toList,fd.results.toList with
   | [⟨some t,.call ⟨.builtin .recover,as,_⟩,_,_,_,none⟩,⟨some t',.assign (.tmp t''),_,_,_,none⟩],[]=>
    cond (Nat.beq as.size 0&&Nat.beq t'' t&&mG t fd.ntmps&&mG t' fd.ntmps&&Nat.ble args.length fd.ntmps&&gW P kd)
     (cq P C Sm (mF P C Sm lf n) n kd lf (Nat.succ base * 4294967296) L none false b ⟨fd.ntmps,aU (aU (cV args) t v) t' v,H,L⟩ fun e σ=>match e with
      | .dJ=>K σ.heap σ.ids
      | .ret=>K σ.heap σ.ids
      | _=>none) none
   | _,_=>none
  | _=>none
 | none=>none
def zu (P:Program)(fn:Func)(rs:List gj)(σ:St)(H:Heap)(L:List Nat):Option (AA rs):=
 match eF P ⟨σ.nt,σ.tmps,H,L⟩ fn.results.toList with
 | some vs=>iu rs (some (gU vs,H,L))
 | none=>none
def kDo (P:Program)(C:Cons)(Sm:oR)(lf n k:Nat)(ps:List Ty)(rs:List gj)(x:fG ps):Option (AA rs):=
 match P.funcs[k]? with
 | some fn=>match fn.body with
  | some (.seq a (.seq b (.seq (.region id ops false) d)))=>match ops.toList with
   | [o1,⟨none,.defer ⟨.value (.tmp t),as,_⟩,_,_,_,none⟩]=>
    cond (Nat.ble (bT ps x).length fn.ntmps&&Nat.beq as.size 0)
     (cq P C Sm (mF P C Sm lf n) n k lf 4294967296 [] none false a ⟨fn.ntmps,cV (bT ps x),fun _=>none,[]⟩ fun e σ1=>match e with
      | .dJ=>cq P C Sm (mF P C Sm lf n) n k lf 4294967296 [] none false b σ1 fun e σ2=>match e with
       | .dJ=>Wy P C (fun _ _ _ _ _ _=>none) ops (fun H=>H) (jx 4294967296 id) 0 σ2 (fun _ _ _=>none) fun σ3 L3=>match σ3.val (.tmp t) with
        | .fn (.func kd) first caps=>cq P C Sm (mF P C Sm lf n) n k lf 4294967296 (σ3.ay L3).ids none false d (σ3.ay L3) fun e σ4=>match e with
         | .dJ=>Qb P C Sm lf n (jx 4294967296 id+16) kd (first++caps) (.lit .nilIface) σ4.heap σ4.ids (zu P fn rs σ4)
         | .ret=>Qb P C Sm lf n (jx 4294967296 id+16) kd (first++caps) (.lit .nilIface) σ4.heap σ4.ids (zu P fn rs σ4)
         | .gh v=>Qb P C Sm lf n (jx 4294967296 id+16) kd (first++caps) v σ4.heap σ4.ids (zu P fn rs σ4)
         | _=>none
        | _=>none
       | _=>none
      | _=>none) none
   | _=>none
  | _=>none
 | none=>none
section
variable [ar]{P:Program}{C:Cons}{Sm:oR}{lf:Nat}{w w0:World}{μ:Mu}{S:an}{H:Heap}{B:Nat}
omit [ar] in
theorem j0 {α β:Type}{a:Option α}{f:α→Option β}{y:β}(h:a.bind f=some y):∃ x,a=some x∧f x=some y:=by
 cases a with
 | none=>simp at h
 | some x=>exact⟨x,rfl,h⟩
omit [ar] in
theorem T7 {a b:Nat}(h:a<b):mG a b=true:=Nat.ble_eq_true_of_le h
def zZ (v:Option Value):FrameMode:=
 match v with
 | none=>.returning
 | some u=>.panicking (Fi u)
def mZ (v:Option Value):Value:=v.getD .nilIface
omit [ar] in
theorem IC {ρ:Operand→Value}{t:Option Tmp}{as:Array Operand}{ts:Array TypeId}{ty:TypeId}{pos:String}{af:Array Edge}{g:Option (Nat×Bool)}(h:as.size=0) :
  (execOp ρ ⟨t,.call ⟨.builtin .recover,as,ts⟩,ty,pos,af,g⟩).run P w = .ok .recover w:=by
 have:as = #[]:=by simpa using h
 subst this
 simp[execOp,resolve,invoke,builtin]
theorem X7 {R:Type}(hC:bV P C)(hr:gf P C Sm lf){n base kd:Nat}{args:List AV}{v:AV}{L:List Nat}{K:Heap→List Nat→Option R}{y:R}
  (h:Qb P C Sm lf n base kd args v H L K=some y) (hBd:∀ q,H q≠none→q∈L) {us:Array Value} (R0:Rel μ S H B w0 w) (hv:aP μ S H args us.toList) {q:Option Value} (hq:VR μ S H v (mZ q)) :
  gW P kd=true∧∃ H' L',K H' L'=some y∧CallsDIn (WF none) 0 P kd us (zZ q) w fun e u' w'=>(∃ v,e = .returned v)∧settle u' = .returning∧∃ μ' S',Rel μ' S' H' B w0 w'∧Carry B μ S H μ' S' H':=by
 unfold Qb at h
 split at h
 case h_2=>simp at h
 rename_i fd hfd
 split at h
 case h_2=>simp at h
 rename_i idr ops b hb
 split at h
 case h_2=>simp at h
 rename_i t as ts ty pos af t' t'' ty' pos' af' hops hres
 obtain⟨hc,h⟩:=aD h
 simp only[Bool.and_eq_true] at hc
 obtain⟨⟨⟨⟨⟨c1,c2⟩,c3⟩,c4⟩,c5⟩,c6⟩:=hc
 have c1:=Nat.eq_of_beq_eq_true c1
 have c2:=Nat.eq_of_beq_eq_true c2
 have c3:=cG c3
 have c4:=cG c4
 have c5:=Nat.le_of_ble_eq_true c5
 subst c2
 have hlen:=aT hv
 simp only[Array.length_toList] at hlen
 have h1:=bI hr (fun {R}=>iB hr n) hfd hb false b _ _ (fun z hz=>by simp[aK,hz]) _ h
 obtain⟨⟨e,σ⟩,he,h2⟩:=j0 h1
 refine⟨c6,σ.heap,σ.ids,by cases e<;>first|exact h2|simp at h2,?_⟩
 have hne:e = .dJ∨e = .ret:=by cases e<;>first|exact .inl rfl|exact .inr rfl|simp at h2
 refine callsDIn_of_wpSIn hfd hb trivial fun c₀ cs hm=>?_
 refine wpSIn_seq (wpSIn_region ?_)
 have hsz:ops.size=2:=by rw[← Array.length_toList,hops];rfl
 have ho0:ops[0]? = some ⟨some t'',.call ⟨.builtin .recover,as,ts⟩,ty,pos,af,none⟩:=by rw[← Array.getElem?_toList,hops];rfl
 have ho1:ops[1]? = some ⟨some t',.assign (.tmp t''),ty',pos',af',none⟩:=by rw[← Array.getElem?_toList,hops];rfl
 rw[hsz]
 show wpOpsSIn (WF none) 0 P ops _ [0,1] _ _ _
 let a0:Act:={ tmps:=us++Array.replicate (fd.ntmps-us.size) undef,defers:=[] }
 let a1:Act:=a0.put (some t'') (mZ q)
 let a2:Act:=a1.put (some t') (mZ q)
 have hs0:a0.tmps.size=fd.ntmps:=by simp[a0];omega
 have heval:a1.eval (.tmp t'')=mZ q:=by
  simp only[a1,Act.eval,Act.put]
  have:t''<a0.tmps.size:=by rw[hs0];exact c3
  simp[Array.getD_eq_getD_getElem?,this]
 have A0:AR S (true,[]) μ S ⟨fd.ntmps,cV args,H,L⟩ a0:=by
  refine⟨⟨[],rfl,⟨List.nodup_nil,by simp⟩,fun _=>rfl⟩,hs0,fun t ht=>?_⟩
  have:=kz hv t
  rw[List.getD_eq_getElem?_getD] at this
  rw[Array.getD_eq_getD_getElem?]
  simp only[a0]
  by_cases hlt:t<us.size
  ·rw[Array.getElem?_append_left hlt];simpa using this
  ·rw[Array.getElem?_append_right (by omega),Array.getElem?_replicate]
   have e1:us.toList[t]? = none:=by rw[List.getElem?_eq_none];simp;omega
   rw[e1] at this
   have:t-us.size<fd.ntmps-us.size:=by simp only at ht;omega
   rw[if_pos this];assumption
 have A1:=(A0.put (Carry.refl (B:=B)) hq (dst:=some t'') (σ':=⟨fd.ntmps,aU (cV args) t'' v,H,L⟩) (H':=H) (L':=L) (by simp only[St.put,T7 c3,cond_true])).1
 have A2:=(A1.put (Carry.refl (B:=B)) hq (dst:=some t') (σ':=⟨fd.ntmps,aU (aU (cV args) t'' v) t' v,H,L⟩) (H':=H) (L':=L) (by simp only[St.put,T7 c4,cond_true])).1
 have rest:∀ (u':FrameMode),settle u' = .returning→b.wpSIn (WF none) 0 P (bodyPostS P fd c₀ cs fun e u' w'=>(∃ v,e = .returned v)∧settle u' = .returning∧∃ μ' S',Rel μ' S' σ.heap B w0 w'∧Carry B μ S H μ' S' σ.heap) a2 ({ c₀ with mode:=u' }::cs) w:=by
  intro u' hu
  refine wpSIn_of_wpIn rfl ?_
  refine aH (Dt:=(true,[])) (μo:=μ) (So:=S) (Ho:=H) (fun h=>absurd rfl h) hC (iZ hC n) (R0.ids hBd) b .none _ e σ a2 w μ S _ he hBd A2 R0 Carry.refl fun a' w' μ' S' xe A' R' C' hx=>?_
  obtain⟨ms,hms,_,hnil⟩:=A'.defers
  have hms':=hnil rfl
  subst hms'
  have hd:a'.defers=[]:=by rw[hms];rfl
  have hrs:∃ v,(results fd a'.tmps).run P w' = .ok v w':=⟨.tuple #[],by
   have:fd.results = #[]:=by apply Array.ext';simpa using hres
   simp[results,this]⟩
  obtain⟨vr,hvr⟩:=hrs
  rcases hne with rfl|rfl
  ·cases (show xe = .normal from hx)
   exact⟨hd,u',rfl,vr,hvr,⟨vr,rfl⟩,hu,μ',S',R',C'⟩
  ·cases (show xe = .ret from hx)
   exact⟨hd,u',rfl,vr,hvr,⟨vr,rfl⟩,hu,μ',S',R',C'⟩
 have hw0:Region.wanted (⟨some t'',.call ⟨.builtin .recover,as,ts⟩,ty,pos,af,none⟩:Oper) (yielded ops a0.tmps)=true:=rfl
 have hw1:∀ tm,Region.wanted (⟨some t',.assign (.tmp t''),ty',pos',af',none⟩:Oper) (yielded ops tm)=true:=fun _=>rfl
 unfold wpOpsSIn
 rw[ho0]
 simp only
 refine⟨fun _ _=>trivial,?_⟩
 rw[if_pos hw0,IC c1]
 simp only
 have second:∀ cs',(∃ u',cs'={ c₀ with mode:=u' }::cs∧settle u' = .returning) →
   wpOpsSIn (WF none) 0 P ops (Exit.thenS (b.wpSIn (WF none) 0 P (bodyPostS P fd c₀ cs fun e u' w'=>(∃ v,e = .returned v)∧settle u' = .returning∧∃ μ' S',Rel μ' S' σ.heap B w0 w'∧Carry B μ S H μ' S' σ.heap))
    (bodyPostS P fd c₀ cs fun e u' w'=>(∃ v,e = .returned v)∧settle u' = .returning∧∃ μ' S',Rel μ' S' σ.heap B w0 w'∧Carry B μ S H μ' S' σ.heap)) [1] a1 cs' w:=by
  rintro cs' ⟨u',rfl,hu⟩
  unfold wpOpsSIn
  rw[ho1]
  simp only
  refine⟨fun _ _=>trivial,?_⟩
  rw[if_pos (hw1 _)]
  have hx:(execOp a1.eval (⟨some t',.assign (.tmp t''),ty',pos',af',none⟩:Oper)).run P w = .ok (.value (mZ q)) w:=by
   simp only[execOp,heval]
   rfl
  rw[hx]
  simp only
  unfold wpOpsSIn
  exact rest u' hu
 cases q with
 | none=>
  have:recoverD (c₀::cs)=none:=by
   simp only[recoverD,hm,zZ]
  rw[this]
  exact second _ ⟨.returning,by rw[show FrameMode.returning=c₀.mode from hm.symm],rfl⟩
 | some u=>
  have:recoverD (c₀::cs)=some (u,{ c₀ with mode:=.panicking [{ v:=u,recovered:=true }] }::cs):=by
   simp only[recoverD,hm,zZ]
  rw[this]
  exact second _ ⟨_,rfl,rfl⟩
theorem Pw (hC:bV P C)(hr:gf P C Sm lf){n k:Nat}{c:bA}(h:∀ x,kDo P C Sm lf n k c.ps c.rs x=c.f x):c.OK P k:=by
 intro x y hf S w vs hst hpre ha
 have ht:=h x
 rw[hf] at ht
 clear h hf
 unfold kDo at ht
 split at ht
 case h_2=>simp at ht
 rename_i fn hfn
 split at ht
 case h_2=>simp at ht
 rename_i a b id ops d hbd
 split at ht
 case h_2=>simp at ht
 rename_i o1 t as ts ty pos af hops
 obtain⟨hc,ht0⟩:=aD ht
 clear ht
 simp only[Bool.and_eq_true] at hc
 have hle:=Nat.le_of_ble_eq_true hc.1
 have has:=Nat.eq_of_beq_eq_true hc.2
 have has:as = #[]:=by simpa using has
 subst has
 have hv:aP (fun _=>none) S (fun _=>none) (bT c.ps x) vs.toArray.toList:=by simpa using jM ha
 have hlen:=aT hv
 simp only[List.size_toArray] at hlen
 have hl:∀ z,z∈aK a∨z∈aK b∨z∈aK d→z∈aK (.seq a (.seq b (.seq (.region id ops false) d))):=by
  intro z hz
  simp only[aK,List.mem_append]
  rcases hz with h|h|h
  ·exact .inr (.inl h)
  ·exact .inr (.inr (.inr (.inl h)))
  ·exact .inr (.inr (.inr (.inr (.inr (.inr h)))))
 have h1:=bI hr (fun {R}=>iB hr n) hfn hbd false a _ _ (fun z hz=>hl z (.inl hz)) _ ht0
 obtain⟨⟨e1,σ1⟩,he1,ht⟩:=j0 h1
 clear h1
 cases e1<;>simp only[reduceCtorEq] at ht
 have h1:=bI hr (fun {R}=>iB hr n) hfn hbd false b _ _ (fun z hz=>hl z (.inr (.inl hz))) _ ht
 obtain⟨⟨e2,σ2⟩,he2,ht⟩:=j0 h1
 clear h1
 cases e2<;>simp only[reduceCtorEq] at ht
 have h1:=rK (P:=P) (C:=C) (F:=dX) (fun _ _ _ _ _ _=>Le.none _) _ _ _ _ _ _ _ _ ht
 unfold LZ at h1
 split at h1
 ·simp at h1
 obtain⟨σ3,he3,ht⟩:=j0 h1
 clear h1
 simp only at ht
 split at ht
 case h_2=>simp at ht
 rename_i kd first caps hval
 have h1:=bI hr (fun {R}=>iB hr n) hfn hbd false d _ _ (fun z hz=>hl z (.inr (.inr hz))) _ ht
 obtain⟨⟨e4,σ4⟩,he4,ht⟩:=j0 h1
 clear h1
 have ih:=iZ (lf:=lf) (Hn:=aV Sm) hC n
 have R0:Rel (fun _=>none) S (fun _=>none) w.heap.size w w:=⟨Below.refl _ _,Nat.le_refl _,hst,fun _=>rfl,fun _ _ h=>by simp at h,fun _ _ _ _ _ _ h=>by simp at h,hpre⟩
 have A0:AR S (true,[]) (fun _=>none) S ⟨fn.ntmps,cV (bT c.ps x),fun _=>none,[]⟩ { tmps:=vs.toArray++Array.replicate (fn.ntmps-vs.toArray.size) undef,defers:=[] }:=by
  refine⟨⟨[],rfl,⟨List.nodup_nil,by simp⟩,fun _=>rfl⟩,by simp;omega,fun t ht=>?_⟩
  have:=kz hv t
  rw[List.getD_eq_getElem?_getD] at this
  rw[Array.getD_eq_getD_getElem?]
  by_cases hlt:t<vs.toArray.size
  ·rw[Array.getElem?_append_left hlt];simpa using this
  ·rw[Array.getElem?_append_right (by omega),Array.getElem?_replicate]
   have e1:vs.toArray.toList[t]? = none:=by rw[List.getElem?_eq_none];simp at hlt ⊢;omega
   rw[e1] at this
   have:t-vs.toArray.size<fn.ntmps-vs.toArray.size:=by (have ht:t<fn.ntmps:=ht);simp only[List.size_toArray] at hlt ⊢;omega
   rw[if_pos this];assumption
 have hB0:Bd ⟨fn.ntmps,cV (bT c.ps x),fun _=>none,[]⟩:=fun q h=>absurd rfl h
 have hB1:=aJ ih false a _ _ _ he1 hB0
 have hB2:=aJ ih false b _ _ _ he2 hB1
 have hN:dl P dX:=fun id k as H L v H' L' h=>by simp[dX] at h
 have hB3:=lH hN (fun H i o h=>h) he3 hB2
 have hB4:=aJ ih false d _ _ _ he4 hB3
 refine (gw (r:=none) (n:=0)).1 (callsIn_of_wp_marks hfn hbd trivial ?_ rfl)
 refine wpIn_seq (aH (Dt:=(true,[])) (μo:=fun _=>none) (So:=S) (Ho:=fun _=>none) (fun h=>absurd rfl h) hC ih (fun i h=>absurd rfl h) a .none _ _ σ1 _ w (fun _=>none) S _ he1 hB0 A0 R0 Carry.refl fun a1 w1 μ1 S1 xe A1 R1 C1 hx=>?_)
 cases (show xe = .normal from hx)
 refine wpIn_seq (aH (Dt:=(true,[])) (μo:=fun _=>none) (So:=S) (Ho:=fun _=>none) (fun h=>absurd rfl h) hC ih (fun i h=>absurd rfl h) b .none _ _ σ2 _ w1 μ1 S1 _ he2 hB1 A1 R1 C1 fun a2 w2 μ2 S2 xe A2 R2 C2 hx=>?_)
 cases (show xe = .normal from hx)
 refine wpIn_seq (wpIn_region ?_)
 have hsz:ops.size=2:=by rw[← Array.length_toList,hops];rfl
 have ho1:ops[1]? = some ⟨none,.defer ⟨.value (.tmp t),#[],ts⟩,ty,pos,af,none⟩:=by rw[← Array.getElem?_toList,hops];rfl
 rw[hsz]
 show wpOpsIn (WF none) 0 P ops _ [0,1] a2 w2
 rw[wpOpsIn_cons]
 refine gE hC hN (fun H i o h=>h) he3 (.inl hB2) A2 R2 fun a3 w3 μ3 S3 A3 R3 C3=>?_
 rw[wpOpsIn_cons]
 unfold wpOpIn
 rw[ho1]
 have hval':=A3.val (.tmp t)
 rw[hval] at hval'
 simp only[VR] at hval'
 obtain⟨fx,fy,hfe,hv1,hv2⟩:=hval'
 simp only[show Region.wanted (⟨none,.defer ⟨.value (.tmp t),#[],ts⟩,ty,pos,af,none⟩:Oper) (yielded ops a3.tmps)=true from rfl,if_true]
 unfold Oper.wpIn
 refine⟨fun _ _=>trivial,?_⟩
 have hsem:(Oper.semAt (WF none).round a3.eval ⟨none,.defer ⟨.value (.tmp t),#[],ts⟩,ty,pos,af,none⟩).run P w3 = .ok (.defer ⟨.fn (.func kd) fy,fx⟩) w3:=by
  show (execOp a3.eval ⟨none,.defer ⟨.value (.tmp t),#[],ts⟩,ty,pos,af,none⟩).run P w3=_
  simp only[execOp,resolve,hfe,Deferred.ofValue,Sem.run_bind,Sem.run_pure,Result.andThen_ok]
  simp
 rw[hsem,Oper.uponIn_defer]
 have hd3:a3.defers=[]:=by
  obtain⟨ms,hms,_,hnil⟩:=A3.defers
  have:=hnil rfl
  subst this
  rw[hms];rfl
 let dd:Deferred:=⟨.fn (.func kd) fy,fx⟩
 let a4:Act:={ a3 with defers:=dd::a3.defers }
 have A4:AR S3 (true,[dd]) μ3 S3 (σ3.ay (ef P C ops ((fun H=>H) σ2.heap) (jx 4294967296 id) 0 σ2)) a4:=
  ⟨⟨[],by simp[a4,hd3],⟨List.nodup_nil,by simp⟩,fun _=>rfl⟩,A3.size,A3.tmp⟩
 unfold wpOpsIn
 show d.wpIn (WF none) 0 P _ a4 w3
 have C03:Carry w.heap.size (fun _=>none) S (fun _=>none) μ3 S3 σ3.heap:=C2.trans C3
 refine aH (Dt:=(true,[dd])) (μo:=μ3) (So:=S3) (Ho:=σ3.heap) (fun h=>absurd rfl h) hC ih (R3.ids hB3) d .none _ e4 σ4 a4 w3 μ3 S3 _ he4 hB3 A4 R3 Carry.refl fun a5 w5 μ5 S5 xe A5 R5 C5 hx=>?_
 have hd5:a5.defers=[dd]:=by
  obtain⟨ms,hms,_,hnil⟩:=A5.defers
  have:=hnil rfl
  subst this
  rw[hms];rfl
 have hargs:aP μ5 S5 σ4.heap (first++caps) (fx++fy).toList:=by
  simp only[Array.toList_append]
  exact cg (C5.vrs hv1) (C5.vrs hv2)
 have fin:∀ (v:AV) (q:Option Value),VR μ5 S5 σ4.heap v (mZ q)→Qb P C Sm lf n (jx 4294967296 id+16) kd (first++caps) v σ4.heap σ4.ids (zu P fn c.rs σ4)=some y →
   LeavesInM (WF none) 0 P fn a5.tmps (fun e w'=>∃ us S' os,e = .returned (i6 us)∧Below w.heap.size w w'∧(∀ b o,S b=some o→S' b=some o) ∧
   (∀ b o,S' b=some o→w'.heap[b]? = some o)∧(∀ b,S' b≠none→S b≠none∨w.heap.size≤b)∧Fb S' c.rs y us os ∧
   (∀ o∈os,mB S' w' w.heap.size o)∧os.Pairwise Ae) [dd] (zZ q) w5:=by
  intro v q hq hk
  obtain⟨hcb,H',L',hend,hcall⟩:=X7 hC hr hk hB4 (us:=fx++fy) R5 hargs hq
  refine⟨by cases q<;>simp[zZ],.inr ⟨fun h=>(by cases h),.func kd,fy,kd,fx++fy,rfl,Cb hcb _ _ _,fun _ _=>trivial,?_⟩⟩
  refine hcall.mono fun e u' w' hp=>?_
  obtain⟨⟨vr,rfl⟩,hu,μ6,S6,R6,C6⟩:=hp
  show LeavesInM (WF none) 0 P fn a5.tmps _ [] (settle u') w'
  rw[hu]
  unfold zu at hend
  split at hend
  case h_2=>simp at hend
  rename_i vsr hvs
  have A6:AR S3 (true,[dd]) μ6 S6 ⟨σ4.nt,σ4.tmps,H',L'⟩ a5:=
   (A5.put (σ':=⟨σ4.nt,σ4.tmps,H',L'⟩) (H':=H') (L':=L') C6 (v:=.lit undef) (u:=undef) (by simp only[VR]) (dst:=none) rfl).1
  obtain⟨u,k1,k2⟩:=qR A6 R6 hvs
  obtain⟨us,S',os,z1,z2⟩:=B0 R6 (C03.trans (C5.trans C6)) k2 hend
  exact⟨u,k1,us,S',os,z1,z2⟩
 cases e4 with
 | dJ=>
  cases (show xe = .normal from hx)
  show LeavesInM _ _ _ _ _ _ a5.defers _ _
  rw[hd5]
  exact fin (.lit .nilIface) none (by simp only[VR,mZ];rfl) ht
 | ret=>
  cases (show xe = .ret from hx)
  show LeavesInM _ _ _ _ _ _ a5.defers _ _
  rw[hd5]
  exact fin (.lit .nilIface) none (by simp only[VR,mZ];rfl) ht
 | gh v=>
  obtain⟨u,rfl,hu⟩:=hx
  show LeavesInM _ _ _ _ _ _ a5.defers _ _
  rw[hd5]
  exact fin v (some u) hu ht
 | exit i=>simp at ht
 | goto i=>simp at ht
end
end Go.Sy
