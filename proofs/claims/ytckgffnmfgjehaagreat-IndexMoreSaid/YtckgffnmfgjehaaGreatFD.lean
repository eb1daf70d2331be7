/- Sym16, Sym17, Sym18, Sym18b, Sym19, Sym20, Sym21, Sym22, Sym23, Sym24. -/
import Derived.Test.YtckgffnmfgjehaaGreatFC
import Derived.Carry
import Derived.ProofKit
import Derived.SizedLaws
import Derived.RecoverIn
import Derived.RangeFuncLeaves
namespace Go.Sy
open Go Go.RowKit
set_option linter.unusedSimpArgs false
set_option linter.unusedVariables false
mutual
def fT:AV→AV→Bool
 | .ptr i o,.ptr j p=>Nat.beq i j&&Nat.beq o p
 | .sl i g,.sl j h=>Nat.beq i j&&Nat.beq g h
 | .ak,.ak=>true
 | .agg a,.agg b=>oR a b
 | .fG i,.fG j=>Nat.beq i j
 | .mp i,.mp j=>Nat.beq i j
 | .uz i,.uz j=>Nat.beq i j
 | .lit (.tuple x),.lit (.tuple y)=>Nat.beq x.size 0&&Nat.beq y.size 0
 | .lit (.int k i),.lit (.int l j)=>Eu k l&&decide (i=j)
 | .fn (.func f) a b,.fn (.func g) c d=>Nat.beq f g&&oR a c&&oR b d
 | _,_=>false
def oR:List AV→List AV→Bool
 | [],[]=>true
 | a::as,b::bs=>fT a b&&oR as bs
 | _,_=>false
end
mutual
theorem Es:∀ (a b:AV),fT a b=true→a=b
 | .ptr i o,b,h=>by
  cases b<;>simp only[fT,Bool.false_eq_true] at h
  simp only[Bool.and_eq_true] at h
  rw[Nat.eq_of_beq_eq_true h.1,Nat.eq_of_beq_eq_true h.2]
 | .sl i o,b,h=>by
  cases b<;>simp only[fT,Bool.false_eq_true] at h
  simp only[Bool.and_eq_true] at h
  rw[Nat.eq_of_beq_eq_true h.1,Nat.eq_of_beq_eq_true h.2]
 | .agg a,b,h=>by
  cases b<;>simp only[fT,Bool.false_eq_true] at h
  rw[nG _ _ h]
 | .ak,b,h=>by
  cases b<;>simp only[fT,Bool.false_eq_true] at h
  rfl
 | .fG i,b,h=>by
  cases b<;>simp only[fT,Bool.false_eq_true] at h
  rw[Nat.eq_of_beq_eq_true h]
 | .mp i,b,h=>by
  cases b<;>simp only[fT,Bool.false_eq_true] at h
  rw[Nat.eq_of_beq_eq_true h]
 | .uz i,b,h=>by
  cases b<;>simp only[fT,Bool.false_eq_true] at h
  rw[Nat.eq_of_beq_eq_true h]
 | .lit x,b,h=>by
  cases b with
  | lit y=>
   cases x with
   | int k i=>
    cases y<;>simp only[fT,Bool.false_eq_true,Bool.and_eq_true,decide_eq_true_eq] at h
    rw[yz h.1,h.2]
   | tuple x=>
    cases y<;>simp only[fT,Bool.false_eq_true] at h
    rename_i y
    simp only[Bool.and_eq_true] at h
    have h1:=Nat.eq_of_beq_eq_true h.1
    have h2:=Nat.eq_of_beq_eq_true h.2
    have e1:x = #[]:=by simpa using h1
    have e2:y = #[]:=by simpa using h2
    rw[e1,e2]
   | _=>simp[fT] at h
  | _=>cases x<;>simp[fT] at h
 | .fn f a b,y,h=>by
  cases y with
  | fn g c d=>
   cases f<;>cases g<;>simp only[fT,Bool.false_eq_true] at h
   simp only[Bool.and_eq_true] at h
   rw[Nat.eq_of_beq_eq_true h.1.1,nG a c h.1.2,nG b d h.2]
  | _=>cases f<;>simp[fT] at h
 | .Aq e x o,y,h=>by cases y<;>simp[fT] at h
 | .xG i g k o,y,h=>by cases y<;>simp[fT] at h
 | .cont e xs,y,h=>by cases y<;>simp[fT] at h
 | .DS i xs,y,h=>by cases y<;>simp[fT] at h
 | .pI l,y,h=>by cases y<;>simp[fT] at h
theorem nG:∀ (as bs:List AV),oR as bs=true→as=bs
 | [],[],_=>rfl
 | [],_::_,h=>by simp[oR] at h
 | _::_,[],h=>by simp[oR] at h
 | a::as,b::bs,h=>by
  simp only[oR,Bool.and_eq_true] at h
  rw[Es a b h.1,nG as bs h.2]
end
def yq (e:Ty):List AV→Option (List e.T×List AV)
 | .cont e' xs::r=>match eB (e:=e') (e':=e) xs with
  | some ys=>some (ys,r)
  | none=>none
 | _=>none
def xA (k:Nat):List AV→Option (Unit×List AV)
 | .fn (.func j) [] []::r=>cond (Nat.beq j k) (some ((),r)) none
 | _=>none
theorem BP {k:Nat}{l:List AV}{x:Unit}{r:List AV}(h:xA k l=some (x,r)):l=AV.fn (.func k) [] []::r:=by
 unfold xA at h
 split at h
 ·rename_i j r'
  cases hb:Nat.beq j k with
  | true=>
   rw[hb] at h
   cases h
   rw[Nat.eq_of_beq_eq_true hb]
  | false=>rw[hb] at h;cases h
 ·cases h
def oo:(t:Ty)→List AV→Option (t.T×List AV)
 | .int k,l=>w9 k l
 | .bool,l=>p8 l
 | .str,l=>uQ l
 | .row e,l=>yq e l
 | .pair a b,l=>match oo a l with
  | some (x,l')=>match oo b l' with
   | some (y,l'')=>some ((x,y),l'')
   | none=>none
  | none=>none
 | .one a,l=>oo a l
 | .xI k,l=>xA k l
 | .nil,l=>vJ l
theorem qj:∀ (t:Ty) (l:List AV) (x:t.T) (r:List AV),oo t l=some (x,r)→l=enc t x++r
 | .int k,l,x,r,h=>by
  simp only[oo] at h
  unfold w9 at h
  split at h
  ·obtain⟨hk,he⟩:=ah h
   cases he
   simp only[decide_eq_true_eq] at hk
   subst hk;rfl
  ·simp at h
 | .bool,l,x,r,h=>by
  simp only[oo] at h
  unfold p8 at h
  split at h
  ·cases h;rfl
  ·simp at h
 | .str,l,x,r,h=>by
  simp only[oo] at h
  unfold uQ at h
  split at h
  ·cases h;rfl
  ·simp at h
 | .xI k,l,x,r,h=>by
  simp only[oo] at h
  rw[BP h];rfl
 | .nil,l,x,r,h=>by
  simp only[oo] at h
  unfold vJ at h
  split at h
  ·cases h;rfl
  ·simp at h
 | .row e,l,x,r,h=>by
  simp only[oo] at h
  unfold yq at h
  split at h
  ·split at h
   ·rename_i hc
    cases h
    obtain⟨he,rfl⟩:=bN hc
    subst he;rfl
   ·simp at h
  ·simp at h
 | .pair a b,l,x,r,h=>by
  simp only[oo] at h
  split at h
  ·rename_i y l' h1
   split at h
   ·rename_i z l'' h2
    cases h
    rw[qj a l y l' h1,qj b l' z _ h2]
    simp only[enc,List.append_assoc]
   ·simp at h
  ·simp at h
 | .one a,l,x,r,h=>by
  simp only[oo] at h
  simpa only [enc] using qj a l x r h
inductive SK where
 | data (t:Ty)
 | int (k:IntKind)
 | bool
 | str
 | cont (e:Ty)
 | fix (a:AV)
 | pJ (i off:Nat)
 | b7 (i q:Nat)
@[reducible] def SK.T:SK→Type
 | .data t=>t.T
 | .int _=>Int
 | .bool=>Bool
 | .str=>ByteArray
 | .cont e=>List e.T
 | .fix _=>Unit
 | .pJ _ _=>Nat
 | .b7 _ _=>Nat×(Nat×Nat)
def SK.put:(s:SK)→s.T→AV
 | .data t,x=>.agg (enc t x)
 | .int k,x=>.lit (.int k x)
 | .bool,x=>.lit (.bool x)
 | .str,x=>.lit (.string x)
 | .cont e,xs=>.cont e xs
 | .fix a,_=>a
 | .pJ i off,k=>.pJ i k off
 | .b7 i q,x=>.b7 i q x.1 x.2.1 x.2.2
def IQ (k:IntKind):AV→Option Int
 | .lit (.int k' x)=>cond (decide (k'=k)) (some x) none
 | _=>none
def Dp (t:Ty):AV→Option t.T
 | .agg cs=>match oo t cs with
  | some (x,[])=>some x
  | _=>none
 | _=>none
def Dj:AV→Option Bool
 | .lit (.bool x)=>some x
 | _=>none
def Jd:AV→Option ByteArray
 | .lit (.string x)=>some x
 | _=>none
def Eh (e:Ty):AV→Option (List e.T)
 | .cont e' xs=>eB (e:=e') (e':=e) xs
 | _=>none
def IR (i off:Nat):AV→Option Nat
 | .pJ j k o=>cond (Nat.beq j i&&Nat.beq o off) (some k) none
 | _=>none
def HF (i q:Nat):AV→Option (Nat×(Nat×Nat))
 | .b7 j r k a b=>cond (Nat.beq j i&&Nat.beq r q) (some (k,(a,b))) none
 | _=>none
def SK.get:(s:SK)→AV→Option s.T
 | .data t,a=>Dp t a
 | .int k,a=>IQ k a
 | .bool,a=>Dj a
 | .str,a=>Jd a
 | .cont e,a=>Eh e a
 | .fix b,a=>cond (fT a b) (some ()) none
 | .pJ i off,a=>IR i off a
 | .b7 i q,a=>HF i q a
theorem SK.vH:∀ (s:SK) (a:AV) (x:s.T),s.get a=some x→a=s.put x
 | .data t,a,x,h=>by
  simp only[SK.get] at h
  unfold Dp at h
  split at h
  ·split at h
   ·rename_i hd
    cases h
    rw[qj t _ _ _ hd,List.append_nil];rfl
   ·simp at h
  ·simp at h
 | .int k,a,x,h=>by
  simp only[SK.get] at h
  unfold IQ at h
  split at h
  ·obtain⟨hk,e⟩:=ah h
   simp only[decide_eq_true_eq] at hk
   subst hk;subst e;rfl
  ·simp at h
 | .bool,a,x,h=>by
  simp only[SK.get] at h
  unfold Dj at h
  split at h
  ·cases h;rfl
  ·simp at h
 | .str,a,x,h=>by
  simp only[SK.get] at h
  unfold Jd at h
  split at h
  ·cases h;rfl
  ·simp at h
 | .cont e,a,x,h=>by
  simp only[SK.get] at h
  unfold Eh at h
  split at h
  ·obtain⟨he,e1⟩:=bN h
   subst he;subst e1;rfl
  ·simp at h
 | .fix b,a,x,h=>by
  simp only[SK.get] at h
  obtain⟨h1,_⟩:=ah h
  exact Es a b h1
 | .pJ i off,a,x,h=>by
  simp only[SK.get] at h
  unfold IR at h
  split at h
  ·obtain⟨h1,e⟩:=ah h
   simp only[Bool.and_eq_true] at h1
   rw[Nat.eq_of_beq_eq_true h1.1,Nat.eq_of_beq_eq_true h1.2,e];rfl
  ·simp at h
 | .b7 i q,a,x,h=>by
  simp only[SK.get] at h
  unfold HF at h
  split at h
  ·obtain⟨h1,e⟩:=ah h
   simp only[Bool.and_eq_true] at h1
   rw[Nat.eq_of_beq_eq_true h1.1,Nat.eq_of_beq_eq_true h1.2,← e];rfl
  ·simp at h
@[reducible] def XT:List SK→Type
 | []=>Unit
 | s::ss=>s.T×XT ss
def F4:(l:List SK)→XT l→List AV
 | [],_=>[]
 | s::ss,x=>s.put x.1::F4 ss x.2
def zZ:(l:List SK)→List AV→Option (XT l)
 | [],[]=>some ()
 | s::ss,a::as=>match s.get a,zZ ss as with
  | some x,some y=>some (x,y)
  | _,_=>none
 | _,_=>none
theorem mm:∀ (l:List SK) (as:List AV) (x:XT l),zZ l as=some x→as=F4 l x
 | [],[],x,h=>rfl
 | [],_::_,x,h=>by simp[zZ] at h
 | s::ss,[],x,h=>by simp[zZ] at h
 | s::ss,a::as,x,h=>by
  simp only[zZ] at h
  split at h
  ·rename_i y z h1 h2
   cases h
   rw[SK.vH s a y h1,mm ss as z h2];rfl
  ·simp at h
def MY:OA→OA→Bool
 | .ret,.ret=>true
 | .exit a,.exit b=>Nat.beq a b
 | .goto a,.goto b=>Nat.beq a b
 | _,_=>false
def Ou:EF→EF→Bool
 | .ready,.ready=>true
 | .busy,.busy=>true
 | .over,.over=>true
 | .done a,.done b=>MY a b
 | _,_=>false
theorem Kz:∀ {a b:EF},Ou a b=true→a=b:=by
 intro a b h
 cases a<;>cases b<;>simp only[Ou,Bool.false_eq_true] at h<;>try rfl
 rename_i x y
 cases x<;>cases y<;>simp only[MY,Bool.false_eq_true] at h<;>first|rfl|rw[Nat.eq_of_beq_eq_true h]
inductive OS where
 | box (t:TypeId) (ks:List SK)
 | row (t:TypeId) (e:Ty) (g:Nat)
 | de
 | loop (k r:Nat) (st:EF) (ks:List SK)
 | map
 | cg
 | gone
 | aL (t ti q:Nat)
 | sY (t ti q:Nat)
@[reducible] def OS.T:OS→Type
 | .box _ ks=>XT ks
 | .row _ e _=>List e.T
 | .de=>ByteArray×Nat
 | .loop _ _ _ ks=>XT ks
 | .map=>List (Int×Int)
 | .cg=>List ((Int×(Int×Int))×Int)
 | .gone=>Unit
 | .aL _ _ _=>List cl.T
 | .sY _ _ _=>List cl.T×Nat
def OS.put:(s:OS)→s.T→Option aO
 | .box t ks,x=>some (.box t (F4 ks x))
 | .row t e g,xs=>some (.row t e g xs)
 | .de,x=>some (.de x.1 x.2)
 | .loop k r st ks,x=>some (.loop k r st (F4 ks x))
 | .map,x=>some (.map x)
 | .cg,x=>some (.cg x)
 | .gone,_=>none
 | .aL t ti q,xs=>some (.aL t ti q xs .own)
 | .sY t ti q,x=>some (.aL t ti q x.1 (.eW x.2))
def Il (t:TypeId)(ks:List SK):Option aO→Option (XT ks)
 | some (.box t' cs)=>cond (Nat.beq t' t) (zZ ks cs) none
 | _=>none
def Gi (t:TypeId)(e:Ty)(g:Nat):Option aO→Option (List e.T)
 | some (.row t' e' g' xs)=>cond (Nat.beq t' t&&Nat.beq g' g) (eB (e:=e') (e':=e) xs) none
 | _=>none
def zP:Option aO→Option (ByteArray×Nat)
 | some (.de s pos)=>some (s,pos)
 | _=>none
def getLoop (k r:Nat)(st:EF)(ks:List SK):Option aO→Option (XT ks)
 | some (.loop k' r' st' ts)=>cond (Nat.beq k' k&&Nat.beq r' r&&Ou st' st) (zZ ks ts) none
 | _=>none
def GK:Option aO→Option (List (Int×Int))
 | some (.map es)=>some es
 | _=>none
def DA:Option aO→Option (List ((Int×(Int×Int))×Int))
 | some (.cg es)=>some es
 | _=>none
def Ec:Option aO→Option Unit
 | none=>some ()
 | _=>none
def DV (t ti q:Nat):Option aO→Option (List cl.T)
 | some (.aL t' ti' q' xs .own)=>cond (Nat.beq t' t&&Nat.beq ti' ti&&Nat.beq q' q) (some xs) none
 | _=>none
def yZ (t ti q:Nat):Option aO→Option (List cl.T×Nat)
 | some (.aL t' ti' q' xs (.eW m))=>cond (Nat.beq t' t&&Nat.beq ti' ti&&Nat.beq q' q) (some (xs,m)) none
 | _=>none
def OS.get:(s:OS)→Option aO→Option s.T
 | .box t ks,o=>Il t ks o
 | .row t e g,o=>Gi t e g o
 | .de,o=>zP o
 | .loop k r st ks,o=>getLoop k r st ks o
 | .map,o=>GK o
 | .cg,o=>DA o
 | .gone,o=>Ec o
 | .aL t ti q,o=>DV t ti q o
 | .sY t ti q,o=>yZ t ti q o
theorem cF {α:Type}{c:Bool}{a:Option α}{b:α}(h:cond c a none=some b):c=true∧a=some b:=by
 cases c<;>simp_all
theorem OS.vH:∀ (s:OS) (o:Option aO) (x:s.T),s.get o=some x→o=s.put x
 | .box t ks,o,x,h=>by
  simp only[OS.get] at h
  unfold Il at h
  split at h
  ·obtain⟨h1,h2⟩:=cF h
   rw[Nat.eq_of_beq_eq_true h1,mm _ _ _ h2];rfl
  ·simp at h
 | .row t e g,o,x,h=>by
  simp only[OS.get] at h
  unfold Gi at h
  split at h
  ·obtain⟨h1,h2⟩:=cF h
   simp only[Bool.and_eq_true] at h1
   obtain⟨he,e1⟩:=bN h2
   subst he;subst e1
   rw[Nat.eq_of_beq_eq_true h1.1,Nat.eq_of_beq_eq_true h1.2];rfl
  ·simp at h
 | .de,o,x,h=>by
  simp only[OS.get] at h
  unfold zP at h
  split at h
  ·cases h;rfl
  ·simp at h
 | .map,o,x,h=>by
  simp only[OS.get] at h
  unfold GK at h
  split at h
  ·cases h;rfl
  ·simp at h
 | .cg,o,x,h=>by
  simp only[OS.get] at h
  unfold DA at h
  split at h
  ·cases h;rfl
  ·simp at h
 | .loop k r st ks,o,x,h=>by
  simp only[OS.get] at h
  unfold getLoop at h
  split at h
  ·obtain⟨h1,h2⟩:=cF h
   simp only[Bool.and_eq_true] at h1
   rw[Nat.eq_of_beq_eq_true h1.1.1,Nat.eq_of_beq_eq_true h1.1.2,Kz h1.2,mm _ _ _ h2];rfl
  ·simp at h
 | .gone,o,x,h=>by
  simp only[OS.get] at h
  unfold Ec at h
  split at h
  ·rfl
  ·simp at h
 | .aL t ti q,o,x,h=>by
  simp only[OS.get] at h
  unfold DV at h
  split at h
  ·obtain⟨h1,h2⟩:=cF h
   simp only[Bool.and_eq_true] at h1
   cases h2
   rw[Nat.eq_of_beq_eq_true h1.1.1,Nat.eq_of_beq_eq_true h1.1.2,Nat.eq_of_beq_eq_true h1.2];rfl
  ·simp at h
 | .sY t ti q,o,x,h=>by
  simp only[OS.get] at h
  unfold yZ at h
  split at h
  ·obtain⟨h1,h2⟩:=cF h
   simp only[Bool.and_eq_true] at h1
   cases h2
   rw[Nat.eq_of_beq_eq_true h1.1.1,Nat.eq_of_beq_eq_true h1.1.2,Nat.eq_of_beq_eq_true h1.2];rfl
  ·simp at h
@[reducible] def OT:List (Nat×OS)→Type
 | []=>Unit
 | s::ss=>s.2.T×OT ss
def Mf:(l:List (Nat×OS))→OT l→List (Nat×Option aO)
 | [],_=>[]
 | s::ss,x=>(s.1,s.2.put x.1)::Mf ss x.2
def Lm (f:Nat→Option aO):(l:List (Nat×OS))→Option (OT l)
 | []=>some ()
 | s::ss=>match s.2.get (f s.1),Lm f ss with
  | some x,some y=>some (x,y)
  | _,_=>none
theorem yX (f:Nat→Option aO):∀ (l:List (Nat×OS)) (x:OT l),Lm f l=some x→(l.map (·.1)).map (fun i=>(i,f i))=Mf l x
 | [],x,h=>rfl
 | s::ss,x,h=>by
  simp only[Lm] at h
  split at h
  ·rename_i y z h1 h2
   cases h
   simp only[List.map_cons,Mf]
   rw[OS.vH s.2 _ y h1,yX f ss z h2]
  ·simp at h
@[reducible] def RT:List fB→Type
 | []=>Unit
 | r::rs=>List r.e.T×RT rs
def qp:(l:List fB)→RT l→List (Nat×Option aO)
 | [],_=>[]
 | r::rs,x=>(r.id,some (.row r.te r.e 0 x.1))::qp rs x.2
def Re (σ:St)(r:fB):Option (List r.e.T×Option Nat):=
 match σ.nD r.at' with
 | .lit (.slice none 0 0)=>some ([],none)
 | .sl a g=>match σ.heap a with
  | some (.row te e g' xs)=>cond (Nat.beq g g'&&Nat.beq te r.te) (match eB (e:=e) (e':=r.e) xs with
   | some ys=>some (ys,some a)
   | none=>none) none
  | _=>none
 | _=>none
def mI (σ:St):(l:List fB)→Option (RT l×List (Option Nat))
 | []=>some ((),[])
 | r::rs=>match Re σ r,mI σ rs with
  | some (x,s),some (y,ss)=>some ((x,y),s::ss)
  | _,_=>none
theorem BO {σ:St}{r:fB}{x:List r.e.T}{s:Option Nat}(h:Re σ r=some (x,s)):ye σ r=some ⟨r.id,s,r.te,r.e,x⟩:=by
 unfold Re at h
 unfold ye
 split at h
 ·rename_i hx;cases h;simp only[hx]
 ·rename_i a g hx
  simp only[hx]
  split at h
  ·rename_i te e g' xs hH
   simp only[hH]
   cases hb:(Nat.beq g g'&&Nat.beq te r.te) with
   | false=>rw[hb] at h;simp at h
   | true=>
    rw[hb] at h
    simp only[cond_true] at h ⊢
    split at h
    ·rename_i ys hc;cases h;simp only[hc]
    ·simp at h
  ·simp at h
 ·simp at h
theorem kZ {σ:St}:∀ {l:List fB} {x:RT l} {ss:List (Option Nat)},mI σ l=some (x,ss) →
  ∃ ls,zI σ l=some ls∧ls.map (fun s=>(s.id,some (aO.row s.te s.e 0 s.xs)))=qp l x∧ls.map (·.id)=l.map (·.id)∧Src.list ls=ss.filterMap id
 | [],x,ss,h=>by simp only[mI,Option.some.injEq,Prod.mk.injEq] at h;obtain⟨_,rfl⟩:=h;exact⟨[],rfl,rfl,rfl,rfl⟩
 | r::rs,x,ss,h=>by
  simp only[mI] at h
  split at h
  ·rename_i y s z ss' h1 h2
   cases h
   obtain⟨ls,k1,k2,k3,k4⟩:=kZ h2
   refine⟨⟨r.id,s,r.te,r.e,y⟩::ls,?_,?_,?_,?_⟩
   ·simp only[zI,BO h1,k1]
   ·simp only[List.map_cons,k2,qp]
   ·simp only[List.map_cons,k3]
   ·unfold Src.list at k4 ⊢
    cases s with
    | none=>simp only[List.filterMap_cons,k4,id]
    | some a=>simp only[List.filterMap_cons,k4,id]
  ·simp at h
structure ai where
 nt:Nat
 keep:List (Nat×SK)
 od:List (Nat×OS)
 own:List (Nat×OS)
 rows:List fB
def ai.hint (s:ai):Hint:=⟨s.keep.map (·.1),s.own.map (·.1),s.rows⟩
@[reducible] def ai.X (s:ai):Type:=XT (s.keep.map (·.2))×OT (s.od++s.own)×RT s.rows
def ai.ids (s:ai):List Nat:=(s.od++s.own).map (·.1)
def Lb:List Nat→List AV→List (Nat×AV)
 | t::ts,a::as=>(t,a)::Lb ts as
 | _,_=>[]
def ai.Au (s:ai)(x:s.X):St:=
 ⟨s.nt,Ro (zf s.rows++Lb (s.keep.map (·.1)) (F4 _ x.1)),Et (qp _ x.2.2++Mf _ x.2.1),s.ids++s.rows.map (·.id)⟩
def jB:List Nat→List Nat→Bool
 | [],[]=>true
 | a::as,b::bs=>Nat.beq a b&&jB as bs
 | _,_=>false
theorem dQ:∀ {as bs:List Nat},jB as bs=true→as=bs
 | [],[],_=>rfl
 | [],_::_,h=>by simp[jB] at h
 | _::_,[],h=>by simp[jB] at h
 | a::as,b::bs,h=>by
  simp only[jB,Bool.and_eq_true] at h
  rw[Nat.eq_of_beq_eq_true h.1,dQ h.2]
def ai.fits (s:ai)(σ:St)(ss:List (Option Nat)):Bool:=
 Nat.beq σ.nt s.nt&&distinct (ss.filterMap id)&&distinct (s.rows.map (·.id))&&s.rows.all (fun r=>!mem s.ids r.id)&&(ss.filterMap id).all (fun a=>!mem s.ids a)
def ai.read (s:ai)(σ:St):Option s.X:=
 match zZ (s.keep.map (·.2)) ((s.keep.map (·.1)).map fun t=>clean s.ids (σ.val (.tmp t))),Lm (fun i=>(σ.heap i).map (jN s.rows s.ids i)) (s.od++s.own),mI σ s.rows with
 | some x,some y,some (z,ss)=>cond (s.fits σ ss) (some (x,y,z)) none
 | _,_,_=>none
theorem zK (f:Nat→AV):∀ (l:List Nat),l.map (fun t=>(t,f t))=Lb l (l.map f)
 | []=>rfl
 | t::l=>by simp only[List.map_cons,Lb,zK f l]
theorem ai.oq {s:ai}{σ:St}{x:s.X}(h:s.read σ=some x):head (s.od.map (·.1)) s.hint σ=some (s.Au x):=by
 unfold ai.read at h
 split at h
 ·rename_i y z r ss h1 h2 h3
  obtain⟨hf,rfl⟩:=ah h
  unfold ai.fits at hf
  simp only[Bool.and_eq_true] at hf
  obtain⟨⟨⟨⟨f1,f2⟩,f3⟩,f4⟩,f5⟩:=hf
  obtain⟨ls,k1,k2,k3,k4⟩:=kZ h3
  have hL:s.od.map (·.1)++s.hint.ids=s.ids:=by simp[ai.hint,ai.ids]
  have g1:=mm _ _ _ h1
  have g2:=yX _ _ _ h2
  unfold head
  simp only[hL]
  have hs:zI σ s.hint.rows=some ls:=k1
  rw[hs]
  have e1:ls.all (fun p=>!mem s.ids p.id)=true:=by
   rw[List.all_eq_true] at f4 ⊢
   intro p hp
   have:p.id∈s.rows.map (·.id):=by rw[← k3];exact List.mem_map.2 ⟨p,hp,rfl⟩
   obtain⟨q,hq,e⟩:=List.mem_map.1 this
   rw[← e];exact f4 q hq
  simp only[k3,k4,f2,f3,e1,f5,Bool.and_self,Bool.and_true,cond_true]
  rw[Nat.eq_of_beq_eq_true f1]
  simp only[ai.Au,Option.some.injEq,St.mk.injEq,true_and]
  refine⟨?_,?_,trivial⟩
  ·congr 1
   show zf s.rows++(s.keep.map (·.1)).map (fun t=>(t,clean s.ids (σ.val (.tmp t))))=_
   rw[zK (fun t=>clean s.ids (σ.val (.tmp t))),g1]
  ·rw[k2]
   congr 2
 ·simp at h
def Le {α:Type}(a b:Option α):Prop:=∀ r,a=some r→b=some r
theorem Le.refl {α:Type}(a:Option α):Le a a:=fun _ h=>h
theorem Le.of_eq {α:Type}{a b:Option α}(h:a=b):Le a b:=h ▸ Le.refl a
theorem Le.none {α:Type}(b:Option α):Le Option.none b:=fun _ h=>by simp at h
theorem Le.trans {α:Type}{a b c:Option α}(h:Le a b)(k:Le b c):Le a c:=fun r x=>k r (h r x)
theorem Le.bind {α β:Type}{a:Option α}{f g:α→Option β}(h:∀ x,Le (f x) (g x)):Le (a.bind f) (a.bind g):=by
 cases a with
 | none=>exact Le.none _
 | some x=>exact h x
inductive R3 (α β γ:Type) where
 | next (x:α)
 | out (y:β)
 | ret (y:γ)
def iter {α β γ:Type}:Nat→(α→Option (R3 α β γ))→α→Option (Sum β γ)
 | 0,_,_=>none
 | n+1,f,x=>match f x with
  | some (.next x')=>iter n f x'
  | some (.out y)=>some (.inl y)
  | some (.ret y)=>some (.inr y)
  | none=>none
structure aG where
 n:Nat
 k:Nat
 shape:ai
 JG:Nat
 out:ai
 ret:ai
 step:shape.X→Option (R3 shape.X out.X ret.X)
 Wn:Bool:=false
 lab:Option Nat:=none
 W6:Option (Nat×Int):=none
 dD:List (Nat×Nat×Nat):=[]
def aG.rf (s:aG):Option Nat:=cond s.Wn none (some s.k)
def Mb:Option Nat→Option Nat→Bool
 | none,none=>true
 | some a,some b=>Nat.beq a b
 | _,_=>false
theorem qn {a b:Option Nat}(h:Mb a b=true):a=b:=by
 cases a<;>cases b<;>simp only[Mb,Bool.false_eq_true] at h<;>first|rfl|rw[Nat.eq_of_beq_eq_true h]
def aG.od (s:aG):List Nat:=s.shape.od.map (·.1)
def aG.lh (s:aG):mZ:=⟨s.shape.hint,some s.out.hint,some s.ret.hint,s.dD⟩
def aG.fits (s:aG)(n k:Nat)(od:List Nat)(rf lab:Option Nat):Bool:=
 Mb s.lab lab&&Mb s.rf rf&&Nat.beq s.n n&&Nat.beq s.k k&&jB s.od od&&jB (s.out.od.map (·.1)) od&&jB (s.ret.od.map (·.1)) od
def aG.Nw (s:aG)(σ:St):Bool:=
 match s.W6 with
 | none=>true
 | some (t,i)=>match σ.tmps t with
  | .lit (.int _ j)=>decide (j=i)
  | _=>false
abbrev ko:=Nat→Nat→St→Option aG
def sumOf (Sm:ko)(base:Nat)(x:Code)(σ:St):Option aG:=
 match bB x with
 | some r=>Sm base r σ
 | none=>none
def aS (Sm:ko):Hints:=fun base r σ=>match Sm base r σ with
 | some s=>some s.lh
 | none=>none
def Tm:Code→Code→List Code
 | .label _,y=>[y]
 | _,_=>[]
def aJ:Code→List Code
 | .seq x y=>Tm x y++(aJ x++aJ y)
 | .scope x=>aJ x
 | .cond _ x y=>aJ x++aJ y
 | .block _ x=>aJ x
 | .loop x=>x::aJ x
 | .rangeFunc _ _ x y=>aJ x++aJ y
 | _=>[]
def St.Fi (σ:St)(d:Nat)(v:AV):St:=⟨σ.nt,aM σ.tmps d v,σ.heap,σ.ids⟩
section
variable {R:Type}
def jQ (σ:St)(H:Heap)(L:List Nat)(dst:Option Tmp)(v:AV)(k:St→Option R):Option R:=
 match dst with
 | none=>k ⟨σ.nt,σ.tmps,H,L⟩
 | some d=>cond (kY d σ.nt) (k ⟨σ.nt,aM σ.tmps d v,H,L⟩) none
def kg (σ:St)(id:Nat)(dst:Option Tmp)(e:AM)(k:St→List Nat→Option R):Option R:=
 cond (e.new && !(bf σ.heap e.sets&&cV id e.sets)) none (jQ σ (aY σ.heap e.sets) σ.ids dst e.v fun σ'=>k σ' (cond e.new (e.sets.map (·.1)) []))
def gA (σ:St)(x:Operand)(k:St→Bool→Option R)(skip:Option R):Option R:=
 match σ.val x with
 | .lit (.bool c)=>match x with
  | .tmp d=>cond c (k (σ.Fi d (.lit (.bool true))) true) (k (σ.Fi d (.lit (.bool false))) false)
  | _=>cond c (k σ true) (k σ false)
 | .lit (.tuple _)=>skip
 | _=>none
abbrev dM (R:Type):=Nat→Callee→List AV→Heap→List Nat→(AV→Heap→List Nat→Option R)→Option R
def p7 (u:bF)(Hh:Heap)(i g:Nat)(part:Option Nat)(rest:List AV)(k:aO→AV→Option R):Option R:=
 match Hh i with
 | some (.row te e g' xs)=>match eB (e:=e) (e':=u.e) (match part with
   | none=>xs
   | some b=>xs.take b) with
  | some zs=>match bU (cond u.e.flat (fun q=>cond (Nat.beq q i) none (Hh q)) (fun _=>none)) u.ps rest with
   | some x=>(u.f zs x).bind fun ys=>cond (Nat.beq g g'&&Nat.beq te u.te&&u.e.notNil) (match u.keep with
      | true=>cond (Nat.beq (List.length ys) (List.length zs)&&part.isNone) (k (.row te u.e g ys) (.lit (.tuple #[]))) none
      | false=>k (.row te u.e (g+1) ys) (.sl i (g+1))) none
   | none=>none
  | none=>none
 | _=>none
def Rc (u:bF)(Hh:Heap)(i:Nat)(zs:List Int)(k:aO→AV→Option R):Option R:=
 match u with
 | ⟨te,.nil,[.row (.int .u8)],true,f⟩=>match Hh i with
  | some (.aL t ti q xs (.eW m))=>(f [] (zs,())).bind fun _=>cond (Nat.beq te ti) (cond (decide (m<xs.length)) (k (.aL t ti q (xs.set m ((rd cl xs m).1,(zs,(rd cl xs m).2.2))) (.late m)) (.b7 i q m 0 zs.length)) none) none
  | _=>none
 | _=>none
theorem KP (u:bF)(Hh:Heap)(i:Nat)(zs:List Int)(k:aO→AV→Option R):Rc u Hh i zs k=match kr u Hh i zs with
  | some (o,v)=>k o v
  | none=>none:=by
 unfold Rc kr
 split
 ·rename_i u' te f
  dsimp only
  cases Hh i with
  | none=>rfl
  | some o=>
   cases o with
   | aL t ti q xs st=>
    cases st with
    | eW m=>
     dsimp only
     cases f [] (zs,()) with
     | none=>rfl
     | some r=>
      simp only[Option.bind_some]
      cases Nat.beq te ti with
      | false=>rfl
      | true=>
       simp only[cond_true]
       cases decide (m<xs.length)<;>rfl
    | _=>rfl
   | _=>rfl
 ·rename_i u' hn
  split
  ·rename_i h
   split at h
   ·exact absurd rfl (hn _ _)
   ·cases h
  ·rfl
def EU (u:bF)(Hh:Heap)(as:List AV)(k:Nat→aO→AV→Option R):Option R:=
 match as with
 | [.DS i zs]=>Rc u Hh i zs (k i)
 | .sl i g::rest=>p7 u Hh i g none rest (k i)
 | .sub i g a b::rest=>cond (Nat.beq a 0) (p7 u Hh i g (some b) rest (k i)) none
 | _=>none
theorem qK (u:bF)(Hh:Heap)(i g:Nat)(part:Option Nat)(rest:List AV)(k:aO→AV→Option R):p7 u Hh i g part rest k=match fX u Hh i g part rest with
  | some (o,v)=>k o v
  | none=>none:=by
 unfold p7 fX
 generalize bU (cond u.e.flat (fun q=>cond (Nat.beq q i) none (Hh q)) (fun _=>none)) u.ps rest=d
 cases Hh i with
 | none=>rfl
 | some o=>
  cases o with
  | row te e g' xs=>
   simp only
   generalize eB (e:=e) (e':=u.e) (match part with
    | none=>xs
    | some b=>xs.take b)=q
   cases q with
   | none=>rfl
   | some zs=>
    cases d with
    | none=>rfl
    | some x=>
     simp only
     cases u.f zs x with
     | none=>rfl
     | some ys=>
      simp only[Option.bind_some]
      cases (Nat.beq g g'&&Nat.beq te u.te&&u.e.notNil) with
      | false=>rfl
      | true=>
       simp only[cond_true]
       cases u.keep with
       | true=>simp only;cases (Nat.beq (List.length ys) (List.length zs)&&part.isNone)<;>rfl
       | false=>rfl
  | _=>rfl
theorem LL (u:bF)(Hh:Heap)(as:List AV)(k:Nat→aO→AV→Option R):EU u Hh as k=match fQ u Hh as with
  | some (i,o,v)=>k i o v
  | none=>none:=by
 cases as with
 | nil=>rfl
 | cons x rest=>
  cases x with
  | DS i zs=>
   cases rest with
   | nil=>
    simp only[EU,fQ]
    rw[KP]
    cases kr u Hh i zs<;>rfl
   | cons _ _=>rfl
  | sl i g=>
   simp only[EU,fQ]
   rw[qK]
   cases fX u Hh i g none rest<;>rfl
  | sub i g a b=>
   simp only[EU,fQ]
   rw[qK]
   cases Nat.beq a 0 with
   | false=>rfl
   | true=>simp only[cond_true];cases fX u Hh i g (some b) rest<;>rfl
  | _=>rfl
def DK (kp:AV→Heap→List Nat→Option R)(k:AV→Heap→List Nat→Option R):AV→Heap→List Nat→Option R
 | .dB x=>fun H L=>kp x H L
 | v=>fun H L=>k v H L
def Ko (P:Program)(t:TypeId)(a b:AV):Option (Nat×Nat×Nat×Nat×Int):=
 match a,b with
 | .ptr j off,.lit (.int _ i)=>match P.underlying t with
  | some (.array n el)=>match P.info? el with
   | some inf=>some (j,off,n,inf.size,i)
   | none=>none
  | _=>none
 | _,_=>none
def tX (i:Int):Nat→Nat→(Nat→Option R)→Option R
 | _,0,_=>none
 | m,n+1,K=>cond (decide (i=(m:Int))) (K m) (tX i (m+1) n K)
theorem kU {i:Int}{r:R}:∀ (n m:Nat) (K:Nat→Option R),tX i m n K=some r→∃ q,q<m+n∧i=(q:Int)∧K q=some r
 | 0,m,K,h=>by simp[tX] at h
 | n+1,m,K,h=>by
  simp only[tX] at h
  by_cases hi:i=(m:Int)
  ·rw[decide_eq_true hi] at h
   exact⟨m,by omega,hi,h⟩
  ·rw[decide_eq_false hi] at h
   obtain⟨q,h1,h2⟩:=kU n (m+1) K h
   exact⟨q,by omega,h2⟩
def Je (P:Program)(C:Cons)(G:dM R)(Hh:Heap)(id:Nat)(o:Oper)(σ:St)(kp:AV→Heap→List Nat→Option R)(k:St→List Nat→Option R):Option R:=
 cond (i7 C id o) (match jh P id o σ.val with
  | some (c,v)=>cond c (jQ σ σ.heap σ.ids o.dst v fun σ'=>k σ' []) none
  | none=>none) (match sem P Hh id o σ.val with
  | some (.val c v)=>cond c (jQ σ σ.heap σ.ids o.dst v fun σ'=>k σ' []) none
  | some (.new c i ob v)=>cond c (kg σ id o.dst ⟨[(i,ob)],true,v⟩ k) none
  | some (.wr c i ob v)=>cond c (kg σ id o.dst ⟨[(i,ob)],false,v⟩ k) none
  | some (.Kw c i ob v u)=>cond c (kg σ id o.dst ⟨[(i,ob)],false,v⟩ k) (kg σ id o.dst ⟨[],false,u⟩ k)
  | some (.call kk as)=>match fy C o kk with
   | some u=>EU u Hh as fun i ob v=>kg σ id o.dst ⟨[(i,ob)],false,v⟩ k
   | none=>match ov C kk with
   | some kG=>match xF P o,bU (fA kG Hh) kG.ps as with
    | true,some x=>(kG.f x).bind fun y=>kg σ id o.dst ⟨fz kG.rs y id,true,eA (nB kG.rs y id)⟩ k
    | _,_=>none
   | none=>G id kk as σ.heap σ.ids (DK kp fun v H' L'=>jQ σ H' L' o.dst v fun σ'=>k σ' [])
  | none=>none)
def GR (P:Program)(C:Cons)(G:dM R)(Hh:Heap)(id:Nat)(o:Oper)(σ:St)(kp:AV→Heap→List Nat→Option R)(k:St→List Nat→Option R):Option R:=
 match o.op with
 | .panic x=>match σ.val x with
  | .wL t v=>kp (.wL t v) σ.heap σ.ids
  | _=>none
 | .pick c a b=>gA σ c (fun σ t=>jQ σ σ.heap σ.ids o.dst (cond t (σ.val a) (σ.val b)) fun σ'=>k σ' []) none
 | .indexAddr t x y=>match Ko P t (σ.val x) (σ.val y) with
  | some (j,off,n,sz,i)=>tX i 0 n fun m=>jQ σ σ.heap σ.ids o.dst (.ptr j (off+m * sz)) fun σ'=>k σ' []
  | none=>Je P C G Hh id o σ kp k
 | _=>Je P C G Hh id o σ kp k
def MR (P:Program)(C:Cons)(G:dM R)(ops:Array Oper)(hide:Heap→Heap)(id i:Nat)(σ:St)(kp:AV→Heap→List Nat→Option R)(k:St→List Nat→Option R):Option R:=
 match ops[i]? with
 | none=>k σ []
 | some o=>match o.guard with
  | none=>GR P C G (hide σ.heap) id o σ kp k
  | some (j,b)=>match ops[j]? with
   | some g=>match g.dst with
    | some d=>gA σ (.tmp d) (fun σ c=>cond (c == b) (GR P C G (hide σ.heap) id o σ kp k) (jQ σ σ.heap σ.ids o.dst (.lit undef) fun σ'=>k σ' [])) (jQ σ σ.heap σ.ids o.dst (.lit undef) fun σ'=>k σ' [])
    | none=>jQ σ σ.heap σ.ids o.dst (.lit undef) fun σ'=>k σ' []
   | none=>jQ σ σ.heap σ.ids o.dst (.lit undef) fun σ'=>k σ' []
def Ll (P:Program)(C:Cons)(G:dM R)(ops:Array Oper)(base:Nat):List Nat→St→(Ex→St→Option R)→Option R
 | [],σ,k=>k .cL σ
 | i::l,σ,k=>MR P C G ops (fun H=>H) (base+i * 16) i σ (fun x H' L'=>k (.dB x) ⟨σ.nt,σ.tmps,H',L'⟩) fun σ' L=>Ll P C G ops base l (σ'.ay L) k
def Na (P:Program)(C:Cons)(ops:Array Oper)(m:List Nat)(W:List (Option Nat))(base:Nat):List Nat→List Nat→St→(St→Option R)→Option R
 | [],L,σ,k=>k (σ.ay L)
 | i::l,L,σ,k=>cond (iI P C ops m W i σ) (MR P C (fun _ _ _ _ _ _=>none) ops (bK base ops.size (m.getD i 0) (k7 m W ops.size i)) (base+i * 16) i σ (fun _ _ _=>none) fun σ' L'=>Na P C ops m W base l (L++L') σ' k) none
def Jf (P:Program)(C:Cons)(ops:Array Oper)(base:Nat)(σ:St)(k:St→Option R):Option R:=
 cond (bE P C ops (aA ops)) (Na P C ops (aA ops) (kz P C ops (aA ops) base σ) base (List.range ops.size) [] σ k) none
def NG (ops:Array Oper):Nat→Nat→Nat→Option Nat
 | 0,_,_=>none
 | n+1,b,t=>match qa t b ops.toList 0 with
  | some (y,o)=>match o.op with
   | .move (.tmp t')=>NG ops n y t'
   | _=>none
  | none=>some t
def Ng (P:Program)(ops:Array Oper):List Oper→Nat→Option (Nat×Nat)
 | [],_=>none
 | o::l,b=>match (match o.op with
  | .indexAddr t _ (.tmp d)=>match P.underlying t with
   | some (.array n _)=>match NG ops 9 b d with
    | some d'=>some (d',n)
    | none=>none
   | _=>none
  | _=>none) with
  | some r=>some r
  | none=>Ng P ops l (b+1)
def Dr (P:Program)(C:Cons)(G:dM R)(ops:Array Oper)(base z:Nat)(σ:St)(k:Ex→St→Option R):Option R:=
 MR P C G ops (fun H=>H) (base+z * 16) z σ (fun x H' L'=>k (.dB x) ⟨σ.nt,σ.tmps,H',L'⟩) fun σ' L=>k .cL (σ'.ay L)
def AP (P:Program)(C:Cons)(G:dM R)(ops:Array Oper)(base:Nat)(σ:St)(k:Ex→St→Option R):Option R:=
 match rI C ops (aA ops) with
 | none=>Jf P C ops base σ (k .cL)
 | some z=>cond (bE P C ops (aA ops)) (Na P C ops (aA ops) (kz P C ops (aA ops) base σ) base (List.range z) [] σ fun σ'=>Dr P C G ops base z σ' k) none
def QW (P:Program)(C:Cons)(ops:Array Oper)(m:List Nat)(W:List (Option Nat))(base z:Nat):List Nat→List Nat→St→(St→Option R)→Option R
 | [],L,σ,k=>k (σ.ay L)
 | i::l,L,σ,k=>cond (iI P C ops m W i σ) (MR P C (fun _ _ _ _ _ _=>none) ops (bK base ops.size (m.getD i 0) (k7 m W ops.size i)) (base+i * 16) i σ (fun _ _ _=>none) fun σ' L'=>
  cond (oe m z i) (cond (pX ops i σ σ') (QW P C ops m W base z l L σ k) none) (QW P C ops m W base z l (L++L') σ' k)) none
def PC (P:Program)(C:Cons)(G:dM R)(ops:Array Oper)(base z:Nat)(σ:St)(k:Ex→St→Option R):Option R:=
 cond (bE P C ops (aA ops)) (Na P C ops (aA ops) (kz P C ops (aA ops) base σ) base (cS (aA ops) z ops.size) [] σ fun σ1=>
  MR P C G ops (fun H=>H) (base+z * 16) z σ1 (fun x H' L'=>k (.dB x) ⟨σ1.nt,uj ops (aA ops) z σ1,H',L'⟩) fun σ2 L=>
   QW P C ops (aA ops) (kz P C ops (aA ops) base σ) base z (tf (aA ops) z ops.size) [] (σ2.ay L) (k .cL)) none
def Jy (P:Program)(C:Cons)(G:dM R)(ops:Array Oper)(base z z2:Nat)(σ:St)(k:Ex→St→Option R):Option R:=
 cond (bE P C ops (aA ops)) (Na P C ops (aA ops) (kz P C ops (aA ops) base σ) base (cS (aA ops) z ops.size) [] σ fun σ1=>
  MR P C G ops (fun H=>H) (base+z * 16) z σ1 (fun x H' L'=>k (.dB x) ⟨σ1.nt,uj ops (aA ops) z σ1,H',L'⟩) fun σ2 L=>
   QW P C ops (aA ops) (kz P C ops (aA ops) base σ) base z (iW (aA ops) z ops.size z2) [] (σ2.ay L) fun σ3=>Dr P C G ops base z2 σ3 k) none
def wU (P:Program)(C:Cons)(G:dM R)(ops:Array Oper)(base:Nat)(σ:St)(k:Ex→St→Option R):Option R:=
 match G3 C ops (aA ops) with
 | some (z,z2)=>Jy P C G ops base z z2 σ k
 | none=>match Kk C ops (aA ops) with
  | some z=>PC P C G ops base z σ k
  | none=>AP P C G ops base σ k
def qY (P:Program)(C:Cons)(G:dM R)(ops:Array Oper)(base:Nat)(σ:St)(k:Ex→St→Option R):Option R:=
 match En P ops σ ops.toList 0 with
 | some j=>wU P C G ops base σ fun e σ'=>k e (σ.align j σ')
 | none=>wU P C G ops base σ k
def Gz (P:Program)(C:Cons)(G:dM R)(ops:Array Oper)(base:Nat)(σ:St)(k:Ex→St→Option R):Option R:=
 match Ng P ops ops.toList 0 with
 | some (d,n)=>match σ.tmps d with
  | .lit (.int kk i)=>tX i 0 n fun m=>qY P C G ops base (σ.Fi d (.lit (.int kk (m:Int)))) k
  | _=>qY P C G ops base σ k
 | none=>qY P C G ops base σ k
def zn:Nat→(St→(Ex→St→Option R)→Option R)→St→(Ex→St→Option R)→Option R
 | 0,_,_,_=>none
 | n+1,f,σ,k=>f σ fun e σ'=>match e with
  | .cL=>zn n f σ' k
  | .dB _=>none
  | e=>k e σ'
def vp (σ:St)(i:Nat)(H:Heap)(L:List Nat)(k:Ex→St→Option R):Option R:=
 match H i with
 | some (.loop kk r .ready ts)=>k .cL ⟨σ.nt,σ.tmps,aM H i (some (.loop kk r .over ts)),L⟩
 | some (.loop kk r (.done j) ts)=>k j.ex ⟨σ.nt,σ.tmps,aM H i (some (.loop kk r .over ts)),L⟩
 | _=>none
def Cj (P:Program)(G:dM R)(base:Nat)(rf:Option Nat)(g:Operand)(body:Code)(σ:St)(k:Ex→St→Option R):Option R:=
 match rf,σ.val g,bB body with
 | some fid,.fn (.func kk) first caps,some r=>match cI P fid r with
  | some x=>match F5 σ base fid r x with
   | some (σ1,i)=>cond (gp P kk) (G (i+1) (.fn kk) (first++[.fG i]++caps) σ1.heap σ1.ids (DK (fun _ _ _=>none) fun _ H L=>vp σ i H L k)) none
   | none=>none
  | none=>none
 | _,_,_=>none
def DU (i k r:Nat)(e:Ex)(σ:St)(K:AV→Heap→List Nat→Option R):Option R:=
 match qF i k r e σ with
 | some (v,H,L)=>K v H L
 | none=>none
def s8 (l:Nat)(k:Ex→St→Option R):Ex→St→Option R:=fun e σ=>match e with
 | .cL=>k (.exit wG) σ
 | .goto i=>cond (Nat.beq i l) (k .cL σ) none
 | .exit i=>cond (Nat.beq i wG) none (k (.exit i) σ)
 | .ret=>k .ret σ
 | .dB _=>none
def qo (k:Ex→St→Option R):Ex→St→Option R:=fun e σ=>match e with
 | .exit i=>cond (Nat.beq i wG) (k .cL σ) (k (.exit i) σ)
 | .ret=>k .ret σ
 | _=>none
def bY (P:Program)(C:Cons)(Sm:ko)(G:dM R)(n fid lf base:Nat)(od:List Nat)(rf:Option Nat):Bool→Code→St→(Ex→St→Option R)→Option R
 | _,.skip,σ,k=>k .cL σ
 | _,.region id ops draw,σ,k=>
  cond draw (Gz P C G ops (jR base id) σ k) (Ll P C G ops (jR base id) (List.range ops.size) σ k)
 | false,.seq x y,σ,k=>bY P C Sm G n fid lf base od rf false x σ fun e σ'=>match e with
  | .cL=>bY P C Sm G n fid lf base od rf false y σ' k
  | e=>k e σ'
 | true,.seq x y,σ,k=>match ld x with
  | some l=>match sumOf Sm base y σ with
   | some s=>cond (s.fits n fid od rf (some l)) (match s.shape.read σ with
    | some z=>(iter lf s.step z).bind fun r=>match r with
     | .inl y=>qo k (.exit s.JG) (s.out.Au y)
     | .inr y=>k .ret (s.ret.Au y)
    | none=>none) none
   | none=>zn lf (fun σ k'=>bY P C Sm G n fid lf base od rf false y σ (s8 l k')) σ (qo k)
  | none=>bY P C Sm G n fid lf base od rf false x σ fun e σ'=>match e with
   | .cL=>bY P C Sm G n fid lf base od rf true y σ' k
   | .goto _=>none
   | e=>k e σ'
 | _,.cond c x y,σ,k=>gA σ c (fun σ' b=>cond b (bY P C Sm G n fid lf base od rf false x σ' k) (bY P C Sm G n fid lf base od rf false y σ' k)) none
 | _,.block id x,σ,k=>bY P C Sm G n fid lf base od rf false x σ fun e σ'=>match e with
  | .exit i=>cond (Nat.beq i id) (k .cL σ') (k (.exit i) σ')
  | e=>k e σ'
 | _,.loop x,σ,k=>match sumOf Sm base x σ with
  | some s=>cond (s.fits n fid od rf none) (match s.shape.read (σ.dD s.dD) with
   | some z=>(iter lf s.step z).bind fun r=>match r with
    | .inl y=>k (.exit s.JG) (s.out.Au y)
    | .inr y=>k .ret (s.ret.Au y)
   | none=>none) none
  | none=>zn lf (bY P C Sm G n fid lf base od rf false x) σ k
 | _,.exit id,σ,k=>k (.exit id) σ
 | _,.label _,σ,k=>k .cL σ
 | _,.ret,σ,k=>k .ret σ
 | _,.rangeFunc g _ _ body,σ,k=>Cj P G base rf g body σ k
 | _,.scope x,σ,k=>cond (fE x) (bY P C Sm G n fid lf base od rf true x σ fun e σ'=>match e with
   | .goto _=>none
   | e=>k e σ') none
 | _,.goto l,σ,k=>k (.goto l) σ
 | _,_,_,_=>none
def yN (P:Program)(rs:List ResultVar)(σ:St)(k:AV→Heap→List Nat→Option R):Option R:=
 match cX P σ rs with
 | some vs=>k (eA vs) σ.heap σ.ids
 | none=>none
end
def QG (i k r:Nat){R:Type}(asn body:St→(Ex→St→Option R)→Option R)(σ:St)(K:AV→Heap→List Nat→Option R):Option R:=
 asn σ fun e σ1=>match e with
  | .cL=>match lJ i k r σ1 with
   | some σ2=>body σ2 fun e σ3=>DU i k r e σ3 K
   | none=>none
  | _=>none
def lz (P:Program)(C:Cons)(Sm:ko)(lf:Nat){R:Type}:Nat→dM R
 | 0=>fun _ _ _ _ _ _=>none
 | n+1=>fun base c as H L K=>match c with
  | .fn k=>match P.funcs[k]? with
   | some fn=>match fn.body with
    | some c=>cond (Nat.ble as.length fn.ntmps) (bY P C Sm (lz P C Sm lf n) n k lf (Nat.succ base * 4294967296) L (some k) false c ⟨fn.ntmps,dw as,H,L⟩ fun e σ=>match e with
     | .cL=>yN P fn.results.toList σ K
     | .ret=>yN P fn.results.toList σ K
     | .dB v=>K (.dB v) σ.heap σ.ids
     | _=>none) none
    | none=>none
   | none=>none
  | .fG i=>match rz P i as H L with
   | some (k,r,x,σ)=>QG i k r (bY P C Sm (lz P C Sm lf n) n k lf (Nat.succ base * 4294967296) L none false x.2.1) (bY P C Sm (lz P C Sm lf n) n k lf (Nat.succ base * 4294967296) L none false x.2.2) σ K
   | none=>none
def Cs (P:Program)(C:Cons)(Sm:ko)(lf n k:Nat)(ps:List Ty)(rs:List cO)(x:cC ps):Option (tg rs):=
 lz P C Sm lf n 0 (.fn k) (cj ps x) (fun _=>none) [] fun v H L=>e8 rs (some (v,H,L))
def aG.fY (s:aG):Ex→St→Option (R3 s.shape.X s.out.X s.ret.X)
 | .cL,σ=>match s.shape.read σ with
  | some x=>some (.next x)
  | none=>none
 | .exit i,σ=>cond (Nat.beq i s.JG) (match s.out.read σ with
  | some y=>some (.out y)
  | none=>none) none
 | .ret,σ=>match s.ret.read σ with
  | some y=>some (.ret y)
  | none=>none
 | _,_=>none
def aG.vI (s:aG):Ex→St→Option (R3 s.shape.X s.out.X s.ret.X):=
 match s.lab with
 | none=>s.fY
 | some l=>s8 l s.fY
def fh (P:Program)(C:Cons)(Sm:ko)(lf:Nat):Prop:=
 ∀ base r σ s,Sm base r σ=some s→∀ fn c x,P.funcs[s.k]? = some fn→fn.body=some c→x∈aJ c→bB x=some r →
  ∀ z,Le (s.step z) (bY P C Sm (lz P C Sm lf s.n) s.n s.k lf base s.od s.rf false x (s.shape.Au z) s.vI)
theorem Jt {α:Type}(f:Nat→α)(i:Nat)(v:α)(h:f i=v):aM f i v=f:=by
 funext n
 by_cases e:n=i
 ·subst e;rw[au,h]
 ·rw[ax _ _ e]
theorem om {σ:St}{d:Nat}{v:AV}(h:σ.tmps d=v):σ.Fi d v=σ:=by
 unfold St.Fi;rw[Jt _ _ _ h]
section
variable {R:Type}{P:Program}{C:Cons}
theorem iD (σ:St)(H:Heap)(L:List Nat)(dst:Option Tmp)(v:AV)(k:St→Option R):jQ σ H L dst v k=((⟨σ.nt,σ.tmps,H,L⟩:St).put dst v).bind k:=by
 cases dst with
 | none=>rfl
 | some d=>
  simp only[jQ,St.put]
  cases kY d σ.nt<;>rfl
theorem uR (σ:St)(id:Nat)(dst:Option Tmp)(e:AM)(k:St→List Nat→Option R) :
  kg σ id dst e k=(σ.zA id dst e).bind fun σ'=>k σ' (cond e.new (e.sets.map (·.1)) []):=by
 unfold kg St.zA
 cases (e.new && !(bf σ.heap e.sets&&cV id e.sets)) with
 | true=>rfl
 | false=>simp only[cond_false];exact iD _ _ _ _ _ _
theorem kT {σ:St}{x:Operand}{c:Bool}(h:σ.val x = .lit (.bool c))(k:St→Bool→Option R)(skip:Option R):gA σ x k skip=k σ c:=by
 unfold gA
 rw[h]
 cases x with
 | tmp d=>
  have hd:σ.tmps d = .lit (.bool c):=by
   simp only[St.val] at h
   cases hl:kY d σ.nt with
   | true=>rw[hl] at h;exact h
   | false=>rw[hl] at h;simp at h
  cases c
  ·simp only[cond_false];rw[om hd]
  ·simp only[cond_true];rw[om hd]
 | const v=>cases c<;>rfl
 | global g=>cases c<;>rfl
 | func f=>cases c<;>rfl
def fJ (F:gv)(G:dM R):Prop:=∀ base k as H L (K:AV→Heap→List Nat→Option R),Le (G base k as H L K) ((F base k as H L).bind fun p=>K p.1 p.2.1 p.2.2)
def dm (P:Program)(C:Cons)(F:gv)(Hh:Heap)(id:Nat)(o:Oper)(σ:St):Option (Sum (AV×Heap×List Nat) (St×List Nat)):=
 match bz P C Hh id o σ.val with
 | some e=>(σ.zA id o.dst e).map fun σ'=>.inr (σ',cond e.new (e.sets.map (·.1)) [])
 | none=>match dn P C F Hh id o σ.val σ.heap σ.ids with
  | some (.dB x,H',L')=>some (.inl (x,H',L'))
  | some (v,H',L')=>((⟨σ.nt,σ.tmps,H',L'⟩:St).put o.dst v).map fun σ'=>.inr (σ',[])
  | none=>none
def Cr (P:Program)(C:Cons)(F:gv)(Hh:Heap)(id:Nat)(o:Oper)(σ:St):Option (Sum (AV×Heap×List Nat) (St×List Nat)):=
 match o.op with
 | .panic x=>match σ.val x with
  | .wL t v=>some (.inl (.wL t v,σ.heap,σ.ids))
  | _=>none
 | _=>dm P C F Hh id o σ
def iV (kp:AV→Heap→List Nat→Option R)(k:St→List Nat→Option R):Sum (AV×Heap×List Nat) (St×List Nat)→Option R
 | .inl p=>kp p.1 p.2.1 p.2.2
 | .inr p=>k p.1 p.2
theorem eT {α β γ δ:Type}(a:Option α)(f:α→β)(k:α→β→Option γ)(J:Sum δ (α×β)→Option γ)(hJ:∀ p,J (.inr p)=k p.1 p.2):((a.map fun x=>.inr (x,f x)).bind J)=a.bind fun x=>k x (f x):=by
 cases a with
 | none=>rfl
 | some x=>exact hJ _
theorem D0 {F:gv}{G:dM R}(hG:fJ F G)(Hh:Heap)(id:Nat)(o:Oper)(σ:St)(kp:AV→Heap→List Nat→Option R)(k:St→List Nat→Option R) :
  Le (Je P C G Hh id o σ kp k) ((dm P C F Hh id o σ).bind (iV kp k)):=by
 have effE:∀ e,bz P C Hh id o σ.val=some e→Le (kg σ id o.dst e k) ((dm P C F Hh id o σ).bind (iV kp k)):=by
  intro e he
  unfold dm
  rw[he]
  refine Le.of_eq ?_
  rw[uR]
  exact (eT (σ.zA id o.dst e) (fun _=>cond e.new (e.sets.map (·.1)) []) k (iV kp k) fun _=>rfl).symm
 cases hz:i7 C id o with
 | true=>
  unfold Je
  rw[hz]
  simp only[cond_true]
  cases hv:jh P id o σ.val with
  | none=>exact Le.none _
  | some p=>
   obtain⟨c,v⟩:=p
   cases c with
   | false=>exact Le.none _
   | true=>
    have he:bz P C Hh id o σ.val=some ⟨[],false,v⟩:=by unfold bz;rw[hz,hv];rfl
    exact (Le.of_eq (by rw[uR];exact iD σ σ.heap σ.ids o.dst v fun σ'=>k σ' [])).trans (effE _ he)
 | false=>
 have e0:bz P C Hh id o σ.val=bA P C Hh id o σ.val:=by unfold bz;rw[hz];rfl
 rw[e0] at effE
 have gen:∀ (s:Option Out),sem P Hh id o σ.val=s→Le (match s with
   | some (.val c v)=>cond c (jQ σ σ.heap σ.ids o.dst v fun σ'=>k σ' []) none
   | some (.new c i ob v)=>cond c (kg σ id o.dst ⟨[(i,ob)],true,v⟩ k) none
   | some (.wr c i ob v)=>cond c (kg σ id o.dst ⟨[(i,ob)],false,v⟩ k) none
   | some (.Kw c i ob v u)=>cond c (kg σ id o.dst ⟨[(i,ob)],false,v⟩ k) (kg σ id o.dst ⟨[],false,u⟩ k)
   | some (.call kk as)=>match fy C o kk with
    | some u=>EU u Hh as fun i ob v=>kg σ id o.dst ⟨[(i,ob)],false,v⟩ k
    | none=>match ov C kk with
    | some kG=>match xF P o,bU (fA kG Hh) kG.ps as with
     | true,some x=>(kG.f x).bind fun y=>kg σ id o.dst ⟨fz kG.rs y id,true,eA (nB kG.rs y id)⟩ k
     | _,_=>none
    | none=>G id kk as σ.heap σ.ids (DK kp fun v H' L'=>jQ σ H' L' o.dst v fun σ'=>k σ' [])
   | none=>none) ((dm P C F Hh id o σ).bind (iV kp k)):=by
  intro s hs
  cases s with
  | none=>exact Le.none _
  | some out=>
   cases out with
   | val c v=>
    cases c with
    | true=>
     have he:bA P C Hh id o σ.val=some ⟨[],false,v⟩:=by unfold bA;rw[hs];rfl
     exact (Le.of_eq (by rw[uR];exact iD σ σ.heap σ.ids o.dst v fun σ'=>k σ' [])).trans (effE _ he)
    | false=>exact Le.none _
   | new c i ob v=>
    cases c with
    | true=>
     have he:bA P C Hh id o σ.val=some ⟨[(i,ob)],true,v⟩:=by unfold bA;rw[hs];rfl
     exact effE _ he
    | false=>exact Le.none _
   | Kw c i ob v u=>
    cases c with
    | true=>
     have he:bA P C Hh id o σ.val=some ⟨[(i,ob)],false,v⟩:=by unfold bA;rw[hs];rfl
     exact effE _ he
    | false=>
     have he:bA P C Hh id o σ.val=some ⟨[],false,u⟩:=by unfold bA;rw[hs];rfl
     exact effE _ he
   | wr c i ob v=>
    cases c with
    | true=>
     have he:bA P C Hh id o σ.val=some ⟨[(i,ob)],false,v⟩:=by unfold bA;rw[hs];rfl
     exact effE _ he
    | false=>exact Le.none _
   | call kk as=>
    cases hu:fy C o kk with
    | some u=>
     simp only[hu]
     rw[LL]
     cases ho:fQ u Hh as with
     | none=>exact Le.none _
     | some q=>
      obtain⟨i,ob,v⟩:=q
      simp only
      have he:bA P C Hh id o σ.val=some ⟨[(i,ob)],false,v⟩:=by unfold bA;rw[hs];simp only[hu,ho]
      exact effE _ he
    | none=>
    simp only[hu]
    cases hc:ov C kk with
    | none=>
     have he:bA P C Hh id o σ.val=none:=by unfold bA;rw[hs];simp only[hu,hc];split<;>simp_all
     have hi:dn P C F Hh id o σ.val σ.heap σ.ids=F id kk as σ.heap σ.ids:=by unfold dn;rw[hs];simp only[hc]
     unfold dm
     rw[e0,he,hi]
     simp only[hc]
     refine (hG _ _ _ _ _ _).trans (Le.of_eq ?_)
     cases F id kk as σ.heap σ.ids with
     | none=>rfl
     | some p=>
      obtain⟨v,H',L'⟩:=p
      cases v with
      | dB x=>rfl
      | _=>
       simp only[Option.bind_some,DK,iD]
       exact (eT _ (fun _=>[]) k (iV kp k) fun _=>rfl).symm
    | some kG=>
     have he:bA P C Hh id o σ.val=match xF P o with
      | true=>rC kG Hh id as
      | false=>none:=by unfold bA;rw[hs];simp only[hu,hc];cases xF P o<;>rfl
     simp only[hc]
     cases hr:xF P o with
     | false=>exact Le.none _
     | true=>
      rw[hr] at he
      cases hd:bU (fA kG Hh) kG.ps as with
      | none=>exact Le.none _
      | some x=>
       cases hf:kG.f x with
       | none=>simp only[hf];exact Le.none _
       | some y=>
        simp only[rC,hd,hf] at he
        simp only[hf]
        exact effE _ he
 unfold Je
 rw[hz]
 exact gen _ rfl
theorem Mm {F:gv}{G:dM R}(hG:fJ F G)(Hh:Heap)(id:Nat)(o:Oper)(σ:St)(kp:AV→Heap→List Nat→Option R)(k:St→List Nat→Option R) :
  Le (GR P C G Hh id o σ kp k) ((Cr P C F Hh id o σ).bind (iV kp k)):=by
 unfold GR
 have other:(∀ x,o.op ≠ .panic x)→Cr P C F Hh id o σ=dm P C F Hh id o σ:=by
  intro h
  unfold Cr
  split
  ·rename_i y hop;exact absurd hop (h y)
  ·rfl
 split
 ·rename_i x hop
  unfold Cr
  simp only[hop]
  cases σ.val x with
  | wL t v=>exact Le.refl _
  | _=>exact Le.none _
 ·rename_i c a b hop
  obtain⟨dst,op,ty,pos,af,gd⟩:=o
  simp only at hop
  subst hop
  have hX:Cr P C F Hh id ⟨dst,.pick c a b,ty,pos,af,gd⟩ σ=dm P C F Hh id ⟨dst,.pick c a b,ty,pos,af,gd⟩ σ:=rfl
  rw[hX]
  cases hv:σ.val c with
  | lit x=>
   cases x with
   | bool t=>
    rw[kT hv]
    have he:bz P C Hh id ⟨dst,.pick c a b,ty,pos,af,gd⟩ σ.val=some ⟨[],false,cond t (σ.val a) (σ.val b)⟩:=by
     simp only[bz,bA,i7,Bool.and_false,cond_false,sem,hv];rfl
    unfold dm
    rw[he]
    refine Le.of_eq ?_
    rw[iD]
    exact (eT _ (fun _=>[]) k (iV kp k) fun _=>rfl).symm
   | _=>simp only[gA,hv];exact Le.none _
  | _=>simp only[gA,hv];exact Le.none _
 ·rename_i t x y hop
  rw[other (by rw[hop];simp)]
  split
  ·rename_i j off n sz i hfk
   intro r hr
   obtain⟨q,h1,h2,h3⟩:=kU n 0 _ hr
   unfold Ko at hfk
   split at hfk
   case h_2=>simp at hfk
   rename_i j' off' kk i' hx hy
   split at hfk
   case h_2=>simp at hfk
   rename_i n' el ht
   split at hfk
   case h_2=>simp at hfk
   rename_i inf hinf
   cases hfk
   have hq:(decide (0≤i)&&decide (i<(n:Int)))=true:=by
    rw[h2];simp;omega
   have ht2:i.toNat=q:=by rw[h2];simp
   have hs:sem P Hh id o σ.val=some (.val true (.ptr j (off+q * inf.size))):=by
    unfold sem
    rw[hop]
    simp only[hx,hy,yT,ht,hinf,hq,ht2]
   have hz:i7 C id o=false:=by unfold i7;rw[hop];simp
   have he:bz P C Hh id o σ.val=some ⟨[],false,.ptr j (off+q * inf.size)⟩:=by unfold bz bA;rw[hz,hs];rfl
   unfold dm
   rw[he]
   rw[iD] at h3
   exact (eT _ (fun _=>[]) k (iV kp k) fun _=>rfl).trans h3
  ·exact D0 hG Hh id o σ kp k
 ·rename_i h1 h2 h3
  rw[other fun y hy=>h1 y hy]
  exact D0 hG Hh id o σ kp k
def Di (P:Program)(C:Cons)(F:gv)(ops:Array Oper)(hide:Heap→Heap)(id i:Nat)(σ:St)(kp:AV→Heap→List Nat→Option R)(k:St→List Nat→Option R):Option R:=
 match dA P C F ops hide id i σ with
 | some (x,H',L')=>kp x H' L'
 | none=>(ez P C F ops hide id i σ).bind fun σ'=>k σ' (cU P C ops (hide σ.heap) id i σ)
theorem LD {F:gv}{ops:Array Oper}{hide:Heap→Heap}{id i:Nat}{o:Oper}{σ:St}(ho:ops[i]? = some o)(hw:want ops σ o=some true)(kp:AV→Heap→List Nat→Option R)(k:St→List Nat→Option R) :
  (Cr P C F (hide σ.heap) id o σ).bind (iV kp k)=Di P C F ops hide id i σ kp k:=by
 unfold Di dA ez cU Cr
 simp only[ho,hw]
 cases hop:o.op with
 | panic x=>
  simp only
  cases hv:σ.val x with
  | wL t v=>rfl
  | _=>
   have hs:sem P (hide σ.heap) id o σ.val=none:=by unfold sem;rw[hop]
   have hz:i7 C id o=false:=by unfold i7;rw[hop];simp
   have h1:bz P C (hide σ.heap) id o σ.val=none:=by unfold bz bA;rw[hz,hs];rfl
   have h2:dn P C F (hide σ.heap) id o σ.val σ.heap σ.ids=none:=by unfold dn;rw[hs]
   simp only[h1,h2]
   rfl
 | _=>
  simp only[dm]
  cases he:bz P C (hide σ.heap) id o σ.val with
  | some e=>exact eT _ (fun _=>cond e.new (e.sets.map (·.1)) []) k (iV kp k) fun _=>rfl
  | none=>
   simp only
   cases hi:dn P C F (hide σ.heap) id o σ.val σ.heap σ.ids with
   | none=>rfl
   | some p=>
    obtain⟨v,H',L'⟩:=p
    cases v with
    | dB x=>rfl
    | _=>exact eT _ (fun _=>[]) k (iV kp k) fun _=>rfl
theorem Oz {F:gv}{ops:Array Oper}{hide:Heap→Heap}{id i:Nat}{o:Oper}{σ:St}(ho:ops[i]? = some o)(hw:want ops σ o=some false)(kp:AV→Heap→List Nat→Option R)(k:St→List Nat→Option R) :
  (jQ σ σ.heap σ.ids o.dst (.lit undef) fun σ'=>k σ' [])=Di P C F ops hide id i σ kp k:=by
 unfold Di dA ez cU
 simp only[ho,hw]
 exact iD _ _ _ _ _ _
theorem oG {F:gv}{G:dM R}(hG:fJ F G)(ops:Array Oper)(hide:Heap→Heap)(id i:Nat)(σ:St)(kp:AV→Heap→List Nat→Option R)(k:St→List Nat→Option R) :
  Le (MR P C G ops hide id i σ kp k) (Di P C F ops hide id i σ kp k):=by
 unfold MR
 cases ho:ops[i]? with
 | none=>unfold Di dA ez cU;simp only[ho];exact Le.refl _
 | some o=>
  simp only
  have yes:want ops σ o=some true→Le (GR P C G (hide σ.heap) id o σ kp k) (Di P C F ops hide id i σ kp k):=fun hw=>
   (Mm hG _ _ _ _ _ _).trans (Le.of_eq (LD ho hw kp k))
  have noo:want ops σ o=some false→Le (jQ σ σ.heap σ.ids o.dst (.lit undef) fun σ'=>k σ' []) (Di P C F ops hide id i σ kp k):=fun hw=>
   Le.of_eq (Oz ho hw kp k)
  cases hg:o.guard with
  | none=>
   exact yes (by unfold want;rw[hg])
  | some p=>
   obtain⟨j,b⟩:=p
   simp only
   cases hj:ops[j]? with
   | none=>exact noo (by unfold want;simp only[hg,hj])
   | some g=>
    simp only
    cases hd:g.dst with
    | none=>exact noo (by unfold want;simp only[hg,hj,hd])
    | some d=>
     simp only
     cases hv:σ.val (.tmp d) with
     | lit x=>
      cases x with
      | bool c=>
       rw[kT hv]
       have hw:want ops σ o=some (c == b):=by unfold want;simp only[hg,hj,hd,hv]
       cases hcb:c == b with
       | true=>exact yes (by rw[hw,hcb])
       | false=>exact noo (by rw[hw,hcb])
      | tuple vs=>
       have hw:want ops σ o=some false:=by unfold want;simp only[hg,hj,hd,hv]
       have:∀ kk z,gA (R:=R) σ (.tmp d) kk z=z:=by intro kk z;unfold gA;rw[hv]
       rw[this];exact noo hw
      | _=>simp only[gA,hv];exact Le.none _
     | _=>simp only[gA,hv];exact Le.none _
theorem Ea {F:gv}{G:dM R}(hG:fJ F G)(ops:Array Oper)(base:Nat):∀ (l:List Nat) (σ:St) (k:Ex→St→Option R),Le (Ll P C G ops base l σ k) ((jW P C F ops base l σ).bind fun p=>k p.1 p.2)
 | [],σ,k=>Le.refl _
 | i::l,σ,k=>by
  simp only[Ll,jW]
  refine (oG hG _ _ _ _ _ _ _).trans ?_
  unfold Di
  cases dA P C F ops (fun H=>H) (base+i * 16) i σ with
  | some p=>exact Le.refl _
  | none=>
   simp only
   cases ez P C F ops (fun H=>H) (base+i * 16) i σ with
   | none=>exact Le.none _
   | some σ'=>exact Ea hG ops base l _ k
theorem ow (ops:Array Oper)(m:List Nat)(W:List (Option Nat))(base:Nat):∀ (l L:List Nat) (σ:St) (k:St→Option R),Le (Na P C ops m W base l L σ k) ((cE P C ops m W base l σ).bind fun σ'=>k (σ'.ay (L++cY P C ops m W base l σ)))
 | [],L,σ,k=>by simp only[Na,cE,cY,List.append_nil,Option.bind_some];exact Le.refl _
 | i::l,L,σ,k=>by
  simp only[Na,cE,sE,cY]
  cases iI P C ops m W i σ with
  | false=>exact Le.none _
  | true=>
  simp only[cond_true]
  refine (oG (F:=cW) (fun _ _ _ _ _ _=>Le.none _) _ _ _ _ _ _ _).trans ?_
  unfold Di
  split
  ·exact Le.none _
  cases ez P C cW ops (bK base ops.size (m.getD i 0) (k7 m W ops.size i)) (base+i * 16) i σ with
  | none=>exact Le.none _
  | some σ'=>
   refine (ow ops m W base l _ σ' k).trans (Le.of_eq ?_)
   simp only[List.append_assoc]
theorem HK (ops:Array Oper)(base:Nat)(σ:St)(k:St→Option R):Le (Jf P C ops base σ k) ((pp P C ops base σ).bind k):=by
 unfold Jf pp
 cases bE P C ops (aA ops) with
 | false=>exact Le.none _
 | true=>
  refine (ow ops (aA ops) (kz P C ops (aA ops) base σ) base (List.range ops.size) [] σ k).trans (Le.of_eq ?_)
  simp only[List.nil_append,cond_true]
  cases cE P C ops (aA ops) (kz P C ops (aA ops) base σ) base (List.range ops.size) σ<;>rfl
theorem yL {F:gv}{G:dM R}(hG:fJ F G)(ops:Array Oper)(base z:Nat)(σ:St)(k:Ex→St→Option R):Le (Dr P C G ops base z σ k) ((jC P C F ops base z σ).bind fun p=>k p.1 p.2):=by
 unfold Dr jC
 refine (oG hG _ _ _ _ _ _ _).trans ?_
 unfold Di
 cases dA P C F ops (fun H=>H) (base+z * 16) z σ with
 | some p=>exact Le.refl _
 | none=>
  simp only
  cases ez P C F ops (fun H=>H) (base+z * 16) z σ with
  | none=>exact Le.none _
  | some σ'=>exact Le.refl _
theorem FJ {F:gv}{G:dM R}(hG:fJ F G)(ops:Array Oper)(base:Nat)(σ:St)(k:Ex→St→Option R):Le (AP P C G ops base σ k) ((ke P C F ops base σ).bind fun p=>k p.1 p.2):=by
 unfold AP ke
 cases rI C ops (aA ops) with
 | none=>
  simp only
  refine (HK _ _ _ _).trans (Le.of_eq ?_)
  cases pp P C ops base σ<;>rfl
 | some z=>
  simp only
  cases bE P C ops (aA ops) with
  | false=>exact Le.none _
  | true=>
   simp only[cond_true]
   refine (ow ops (aA ops) (kz P C ops (aA ops) base σ) base (List.range z) [] σ _).trans ?_
   cases cE P C ops (aA ops) (kz P C ops (aA ops) base σ) base (List.range z) σ with
   | none=>exact Le.none _
   | some σ1=>
    simp only[List.nil_append,Option.bind_some]
    exact yL hG _ _ _ _ _
theorem wz (ops:Array Oper)(m:List Nat)(W:List (Option Nat))(base z:Nat):∀ (l L:List Nat) (σ:St) (k:St→Option R),Le (QW P C ops m W base z l L σ k) ((oI P C ops m W base z l σ).bind fun σ'=>k (σ'.ay (L++gx P C ops m W base z l σ)))
 | [],L,σ,k=>by simp only[QW,oI,gx,List.append_nil,Option.bind_some];exact Le.refl _
 | i::l,L,σ,k=>by
  have h0:=ow (R:=R) (P:=P) (C:=C) ops m W base [i] [] σ
  simp only[QW,oI,gx]
  unfold sE
  cases iI P C ops m W i σ with
  | false=>exact Le.none _
  | true=>
   simp only[cond_true]
   refine (oG (F:=cW) (fun _ _ _ _ _ _=>Le.none _) _ _ _ _ _ _ _).trans ?_
   unfold Di
   cases hp:dA P C cW ops (bK base ops.size (m.getD i 0) (k7 m W ops.size i)) (base+i * 16) i σ with
   | some p=>exact Le.none _
   | none=>
    simp only
    cases hop:ez P C cW ops (bK base ops.size (m.getD i 0) (k7 m W ops.size i)) (base+i * 16) i σ with
    | none=>exact Le.none _
    | some σ'=>
     simp only[Option.bind_some]
     cases oe m z i with
     | true=>
      simp only[cond_true]
      cases pX ops i σ σ' with
      | false=>exact Le.none _
      | true=>exact wz ops m W base z l L σ k
     | false=>
      simp only[cond_false]
      rw[← List.append_assoc]
      exact wz ops m W base z l _ σ' k
theorem KN {F:gv}{G:dM R}(hG:fJ F G)(ops:Array Oper)(base z:Nat)(σ:St)(k:Ex→St→Option R):Le (PC P C G ops base z σ k) ((zU P C F ops base z σ).bind fun p=>k p.1 p.2):=by
 unfold PC zU
 cases bE P C ops (aA ops) with
 | false=>exact Le.none _
 | true=>
  simp only[cond_true]
  refine (ow ops (aA ops) (kz P C ops (aA ops) base σ) base (cS (aA ops) z ops.size) [] σ _).trans ?_
  cases cE P C ops (aA ops) (kz P C ops (aA ops) base σ) base (cS (aA ops) z ops.size) σ with
  | none=>exact Le.none _
  | some σ1=>
   simp only[List.nil_append,Option.bind_some]
   unfold rW
   refine (oG hG _ _ _ _ _ _ _).trans ?_
   unfold Di
   split
   ·rename_i p hp
    rw[hp];exact Le.refl _
   ·rename_i hp
    rw[hp]
    simp only
    cases ez P C F ops (fun H=>H) (base+z * 16) z (σ1.ay (cY P C ops (aA ops) (kz P C ops (aA ops) base σ) base (cS (aA ops) z ops.size) σ)) with
    | none=>exact Le.none _
    | some σ2=>
     simp only[Option.bind_some]
     refine (wz ops (aA ops) _ base z _ _ _ _).trans ?_
     simp only[List.nil_append]
     split
     ·rename_i h;rw[h];exact Le.refl _
     ·rename_i h;rw[h];exact Le.none _
theorem JS {F:gv}{G:dM R}(hG:fJ F G)(ops:Array Oper)(base z z2:Nat)(σ:St)(k:Ex→St→Option R):Le (Jy P C G ops base z z2 σ k) ((ry P C F ops base z z2 σ).bind fun p=>k p.1 p.2):=by
 unfold Jy ry
 cases bE P C ops (aA ops) with
 | false=>exact Le.none _
 | true=>
  simp only[cond_true]
  refine (ow ops (aA ops) (kz P C ops (aA ops) base σ) base (cS (aA ops) z ops.size) [] σ _).trans ?_
  cases cE P C ops (aA ops) (kz P C ops (aA ops) base σ) base (cS (aA ops) z ops.size) σ with
  | none=>exact Le.none _
  | some σ1=>
   simp only[List.nil_append,Option.bind_some]
   unfold mY
   refine (oG hG _ _ _ _ _ _ _).trans ?_
   unfold Di
   split
   ·rename_i p hp
    rw[hp];exact Le.refl _
   ·rename_i hp
    rw[hp]
    simp only
    cases ez P C F ops (fun H=>H) (base+z * 16) z (σ1.ay (cY P C ops (aA ops) (kz P C ops (aA ops) base σ) base (cS (aA ops) z ops.size) σ)) with
    | none=>exact Le.none _
    | some σ2=>
     simp only[Option.bind_some]
     refine (wz ops (aA ops) _ base z _ _ _ _).trans ?_
     simp only[List.nil_append]
     split
     ·rename_i h;rw[h];exact yL hG _ _ _ _ _
     ·rename_i h;rw[h];exact Le.none _
theorem tT {F:gv}{G:dM R}(hG:fJ F G)(ops:Array Oper)(base:Nat)(σ:St)(k:Ex→St→Option R):Le (wU P C G ops base σ k) ((eL P C F ops base σ).bind fun p=>k p.1 p.2):=by
 unfold wU eL
 cases G3 C ops (aA ops) with
 | some p=>exact JS hG _ _ _ _ _ _
 | none=>
  simp only
  cases Kk C ops (aA ops) with
  | some z=>exact KN hG _ _ _ _ _
  | none=>exact FJ hG _ _ _ _
theorem nQ {F:gv}{G:dM R}(hG:fJ F G)(ops:Array Oper)(base:Nat)(σ:St)(k:Ex→St→Option R):Le (qY P C G ops base σ k) ((fD P C F ops base σ).bind fun p=>k p.1 p.2):=by
 unfold qY fD
 cases En P ops σ ops.toList 0 with
 | some j=>
  simp only
  refine (tT hG _ _ _ _).trans (Le.of_eq ?_)
  cases eL P C F ops base σ<;>rfl
 | none=>exact tT hG _ _ _ _
theorem Gu {F:gv}{G:dM R}(hG:fJ F G)(ops:Array Oper)(base:Nat)(σ:St)(k:Ex→St→Option R):Le (Gz P C G ops base σ k) ((fD P C F ops base σ).bind fun p=>k p.1 p.2):=by
 unfold Gz
 split
 ·split
  ·rename_i d n _ _ kk i hd
   intro r hr
   obtain⟨q,h1,h2,h3⟩:=kU n 0 _ hr
   have:σ.Fi d (.lit (.int kk (q:Int)))=σ:=om (by rw[hd,h2])
   rw[this] at h3
   exact nQ hG ops base σ k r h3
  ·exact nQ hG ops base σ k
 ·exact nQ hG ops base σ k
theorem rS {f:St→Option (Ex×St)}{g:St→(Ex→St→Option R)→Option R}(h:∀ σ k,Le (g σ k) ((f σ).bind fun p=>k p.1 p.2)) :
  ∀ (n:Nat) (σ:St) (k:Ex→St→Option R),Le (zn n g σ k) ((bP n f σ).bind fun p=>k p.1 p.2)
 | 0,σ,k=>Le.refl _
 | n+1,σ,k=>by
  simp only[zn,bP]
  refine (h _ _).trans ?_
  cases f σ with
  | none=>exact Le.none _
  | some p=>
   obtain⟨e,σ'⟩:=p
   cases e with
   | cL=>exact rS h n σ' k
   | dB v=>exact Le.none _
   | _=>exact Le.refl _
def aG.fin (s:aG):Sum s.out.X s.ret.X→Ex×St
 | .inl y=>(.exit s.JG,s.out.Au y)
 | .inr y=>(.ret,s.ret.Au y)
theorem CH {s:aG}{od:List Nat}(h1:s.od=od)(h2:s.out.od.map (·.1)=od)(h3:s.ret.od.map (·.1)=od){f:St→Option (Ex×St)}
  (hf:∀ z,Le (s.step z) ((f (s.shape.Au z)).bind fun p=>s.fY p.1 p.2)):∀ (n:Nat) (σ:St) (z:s.shape.X),s.shape.read σ=some z →
  Le ((iter n s.step z).map s.fin) (jj od (some s.lh) (bP n (cx od (some s.lh) f) σ))
 | 0,σ,z,_=>Le.none _
 | n+1,σ,z,hr=>by
  have hh:=ai.oq hr
  have hod:s.shape.od.map (·.1)=od:=h1
  rw[hod] at hh
  have hR:cx od (some s.lh) f σ=f (s.shape.Au z):=by
   simp only[cx,aG.lh,hh]
  simp only[iter,bP,hR]
  cases hs:s.step z with
  | none=>exact Le.none _
  | some r=>
   have:=hf z r hs
   cases hfe:f (s.shape.Au z) with
   | none=>rw[hfe] at this;simp at this
   | some p=>
    obtain⟨e,σ'⟩:=p
    rw[hfe] at this
    simp only[Option.bind_some] at this
    cases e with
    | cL=>
     simp only[aG.fY] at this
     split at this
     ·rename_i x hx
      cases this
      exact CH h1 h2 h3 hf n σ' x hx
     ·simp at this
    | dB v=>simp[aG.fY] at this
    | exit i=>
     simp only[aG.fY] at this
     obtain⟨hi,this⟩:=cF this
     split at this
     ·rename_i y hy
      cases this
      have hy':=ai.oq hy
      rw[h2] at hy'
      intro q hq
      simp only[jj,aG.lh,hy']
      simp only[Option.map_some,aG.fin,Option.some.injEq] at hq
      rw[← hq,Nat.eq_of_beq_eq_true hi]
     ·simp at this
    | ret=>
     simp only[aG.fY] at this
     split at this
     ·rename_i y hy
      cases this
      have hy':=ai.oq hy
      rw[h3] at hy'
      intro q hq
      simp only[jj,aG.lh,hy']
      simp only[Option.map_some,aG.fin,Option.some.injEq] at hq
      rw[← hq]
     ·simp at this
    | goto l=>simp[aG.fY] at this
end
section
variable {P:Program}{C:Cons}{Sm:ko}{lf:Nat}
theorem si {base:Nat}{x:Code}{σ:St}:hintOf (aS Sm) base x σ=(sumOf Sm base x σ).map aG.lh:=by
 unfold hintOf sumOf aS
 cases bB x with
 | none=>rfl
 | some r=>simp only;cases Sm base r σ<;>rfl
theorem Ba {R:Type}(σ:St)(i:Nat)(H:Heap)(L:List Nat)(k:Ex→St→Option R):vp σ i H L k=(js σ i H L).bind fun p=>k p.1 p.2:=by
 unfold vp js
 split<;>simp_all
theorem EW {R:Type}{F:gv}{G:dM R}(hG:fJ F G)(base:Nat)(rf:Option Nat)(g:Operand)(body:Code)(σ:St)(k:Ex→St→Option R) :
  Le (Cj P G base rf g body σ k) ((eE P F base rf g body σ).bind fun p=>k p.1 p.2):=by
 unfold Cj eE
 split
 ·rename_i fid kk first caps r hg hr
  simp only[hg,hr]
  cases cI P fid r with
  | none=>exact Le.none _
  | some x=>
   simp only
   cases F5 σ base fid r x with
   | none=>exact Le.none _
   | some p=>
    obtain⟨σ1,i⟩:=p
    simp only
    cases gp P kk with
    | false=>exact Le.none _
    | true=>
     simp only[cond_true]
     refine (hG _ _ _ _ _ _).trans ?_
     cases F (i+1) (.fn kk) (first++[.fG i]++caps) σ1.heap σ1.ids with
     | none=>exact Le.none _
     | some q=>
      obtain⟨v,H,L⟩:=q
      cases v with
      | dB x=>exact Le.none _
      | _=>exact Le.of_eq (Ba _ _ _ _ _)
 ·exact Le.none _
theorem bC:∀ (c:Code) (x:b6),x∈aV c→(∀ z∈aJ x.2.1,z∈aJ c)∧∀ z∈aJ x.2.2,z∈aJ c
 | .seq a b,x,h=>by
  simp only[aV,List.mem_append] at h
  rcases h with h|h
  ·obtain⟨h1,h2⟩:=bC a x h
   exact⟨fun z hz=>by simp[aJ,h1 z hz],fun z hz=>by simp[aJ,h2 z hz]⟩
  ·obtain⟨h1,h2⟩:=bC b x h
   exact⟨fun z hz=>by simp[aJ,h1 z hz],fun z hz=>by simp[aJ,h2 z hz]⟩
 | .scope a,x,h=>by
  obtain⟨h1,h2⟩:=bC a x h
  exact⟨fun z hz=>h1 z hz,fun z hz=>h2 z hz⟩
 | .cond _ a b,x,h=>by
  simp only[aV,List.mem_append] at h
  rcases h with h|h
  ·obtain⟨h1,h2⟩:=bC a x h
   exact⟨fun z hz=>by simp[aJ,h1 z hz],fun z hz=>by simp[aJ,h2 z hz]⟩
  ·obtain⟨h1,h2⟩:=bC b x h
   exact⟨fun z hz=>by simp[aJ,h1 z hz],fun z hz=>by simp[aJ,h2 z hz]⟩
 | .block _ a,x,h=>by
  obtain⟨h1,h2⟩:=bC a x h
  exact⟨fun z hz=>h1 z hz,fun z hz=>h2 z hz⟩
 | .loop a,x,h=>by
  obtain⟨h1,h2⟩:=bC a x h
  exact⟨fun z hz=>by simp[aJ,h1 z hz],fun z hz=>by simp[aJ,h2 z hz]⟩
 | .rangeFunc _ _ a b,x,h=>by
  simp only[aV,List.mem_singleton] at h
  subst h
  exact⟨fun z hz=>by simp[aJ,hz],fun z hz=>by simp[aJ,hz]⟩
 | .skip,x,h=>by simp[aV] at h
 | .region _ _ _,x,h=>by simp[aV] at h
 | .exit _,x,h=>by simp[aV] at h
 | .label _,x,h=>by simp[aV] at h
 | .ret,x,h=>by simp[aV] at h
 | .goto _,x,h=>by simp[aV] at h
 | .refuse _,x,h=>by simp[aV] at h
theorem yK {r:Nat}:∀ {l:List b6} {y:b6},rN r l=some y→y∈l
 | [],y,h=>by simp[rN] at h
 | z::l,y,h=>by
  simp only[rN] at h
  cases hz:b6.is z r with
  | true=>
   rw[hz] at h
   simp only[cond_true] at h
   cases hb:(l.any fun y=>b6.is y r) with
   | true=>rw[hb] at h;simp at h
   | false=>rw[hb] at h;simp only[cond_false,Option.some.injEq] at h;simp[h]
  | false=>rw[hz] at h;exact List.mem_cons_of_mem _ (yK h)
theorem BF {k r:Nat}{x:b6}(h:cI P k r=some x):∃ fn c,P.funcs[k]? = some fn∧fn.body=some c∧x∈aV c:=by
 unfold cI at h
 split at h
 ·rename_i fn hfn
  split at h
  ·rename_i c hc;exact⟨fn,c,hfn,hc,yK h⟩
  ·simp at h
 ·simp at h
theorem JJ {i:Nat}{as:List AV}{H:Heap}{L:List Nat}{k r:Nat}{x:b6}{σ:St}(h:rz P i as H L=some (k,r,x,σ)):cI P k r=some x:=by
 unfold rz at h
 split at h
 ·split at h
  ·rename_i hx
   obtain⟨_,e⟩:=ah h
   cases e
   exact hx
  ·simp at h
 ·simp at h
theorem KD {R:Type}{i k r:Nat}{asn body:St→(Ex→St→Option R)→Option R}{asn' body':St→Option (Ex×St)}(h1:∀ σ K,Le (asn σ K) ((asn' σ).bind fun p=>K p.1 p.2))
  (h2:∀ σ K,Le (body σ K) ((body' σ).bind fun p=>K p.1 p.2)) (σ:St) (K:AV→Heap→List Nat→Option R) :
  Le (QG i k r asn body σ K) ((tV i k r asn' body' σ).bind fun p=>K p.1 p.2.1 p.2.2):=by
 unfold QG tV
 refine (h1 _ _).trans ?_
 cases asn' σ with
 | none=>exact Le.none _
 | some p=>
  obtain⟨e,σ1⟩:=p
  cases e with
  | cL=>
   simp only[Option.bind_some]
   cases lJ i k r σ1 with
   | none=>exact Le.none _
   | some σ2=>
    simp only
    refine (h2 _ _).trans ?_
    cases body' σ2 with
    | none=>exact Le.none _
    | some q=>
     obtain⟨e,σ3⟩:=q
     simp only[Option.bind_some,DU]
     cases qF i k r e σ3<;>exact Le.refl _
  | _=>exact Le.none _
theorem bJ (hr:fh P C Sm lf){n fid base:Nat}{od:List Nat}{rf:Option Nat}(hG:∀ {R:Type},fJ (R:=R) (br P C (aS Sm) lf n) (lz P C Sm lf n))
  {fn:Func} {c0:Code} (hfn:P.funcs[fid]? = some fn) (hc0:fn.body=some c0) :
  ∀ {R:Type} (sc:Bool) (c:Code) (σ:St) (k:Ex→St→Option R),(∀ x∈aJ c,x∈aJ c0) →
   Le (bY P C Sm (lz P C Sm lf n) n fid lf base od rf sc c σ k) ((aB P C (aS Sm) (br P C (aS Sm) lf n) lf base od rf sc c σ).bind fun p=>k p.1 p.2)
 | R,sc,.skip,σ,k,_=>Le.refl _
 | R,sc,.region id ops draw,σ,k,_=>by
  simp only[bY,aB]
  cases draw with
  | true=>
   simp only[cond_true]
   exact Gu hG _ _ _ _
  | false=>
   simp only[cond_false]
   exact Ea hG _ _ _ _ _
 | R,false,.seq x y,σ,k,hl=>by
  simp only[bY,aB]
  refine (bJ hr hG hfn hc0 false x σ _ (fun z hz=>hl z (by simp[aJ,hz]))).trans ?_
  cases aB P C (aS Sm) (br P C (aS Sm) lf n) lf base od rf false x σ with
  | none=>exact Le.none _
  | some p=>
   obtain⟨e,σ'⟩:=p
   cases e with
   | cL=>exact bJ hr hG hfn hc0 false y σ' k (fun z hz=>hl z (by simp[aJ,hz]))
   | _=>exact Le.refl _
 | R,true,.seq x y,σ,k,hl=>by
  simp only[bY,aB]
  cases hx:ld x with
  | none=>
   simp only
   refine (bJ hr hG hfn hc0 false x σ _ (fun z hz=>hl z (by simp[aJ,hz]))).trans ?_
   cases aB P C (aS Sm) (br P C (aS Sm) lf n) lf base od rf false x σ with
   | none=>exact Le.none _
   | some p=>
    obtain⟨e,σ'⟩:=p
    cases e with
    | cL=>exact bJ hr hG hfn hc0 true y σ' k (fun z hz=>hl z (by simp[aJ,hz]))
    | goto l=>exact Le.none _
    | _=>exact Le.refl _
  | some l=>
   simp only
   have hxe:=rA hx
   subst hxe
   have fl:∀ {R:Type} (σ:St) (k:Ex→St→Option R),Le (bY P C Sm (lz P C Sm lf n) n fid lf base od rf false y σ (s8 l k)) ((fO l (aB P C (aS Sm) (br P C (aS Sm) lf n) lf base od rf false y σ)).bind fun p=>k p.1 p.2):=by
    intro R σ k
    refine (bJ hr hG hfn hc0 false y σ _ (fun z hz=>hl z (by simp[aJ,hz]))).trans ?_
    cases aB P C (aS Sm) (br P C (aS Sm) lf n) lf base od rf false y σ with
    | none=>exact Le.none _
    | some p=>
     obtain⟨e,σ'⟩:=p
     cases e with
     | cL=>exact Le.refl _
     | goto i=>simp only[Option.bind_some,s8,fO,eU];cases Nat.beq i l<;>exact Le.refl _
     | exit i=>simp only[Option.bind_some,s8,fO,eU];cases Nat.beq i wG<;>exact Le.refl _
     | ret=>exact Le.refl _
     | dB v=>exact Le.none _
   have un:∀ (r:Option (Ex×St)),Le (r.bind fun p=>qo k p.1 p.2) ((rU r).bind fun p=>k p.1 p.2):=by
    intro r
    cases r with
    | none=>exact Le.none _
    | some p=>
     obtain⟨e,σ'⟩:=p
     cases e with
     | exit i=>simp only[Option.bind_some,qo,rU,FN];cases Nat.beq i wG<;>exact Le.refl _
     | ret=>exact Le.refl _
     | _=>exact Le.none _
   rw[si]
   cases hs:sumOf Sm base y σ with
   | none=>
    simp only[Option.map_none]
    have e1:∀ r,jj od none r=r:=by intro r;unfold jj;split<;>rfl
    rw[e1]
    refine Le.trans ?_ (un _)
    exact rS (g:=fun σ k'=>bY P C Sm (lz P C Sm lf n) n fid lf base od rf false y σ (s8 l k')) (fun σ k=>fl σ k) lf σ _
   | some s=>
    simp only[Option.map_some]
    cases hfit:s.fits n fid od rf (some l) with
    | false=>exact Le.none _
    | true=>
     simp only[cond_true]
     unfold aG.fits at hfit
     simp only[Bool.and_eq_true] at hfit
     obtain⟨⟨⟨⟨⟨⟨fl0,f0⟩,f1⟩,f2⟩,f3⟩,f4⟩,f5⟩:=hfit
     have fl0:=qn fl0
     have f0:=qn f0
     have f1:=Nat.eq_of_beq_eq_true f1
     have f2:=Nat.eq_of_beq_eq_true f2
     have f3:=dQ f3
     have f4:=dQ f4
     have f5:=dQ f5
     cases hz:s.shape.read σ with
     | none=>exact Le.none _
     | some z=>
      simp only
      have hround:∀ z,Le (s.step z) ((fO l (aB P C (aS Sm) (br P C (aS Sm) lf n) lf base od rf false y (s.shape.Au z))).bind fun p=>s.fY p.1 p.2):=by
       intro z
       unfold sumOf at hs
       cases hfr:bB y with
       | none=>rw[hfr] at hs;simp at hs
       | some r=>
        rw[hfr] at hs
        have:=hr base r σ s hs fn c0 y (by rw[f2];exact hfn) hc0 (hl y (by simp[aJ,Tm])) hfr z
        rw[f0,f1,f2,f3] at this
        unfold aG.vI at this
        rw[fl0] at this
        exact this.trans (fl _ _)
      have:=CH (f:=fun σ=>fO l (aB P C (aS Sm) (br P C (aS Sm) lf n) lf base od rf false y σ)) f3 f4 f5 hround lf σ z hz
      intro q hq
      cases hi:iter lf s.step z with
      | none=>rw[hi] at hq;simp at hq
      | some r=>
       rw[hi] at hq this
       have h2:=this (s.fin r) rfl
       rw[h2]
       cases r with
       | inl y=>exact un (some (.exit s.JG,s.out.Au y)) q hq
       | inr y=>exact hq
 | R,sc,.cond c x y,σ,k,hl=>by
  simp only[bY,aB]
  cases hv:σ.val c with
  | lit v=>
   cases v with
   | bool b=>
    rw[kT hv]
    cases b with
    | true=>exact bJ hr hG hfn hc0 false x σ k (fun z hz=>hl z (by simp[aJ,hz]))
    | false=>exact bJ hr hG hfn hc0 false y σ k (fun z hz=>hl z (by simp[aJ,hz]))
   | _=>simp only[gA,hv];exact Le.none _
  | _=>simp only[gA,hv];exact Le.none _
 | R,sc,.block id x,σ,k,hl=>by
  simp only[bY,aB]
  refine (bJ hr hG hfn hc0 false x σ _ (fun z hz=>hl z (by simpa [aJ] using hz))).trans ?_
  cases aB P C (aS Sm) (br P C (aS Sm) lf n) lf base od rf false x σ with
  | none=>exact Le.none _
  | some p=>
   obtain⟨e,σ'⟩:=p
   cases e with
   | exit i=>simp only[Option.bind_some];cases Nat.beq i id<;>exact Le.refl _
   | _=>exact Le.refl _
 | R,sc,.loop x,σ,k,hl=>by
  simp only[bY,aB]
  rw[si]
  cases hs:sumOf Sm base x σ with
  | none=>
   simp only[Option.map_none]
   have e1:∀ r,jj od none r=r:=by intro r;unfold jj;split<;>rfl
   rw[e1]
   exact rS (fun σ k=>bJ hr hG hfn hc0 false x σ k (fun z hz=>hl z (by simp[aJ,hz]))) lf σ k
  | some s=>
   simp only[Option.map_some]
   cases hfit:s.fits n fid od rf none with
   | false=>exact Le.none _
   | true=>
    simp only[cond_true]
    unfold aG.fits at hfit
    simp only[Bool.and_eq_true] at hfit
    obtain⟨⟨⟨⟨⟨⟨fl0,f0⟩,f1⟩,f2⟩,f3⟩,f4⟩,f5⟩:=hfit
    have fl0:=qn fl0
    have f0:=qn f0
    have f1:=Nat.eq_of_beq_eq_true f1
    have f2:=Nat.eq_of_beq_eq_true f2
    have f3:=dQ f3
    have f4:=dQ f4
    have f5:=dQ f5
    cases hz:s.shape.read (σ.dD s.dD) with
    | none=>exact Le.none _
    | some z=>
     simp only
     have hround:∀ z,Le (s.step z) ((aB P C (aS Sm) (br P C (aS Sm) lf n) lf base od rf false x (s.shape.Au z)).bind fun p=>s.fY p.1 p.2):=by
      intro z
      unfold sumOf at hs
      cases hfr:bB x with
      | none=>rw[hfr] at hs;simp at hs
      | some r=>
       rw[hfr] at hs
       have:=hr base r σ s hs fn c0 x (by rw[f2];exact hfn) hc0 (hl x (by simp[aJ])) hfr z
       rw[f0,f1,f2,f3] at this
       unfold aG.vI at this
       rw[fl0] at this
       exact this.trans (bJ hr hG hfn hc0 false x _ _ (fun z hz=>hl z (by simp[aJ,hz])))
     have:=CH f3 f4 f5 hround lf (σ.dD s.dD) z hz
     intro q hq
     cases hi:iter lf s.step z with
     | none=>rw[hi] at hq;simp at hq
     | some r=>
      rw[hi] at hq this
      have h2:=this (s.fin r) rfl
      rw[show Cu (some s.lh) σ=σ.dD s.dD from rfl]
      rw[h2]
      cases r<;>exact hq
 | R,sc,.exit id,σ,k,_=>Le.refl _
 | R,sc,.label _,σ,k,_=>Le.refl _
 | R,sc,.ret,σ,k,_=>Le.refl _
 | R,sc,.rangeFunc g ps asn body,σ,k,_=>by simp only[bY,aB];exact EW hG _ _ _ _ _ _
 | R,sc,.scope x,σ,k,hl=>by
  simp only[bY,aB]
  cases fE x with
  | false=>exact Le.none _
  | true=>
   simp only[cond_true]
   refine (bJ hr hG hfn hc0 true x σ _ (fun z hz=>hl z (by simpa [aJ] using hz))).trans ?_
   cases aB P C (aS Sm) (br P C (aS Sm) lf n) lf base od rf true x σ with
   | none=>exact Le.none _
   | some p=>
    obtain⟨e,σ'⟩:=p
    cases e with
    | goto l=>exact Le.none _
    | _=>exact Le.refl _
 | R,sc,.goto _,σ,k,_=>Le.refl _
 | R,sc,.refuse _,σ,k,_=>Le.none _
theorem mK (hr:fh P C Sm lf):∀ (n:Nat) {R:Type},fJ (R:=R) (br P C (aS Sm) lf n) (lz P C Sm lf n)
 | 0,R=>fun base k as H L K=>Le.none _
 | n+1,R=>fun base k as H L K=>by
  cases k with
  | fn k=>
   simp only[lz,br]
   cases hfn:P.funcs[k]? with
   | none=>exact Le.none _
   | some fn=>
    simp only
    cases hb:fn.body with
    | none=>exact Le.none _
    | some c=>
     simp only
     cases Nat.ble as.length fn.ntmps with
     | false=>exact Le.none _
     | true=>
      simp only[cond_true]
      refine (bJ hr (fun {R}=>mK hr n) hfn hb false c _ _ (fun x hx=>hx)).trans ?_
      cases aB P C (aS Sm) (br P C (aS Sm) lf n) lf (Nat.succ base * 4294967296) L (some k) false c ⟨fn.ntmps,dw as,H,L⟩ with
      | none=>exact Le.none _
      | some p=>
       obtain⟨e,σ⟩:=p
       cases e with
       | cL=>
        simp only[Option.bind_some,lZ,yN]
        cases cX P σ fn.results.toList<;>exact Le.refl _
       | ret=>
        simp only[Option.bind_some,lZ,yN]
        cases cX P σ fn.results.toList<;>exact Le.refl _
       | dB v=>exact Le.refl _
       | _=>exact Le.none _
  | fG i=>
   simp only[lz,br]
   cases hin:rz P i as H L with
   | none=>exact Le.none _
   | some p=>
    obtain⟨k,r,x,σ⟩:=p
    simp only
    obtain⟨fn,c,hfn,hc,hx⟩:=BF (JJ hin)
    obtain⟨hl1,hl2⟩:=bC c x hx
    exact KD (fun σ K=>bJ hr (fun {R}=>mK hr n) hfn hc false _ σ K hl1) (fun σ K=>bJ hr (fun {R}=>mK hr n) hfn hc false _ σ K hl2) σ K
theorem Mn (hr:fh P C Sm lf){n k:Nat}{ps:List Ty}{rs:List cO}{x:cC ps}:Le (Cs P C Sm lf n k ps rs x) (top P C (aS Sm) lf n k ps rs x):=by
 unfold Cs top
 refine (mK hr n _ _ _ _ _ _).trans ?_
 cases br P C (aS Sm) lf n 0 (.fn k) (cj ps x) (fun _=>none) [] with
 | none=>exact Le.none _
 | some p=>exact Le.refl _
theorem aa [aq](hC:bI P C)(hr:fh P C Sm lf){n k:Nat}{c:aT}
  (h:∀ x,Cs P C Sm lf n k c.ps c.rs x=c.f x):c.OK P k:=
 BC (Hn:=aS Sm) (lf:=lf) (n:=n) hC fun x y hf=>Mn hr y (by rw[h x];exact hf)
end
section
variable [aq]{P:Program}{C:Cons}{lf:Nat}
def Af (P:Program)(C:Cons)(Hn:Hints)(lf n k:Nat)(od:List Nat)(as:List AV)(H:Heap)(L:List Nat):Option (AV×Heap×List Nat):=
 match P.funcs[k]? with
 | some fn=>match fn.body with
  | some c=>cond (Nat.ble as.length fn.ntmps) (lZ P fn.results.toList (aB P C Hn (br P C Hn lf n) lf 4294967296 od (some k) false c ⟨fn.ntmps,dw as,H,L⟩)) none
  | none=>none
 | none=>none
theorem Gt {Hn:Hints}(hC:bI P C){n k:Nat}{od:List Nat}{as:List AV}{H H' Ho:Heap}{L L':List Nat}{v:AV}(h:Af P C Hn lf n k od as H L=some (v,H',L'))(hnp:v.cT=false)(hBd:∀ q,H q≠none→q∈L)
  {μ μo:Mu} {S:ar} {B:Nat} {w0 w:World} {us:Array Value} (hod:∀ i,μo i≠none→i∈od) (C0:Carry B μo S Ho μ S H) (R:Rel μ S H B w0 w) (hv:aE μ S H as us.toList) :
  Calls P k us w fun e w'=>∃ u μ' S',e = .returned u∧VR μ' S' H' v u∧Rel μ' S' H' B w0 w'∧(∀ b,S' b≠none→S b≠none∨B≤b)∧(∀ b o,S b=some o→S' b=some o):=by
 have ih:=iS (lf:=lf) (Hn:=Hn) hC n
 unfold Af at h
 split at h
 case h_2=>simp at h
 rename_i fn hfn
 split at h
 case h_2=>simp at h
 rename_i c hc
 cases hle:Nat.ble as.length fn.ntmps with
 | false=>rw[hle] at h;simp at h
 | true=>
  rw[hle] at h
  simp only[cond_true] at h
  have hle:=Nat.le_of_ble_eq_true hle
  have hlen:=aQ hv
  simp only[Array.length_toList] at hlen
  refine (e7 (r:=none) (n:=0)).1 (callsIn_of_wp_marks hfn hc trivial ?_ rfl)
  have A0:AR S (false,[]) μ S ⟨fn.ntmps,dw as,H,L⟩ { tmps:=us++Array.replicate (fn.ntmps-us.size) undef,defers:=[] }:=by
   refine⟨⟨[],rfl,⟨List.nodup_nil,by simp⟩,fun _=>rfl⟩,by simp;omega,fun t ht=>?_⟩
   have:=lD hv t
   rw[List.getD_eq_getElem?_getD] at this
   rw[Array.getD_eq_getD_getElem?]
   by_cases hlt:t<us.size
   ·rw[Array.getElem?_append_left hlt];simpa using this
   ·rw[Array.getElem?_append_right (by omega),Array.getElem?_replicate]
    have e1:us.toList[t]? = none:=by rw[List.getElem?_eq_none];simp;omega
    rw[e1] at this
    have:t-us.size<fn.ntmps-us.size:=by simp only at ht;omega
    rw[if_pos this];assumption
  have fin:∀ (e:Ex) (σ:St),aB P C Hn (br P C Hn lf n) lf 4294967296 od (some k) false c ⟨fn.ntmps,dw as,H,L⟩=some (e,σ)→e = .cL∨e = .ret →
    (∃ vs,cX P σ fn.results.toList=some vs∧v=eA vs∧H'=σ.heap) →
    c.wpIn (WF none) 0 P (bodyPostM (WF none) 0 P fn fun e w'=>∃ u μ' S',e = .returned u∧VR μ' S' H' v u∧Rel μ' S' H' B w0 w'∧(∀ b,S' b≠none→S b≠none∨B≤b)∧(∀ b o,S b=some o→S' b=some o)) { tmps:=us++Array.replicate (fn.ntmps-us.size) undef,defers:=[] } w:=by
   rintro e σ he hex ⟨vs,hvs,rfl,rfl⟩
   refine aD (Dt:=(false,[])) (μo:=μo) (So:=S) (Ho:=Ho) (fun _=>⟨rfl,rfl⟩) hC ih hod c (.top hfn hc) _ e σ _ w μ S _ he hBd A0 R C0 fun a' w' μ' S' xe A' R' C' hx=>?_
   have main:LeavesInM (WF none) 0 P fn a'.tmps (fun e w'=>∃ u μ' S',e = .returned u∧VR μ' S' σ.heap (eA vs) u∧Rel μ' S' σ.heap B w0 w'∧(∀ b,S' b≠none→S b≠none∨B≤b)∧(∀ b o,S b=some o→S' b=some o)) a'.defers .returning w':=by
    obtain⟨ms,hms,hmk,_⟩:=A'.defers
    rw[hms]
    refine gU (by simp) R.pre ms S' w' R' hmk C'.sub (fun D hD=>?_) fun S2 w2 R2 hc2 hs2 hn2=>?_
    ·rcases C'.st D (by rw[(hmk.2 D hD).2];simp) with h|h
     ·exact absurd (hmk.2 D hD).1 h
     ·exact h
    ·have A2:AR S (false,[]) μ' S2 σ { tmps:=a'.tmps,defers:=[] }:=⟨⟨[],rfl,⟨List.nodup_nil,by simp⟩,fun _=>rfl⟩,A'.size,fun t ht=>ga hc2 _ _ (A'.tmp t ht)⟩
     obtain⟨u,k1,k2⟩:=rD A2 R2 hvs
     exact⟨u,k1,u,μ',S2,rfl,k2,R2,fun b hb=>C'.st b (hn2 b hb),hs2⟩
   rcases hex with rfl|rfl
   ·cases (show xe = .normal from hx);exact main
   ·cases (show xe = .ret from hx);exact main
  unfold lZ at h
  split at h
  ·rename_i σ he
   split at h
   ·rename_i vs hvs;cases h;exact fin .cL σ he (.inl rfl) ⟨vs,hvs,rfl,rfl⟩
   ·simp at h
  ·rename_i σ he
   split at h
   ·rename_i vs hvs;cases h;exact fin .ret σ he (.inr rfl) ⟨vs,hvs,rfl,rfl⟩
   ·simp at h
  ·cases h;simp[AV.cT] at hnp
  ·simp at h
omit [aq] in
theorem ph {S S':ar}(h:∀ b o,S b=some o→S' b=some o):∀ {ps:List Ty} {x:cC ps} {vs:List Value},eZ S ps x vs→eZ S' ps x vs
 | [],_,_,hr=>hr
 | t::ts,x,vs,hr=>by
  obtain⟨v,r,e,h1,h2⟩:=hr
  refine⟨v,r,e,?_,ph h h2⟩
  unfold FV at h1 ⊢
  split at h1
  ·rename_i ht
   rw[if_pos ht]
   obtain⟨cs,e2,h1⟩:=h1
   exact⟨cs,e2,cG h _ _ _ h1⟩
  ·rename_i ht
   rw[if_neg ht]
   exact cG h _ _ _ h1
def kE (te:TypeId)(e:Ty)(zs:List e.T):Heap:=aM (fun _=>none) 1 (some (.row te e 0 zs))
def Ls (P:Program)(C:Cons)(Hn:Hints)(lf n k:Nat)(te:TypeId)(e:Ty)(ps:List Ty)(zs:List e.T)(x:cC ps):Option (tg [.own te e]):=
 e8 [.own te e] (Af P C Hn lf n k [] (.sl 1 0::cj ps x) (kE te e zs) [1])
theorem yI {Hn:Hints}(hC:bI P C){n k:Nat}{te:TypeId}{e:Ty}{ps:List Ty}{f:List e.T→cC ps→Option (List e.T×Unit)}(hfl:e.flat=true)
  (h:∀ zs x y,f zs x=some y→Ls P C Hn lf n k te e ps zs x=some y) :
  (⟨te,e,ps,false,fun zs x=>(f zs x).map (·.1)⟩:bF).OK P k:=by
 refine⟨fun _=>?_,Ed⟩
 intro zs x ys hf S w B v0 cs0 vs hS hG ha hR hown hv0 hB
 simp only at zs x ys hf ha hR hown
 cases hfe:f zs x with
 | none=>rw[hfe] at hf;simp at hf
 | some y=>
 rw[hfe] at hf
 simp only[Option.map_some,Option.some.injEq] at hf
 have ht:=h zs x y hfe
 unfold Ls at ht
 cases he:Af P C Hn lf n k [] (.sl 1 0::cj ps x) (kE te e zs) [1] with
 | none=>rw[he] at ht;simp[e8] at ht
 | some p=>
 obtain⟨v,H',L'⟩:=p
 rw[he] at ht
 simp only[e8] at ht
 obtain⟨hnp,ht⟩:=bS ht
 split at ht
 case h_2=>simp at ht
 rename_i y' o hd
 obtain⟨hdis,rfl⟩:=ah ht
 have hdn:=(Bool.and_eq_true_iff.1 hdis).2
 let S1:ar:=fun b=>if v0.ownBlock=some b then none else w.heap[b]?
 have hS1:∀ b o,S b=some o→S1 b=some o:=by
  intro b o hb
  show (if v0.ownBlock=some b then none else w.heap[b]?)=some o
  rw[if_neg (fun hq=>by rw[hv0 b hq] at hb;simp at hb)]
  exact hS b o hb
 have hS1w:∀ b o,S1 b=some o→w.heap[b]? = some o:=by
  intro b o hb
  have hb:(if v0.ownBlock=some b then none else w.heap[b]?)=some o:=hb
  split at hb
  ·simp at hb
  ·exact hb
 have hS1v:∀ b,v0.ownBlock=some b→S1 b=none:=by
  intro b hb
  show (if v0.ownBlock=some b then none else w.heap[b]?)=none
  rw[if_pos hb]
 obtain⟨l,hv0e,hl,hno,hO⟩:=gz (μ:=aM (fun _=>none) 1 (some ⟨v0.ownBlock,0,aP⟩)) (H:=kE te e zs) (g:=0) (jl hfl hR:e9 S1 e zs cs0) hS1v hown
 have hO':jO (aM (fun _=>none) 1 (some l)) S1 (kE te e zs) w B l (.row te e 0 zs):=hO
 have R0:Rel (aM (fun _=>none) 1 (some l)) S1 (kE te e zs) B w w:=by
  refine⟨Below.refl _ _,hB,hS1w,fun i=>?_,fun i ob hi=>?_,fun i j li lj b hij hi hj hb=>?_,fun i li hi=>?_,aq.mono S S1 hS1 hG⟩
  ·by_cases e1:i=1
   ·subst e1;simp[kE,au]
   ·unfold kE;rw[ax _ _ e1,ax _ _ e1];rfl
  ·by_cases e1:i=1
   ·subst e1
    unfold kE at hi
    rw[au] at hi
    cases hi
    exact⟨l,au _ _ _,hO'⟩
   ·unfold kE at hi;rw[ax _ _ e1] at hi;simp at hi
  ·by_cases e1:i=1
   ·subst e1
    rw[ax _ _ (Ne.symm hij)] at hj
    simp at hj
   ·rw[ax _ _ e1] at hi;simp at hi
  ·by_cases e1:i=1
   ·subst e1;rw[au] at hi;cases hi;exact .inl hno
   ·rw[ax _ _ e1] at hi;simp at hi
 have hargs:aE (aM (fun _=>none) 1 (some l)) S1 (kE te e zs) (.sl 1 0::cj ps x) (v0::vs).toArray.toList:=by
  have ha1:eZ S1 ps x vs:=ph hS1 ha
  simp only[aE]
  refine⟨v0,vs,by simp,?_,iU ha1⟩
  simp only[VR]
  refine⟨⟨_,_,_,hv0e⟩,l,au _ _ _,fun t e' gc xs hH=>?_⟩
  unfold kE at hH
  rw[au] at hH
  injection hH with hH
  injection hH with q1 q2 q3 q4
  subst q1 q2 q3
  cases q4
  exact⟨Nat.le_refl _,fun _=>hv0e⟩
 have C0:Carry B (fun _=>none) S1 (fun _=>none) (aM (fun _=>none) 1 (some l)) S1 (kE te e zs):=Carry.of (Ext.new rfl)
 refine Calls.mono (Gt (μo:=fun _=>none) (Ho:=fun _=>none) (od:=[]) hC he hnp (fun q hq=>?_) (fun i hi=>absurd rfl hi) C0 R0 hargs) ?_
 ·by_cases e1:q=1
  ·subst e1;simp
  ·unfold kE at hq;rw[ax _ _ e1] at hq;simp at hq
 rintro ex w' ⟨u,μ',S',rfl,k1,R',hst,hsub⟩
 have hparts:∃ us,aE μ' S' H' (v.parts [cO.own te e].length) us∧us=[u]:=by
  refine⟨[u],?_,rfl⟩
  have one:aE μ' S' H' [v] [u]:=by simp only[aE];exact⟨u,[],rfl,k1,rfl⟩
  cases v<;>exact one
 obtain⟨us,hus,rfl⟩:=hparts
 obtain⟨os,q1,q2,q3,q4⟩:=mc (S':=S') (Hv:=fun _=>none) R' (fun b o h=>h) cK.no (fun i o h=>by simp[oJ,cO.lU] at h) hus hd hdn
 obtain⟨v1,r1,o1,o2,e1,e2,d1,d2⟩:=q1
 obtain⟨rfl,rfl⟩:=d2
 cases e1
 unfold iv at d1
 simp only[cO.isAgg,Bool.false_eq_true,if_false] at d1
 obtain⟨l2,c1,c2⟩:=d1
 subst c2
 cases c1
 subst hf
 have hOK:=(q3 ⟨l2,.row te e y'.1⟩ (by rw[e2];simp)).2
 have hOb:jO μ' S' H' w' B l2 (.row te e 0 y'.1):=hOK
 obtain⟨cs,g1,g2⟩:=jk hOb
 have hblk:∀ b,l2.blk=some b→S' b=none:=by
  intro b hb
  rcases hOK.2 with h3|⟨b',cs',f1,_,f2,_⟩
  ·rw[h3.1] at hb;simp at hb
  ·rw[f1] at hb;cases hb;exact f2
 refine⟨_,cs,rfl,fun h=>by simp at h,jl hfl g1,g2,fun b hb=>?_,R'.below.os,R'.below.tape,R'.below.output,R'.below.size,fun b hb hne=>?_⟩
 ·rw[iO] at hb
  rcases Nat.lt_or_ge b w.heap.size with hlt|hge
  ·by_cases hq:v0.ownBlock=some b
   ·exact .inl hq
   ·exfalso
    have h1:S1 b=some w.heap[b]:=by
     show (if v0.ownBlock=some b then none else w.heap[b]?)=_
     rw[if_neg hq];simp[hlt]
    have h2:=hsub b _ h1
    rw[hblk b hb] at h2
    simp at h2
  ·exact .inr hge
 ·have h1:S1 b=some w.heap[b]:=by
   show (if v0.ownBlock=some b then none else w.heap[b]?)=_
   rw[if_neg (fun hq=>hne hq.symm)];simp[hb]
  rw[R'.st b _ (hsub b _ h1)]
  simp[hb]
def DB (P:Program)(C:Cons)(Sm:ko)(lf n k:Nat)(te:TypeId)(e:Ty)(ps:List Ty)(zs:List e.T)(x:cC ps):Option (tg [.own te e]):=
 match P.funcs[k]? with
 | some fn=>match fn.body with
  | some c=>cond (Nat.ble (AV.sl 1 0::cj ps x).length fn.ntmps) (bY P C Sm (lz P C Sm lf n) n k lf 4294967296 [] (some k) false c ⟨fn.ntmps,dw (.sl 1 0::cj ps x),kE te e zs,[1]⟩ fun e' σ=>match e' with
   | .cL=>yN P fn.results.toList σ fun v H L=>e8 [.own te e] (some (v,H,L))
   | .ret=>yN P fn.results.toList σ fun v H L=>e8 [.own te e] (some (v,H,L))
   | _=>none) none
  | none=>none
 | none=>none
omit [aq] in
theorem J1 {Sm:ko}(hr:fh P C Sm lf){n k:Nat}{te:TypeId}{e:Ty}{ps:List Ty}{zs:List e.T}{x:cC ps}:Le (DB P C Sm lf n k te e ps zs x) (Ls P C (aS Sm) lf n k te e ps zs x):=by
 unfold DB Ls Af
 cases hfn:P.funcs[k]? with
 | none=>exact Le.none _
 | some fn=>
  simp only
  cases hb:fn.body with
  | none=>exact Le.none _
  | some c=>
   simp only
   cases Nat.ble (AV.sl 1 0::cj ps x).length fn.ntmps with
   | false=>exact Le.none _
   | true=>
    simp only[cond_true]
    refine (bJ hr (fun {R}=>mK hr n) hfn hb false c _ _ (fun x hx=>hx)).trans ?_
    cases aB P C (aS Sm) (br P C (aS Sm) lf n) lf 4294967296 [] (some k) false c ⟨fn.ntmps,dw (.sl 1 0::cj ps x),kE te e zs,[1]⟩ with
    | none=>exact Le.none _
    | some p=>
     obtain⟨e1,σ⟩:=p
     cases e1 with
     | cL=>
      simp only[Option.bind_some,lZ,yN]
      cases cX P σ fn.results.toList<;>exact Le.refl _
     | ret=>
      simp only[Option.bind_some,lZ,yN]
      cases cX P σ fn.results.toList<;>exact Le.refl _
     | _=>exact Le.none _
theorem wS {Sm:ko}(hC:bI P C)(hr:fh P C Sm lf){n k:Nat}{te:TypeId}{e:Ty}{ps:List Ty}{f:List e.T→cC ps→Option (List e.T×Unit)}(hfl:e.flat=true)
  (h:∀ zs x,DB P C Sm lf n k te e ps zs x=f zs x):(⟨te,e,ps,false,fun zs x=>(f zs x).map (·.1)⟩:bF).OK P k:=
 yI (Hn:=aS Sm) (lf:=lf) (n:=n) hC hfl fun zs x y hf=>J1 hr y (by rw[h zs x];exact hf)
end
abbrev aI:Nat:=18446744073709551616
def nJ {α:Type}:List (Nat×α)→Nat→Option α
 | [],_=>none
 | p::l,k=>cond (Nat.beq k p.1) (some p.2) (nJ l k)
def oV [aq](P:Program):List (Nat×aT)→Prop
 | []=>True
 | p::l=>p.2.OK P p.1∧oV P l
def yG [aq](P:Program):List (Nat×bF)→Prop
 | []=>True
 | p::l=>p.2.OK P p.1∧yG P l
theorem yf [aq]{P:Program}:∀ {l:List (Nat×aT)},oV P l→∀ k c,nJ l k=some c→c.OK P k
 | [],_,k,c,h=>by simp[nJ] at h
 | p::l,ha,k,c,h=>by
  simp only[nJ] at h
  cases hb:Nat.beq k p.1 with
  | true=>
   rw[hb] at h
   simp only[cond_true,Option.some.injEq] at h
   subst h
   rw[Nat.eq_of_beq_eq_true hb]
   exact ha.1
  | false=>rw[hb] at h;exact yf ha.2 k c h
theorem zz [aq]{P:Program}:∀ {l:List (Nat×bF)},yG P l→∀ k c,nJ l k=some c→c.OK P k
 | [],_,k,c,h=>by simp[nJ] at h
 | p::l,ha,k,c,h=>by
  simp only[nJ] at h
  cases hb:Nat.beq k p.1 with
  | true=>
   rw[hb] at h
   simp only[cond_true,Option.some.injEq] at h
   subst h
   rw[Nat.eq_of_beq_eq_true hb]
   exact ha.1
  | false=>rw[hb] at h;exact zz ha.2 k c h
def uh (l:List (Nat×aT))(u:List (Nat×bF))(z:List Nat:=[]):Cons:=⟨nJ l,nJ u,z⟩
class Ab [aq] (P:Program):Prop where
 ok:∀ k r,aq.Ug k r=cI P k r
theorem an [aq]{P:Program}[Ab P]{l:List (Nat×aT)}{u:List (Nat×bF)}{z:List Nat}(h:oV P l)(h':yG P u):bI P (uh l u z):=
 ⟨fun k c=>yf h k c,fun k c=>zz h' k c,Ab.ok⟩
def jK (P:Program)(k r:Nat):List Code:=match P.funcs[k]? with
 | some fn=>match fn.body with
  | some c=>(aJ c).filter fun x=>match bB x with
   | some q=>Nat.beq q r
   | none=>false
  | none=>[]
 | none=>[]
def V0 (l:List Code):Code:=match l with
 | x::_=>x
 | []=>.skip
def eC:List (Nat×Nat×aG)→ko
 | [],_,_,_=>none
 | p::l,b,r,σ=>cond (Nat.beq b p.1&&Nat.beq r p.2.1&&p.2.2.Nw σ) (some p.2.2) (eC l b r σ)
def Round (P:Program)(C:Cons)(Sm:ko)(lf b r:Nat)(s:aG):Prop:=
 (jK P s.k r).length=1∧∀ z,bY P C Sm (lz P C Sm lf s.n) s.n s.k lf b s.od s.rf false (V0 (jK P s.k r)) (s.shape.Au z) s.vI=s.step z
def Ox (P:Program)(C:Cons)(Sm:ko)(lf:Nat):List (Nat×Nat×aG)→Prop
 | []=>True
 | p::l=>Round P C Sm lf p.1 p.2.1 p.2.2∧Ox P C Sm lf l
theorem oM {P:Program}{C:Cons}{Sm:ko}{lf:Nat}:∀ {l:List (Nat×Nat×aG)},Ox P C Sm lf l→∀ b r σ s,eC l b r σ=some s→Round P C Sm lf b r s
 | [],_,b,r,σ,s,h=>by simp[eC] at h
 | p::l,ha,b,r,σ,s,h=>by
  simp only[eC] at h
  cases hb:(Nat.beq b p.1&&Nat.beq r p.2.1&&p.2.2.Nw σ) with
  | true=>
   rw[hb] at h
   simp only[cond_true,Option.some.injEq] at h
   subst h
   simp only[Bool.and_eq_true] at hb
   rw[Nat.eq_of_beq_eq_true hb.1.1,Nat.eq_of_beq_eq_true hb.1.2]
   exact ha.1
  | false=>rw[hb] at h;exact oM ha.2 b r σ s h
theorem aj {P:Program}{C:Cons}{lf:Nat}{l:List (Nat×Nat×aG)}(h:Ox P C (eC l) lf l):fh P C (eC l) lf:=by
 intro b r σ s hs fn c x hfn hc hx hr z
 obtain⟨h1,h2⟩:=oM h b r σ s hs
 have hmem:x∈jK P s.k r:=by
  unfold jK
  simp only[hfn,hc]
  exact List.mem_filter.2 ⟨hx,by simp only[hr,Nat.beq_refl]⟩
 have hd:V0 (jK P s.k r)=x:=by
  match ht:jK P s.k r,h1 with
  | [y],_=>rw[ht] at hmem;simp at hmem;rw[hmem];rfl
 have:=h2 z
 rw[hd] at this
 exact Le.of_eq this.symm
theorem aT.OK.of [aq]{P:Program}{k:Nat}{c:aT}(h:c.OK P k){g:cC c.ps→Option (tg c.rs)}(hg:∀ x y,g x=some y→c.f x=some y):(⟨c.ps,c.rs,g⟩:aT).OK P k:=
 fun x y hx=>h x y (hg x y hx)
def Wf:(t:Ty)→t.T→Prop
 | .int k,x=>(Lit.int k x).wf=true
 | .bool,_=>True
 | .str,x=>x.size≤maxLen
 | .row e,xs=>List.length xs≤maxLen∧∀ x∈xs,Wf e x
 | .pair a b,x=>Wf a x.1∧Wf b x.2
 | .one a,x=>Wf a x
 | .xI _,_=>True
 | .nil,_=>True
def uY:(ps:List Ty)→cC ps→Prop
 | [],_=>True
 | t::ts,x=>Wf t x.1∧uY ts x.2
section
variable {P:Program}{H:Type}{enc:TypeId×Value→H}
theorem tu (hl:laidOutB P=true){W W':World}(hb:Below W.heap.size W W'):∀ {ts:List TypeId} {vs:List Value} {ds:List (DataW H)} {ps:List MemPlace},
  (∀ t∈ts,P.readableRec t=true∧t<P.types.size)→DataW.TrodAll enc P W 0 (fun _=>true) true ts vs ds ps→(∀ x∈ps,x.block<W.heap.size)→∀ sp:Nat→Bool,(∀ x∈ps,sp x.block=true) →
  DataW.TrodAll enc P W' 0 sp true ts vs ds ps
 | [],[],[],ps,_,h,_,sp,_=>h
 | t::ts,v::vs,d::ds,ps,hr,h,hlt,sp,hsp=>by
  obtain⟨p,q,h1,h2,rfl⟩:=h
  refine⟨p,q,?_,tu hl hb (fun t ht=>hr t (by simp[ht])) h2 (fun x hx=>hlt x (by simp[hx])) sp (fun x hx=>hsp x (by simp[hx])),rfl⟩
  exact WideElems.Trod_stays hl (hr t (by simp)).1 (hr t (by simp)).2 h1 (fun x hx=>hb.same (hlt x (by simp[hx]))) (fun x hx=>hsp x (by simp[hx]))
 | [],[],_::_,_,_,h,_,_,_=>by cases h
 | [],_::_,_,_,_,h,_,_,_=>by cases h
 | _::_,[],_,_,_,h,_,_,_=>by cases h
 | _::_,_::_,[],_,_,h,_,_,_=>by cases h
def sizes (P:Program)(fs:List Field):Nat:=(fs.map fun f=>P.cellsOf f.type).sum
theorem zu {S:ar}{n:Nat}{cs:List Value}:∀ (fs:List Field) (o:Nat),(∀ (j:Nat) f,fs[j]? = some f→f.offset=o+sizes P (fs.take j))→cs.length=o+sizes P fs →
  (∀ f∈fs,∀ ty,jq P n f.type=some ty→∃ x,Rd S ty x ((cs.drop f.offset).take (P.cellsOf f.type))∧Wf ty x)→∀ ty,bV (fs.map fun f=>jq P n f.type)=some ty→∃ x,Rd S ty x (cs.drop o)∧Wf ty x
 | [],o,ho,hl,hf,ty,h=>by simp[bV] at h
 | [f],o,ho,hl,hf,ty,h=>by
  simp only[List.map_cons,List.map_nil] at h
  cases ht:jq P n f.type with
  | none=>rw[ht] at h;simp[bV] at h
  | some a=>
   rw[ht] at h
   simp only[bV,Option.some.injEq] at h
   subst h
   obtain⟨x,h1,h2⟩:=hf f (by simp) a ht
   have h0:f.offset=o:=by simpa [sizes] using ho 0 f rfl
   rw[h0,List.take_of_length_le (by simp[sizes] at hl;simp;omega)] at h1
   exact⟨x,h1,h2⟩
 | f::g::fs,o,ho,hl,hf,ty,h=>by
  simp only[List.map_cons] at h
  cases ht:jq P n f.type with
  | none=>rw[ht] at h;simp[bV] at h
  | some a=>
   rw[ht] at h
   simp only[bV] at h
   split at h
   case h_2=>simp at h
   rename_i b hb
   cases h
   obtain⟨x,h1,h2⟩:=hf f (by simp) a ht
   have h0:f.offset=o:=by simpa [sizes] using ho 0 f rfl
   obtain⟨y,k1,k2⟩:=zu (S:=S) (cs:=cs) (g::fs) (o+P.cellsOf f.type) (fun j q hj=>by
    have:=ho (j+1) q (by simpa using hj)
    rw[this];simp[sizes];omega) (by simp[sizes] at hl ⊢;omega) (fun q hq=>hf q (by simp at hq ⊢;exact .inr hq)) b (by simpa using hb)
   refine⟨(x,y),⟨_,_,?_,h1,k1⟩,h2,k2⟩
   rw[h0,← List.drop_drop,List.take_append_drop]
theorem l5 {α β:Type}{f:α→Option β}:∀ {l:List α} {r:List β},l.mapM f=some r→r.length=l.length∧∀ (i:Nat) (a:α),l[i]? = some a→∃ b,r[i]? = some b∧f a=some b
 | [],r,h=>by
  simp only[List.mapM_nil,Option.pure_def,Option.some.injEq] at h
  subst h
  exact⟨rfl,fun i a h=>by simp at h⟩
 | x::l,r,h=>by
  simp only[List.mapM_cons,Option.bind_eq_bind,Option.bind_eq_some_iff,Option.pure_def,Option.some.injEq] at h
  obtain⟨b,hb,r',hr',rfl⟩:=h
  obtain⟨h1,h2⟩:=l5 hr'
  refine⟨by simp[h1],fun i a hi=>?_⟩
  cases i with
  | zero=>simp at hi;subst hi;exact⟨b,rfl,hb⟩
  | succ i=>exact h2 i a (by simpa using hi)
theorem Fl {w:World}{base n:Nat}{a:Addr}{c:List Value}(h:w.cells? base a n=some c):c.length=n∧∀ (m:Nat) v,c[m]? = some v→cellS (jP w) (a.add m)=some v:=by
 unfold World.cells? at h
 split at h
 ·obtain⟨h1,h2⟩:=l5 h
  rw[List.length_range] at h1
  refine⟨h1,fun m v hm=>?_⟩
  have hlt:m<n:=by rw[← h1];exact (List.getElem?_eq_some_iff.1 hm).1
  obtain⟨b,k1,k2⟩:=h2 m m (by simp[hlt])
  rw[hm] at k1
  cases k1
  exact k2
 ·simp at h
theorem D7 {β:Type}{R:Nat→β→Prop}:∀ (n:Nat),(∀ i,i<n→∃ b,R i b)→∃ l:List β,l.length=n∧∀ (i:Nat) b,l[i]? = some b→R i b
 | 0,_=>⟨[],rfl,fun i b h=>by simp at h⟩
 | n+1,h=>by
  obtain⟨l,h1,h2⟩:=D7 n (fun i hi=>h i (by omega))
  obtain⟨b,hb⟩:=h n (Nat.lt_succ_self n)
  refine⟨l++[b],by simp[h1],fun i c hi=>?_⟩
  by_cases hin:i<l.length
  ·rw[List.getElem?_append_left hin] at hi;exact h2 i c hi
  ·rw[List.getElem?_append_right (by omega)] at hi
   have:i-l.length=0:=by
    rcases Nat.eq_zero_or_pos (i-l.length) with h|h
    ·exact h
    ·rw[List.getElem?_eq_none (by simp;omega)] at hi;simp at hi
   rw[this] at hi
   simp at hi
   subst hi
   rwa [show i=n by omega]
theorem uD (hl:laidOutB P=true){w:World}{sp:Nat→Bool}{held:Bool}:∀ (n fuel:Nat) (t:TypeId) (cs:List Value) (d:DataW H) (ps:List MemPlace) (ty:Ty),t<P.types.size →
  DataW.trod enc P w 0 sp held fuel t cs=some (d,ps)→jq P n t=some ty→∃ x:ty.T,Rd (jP w) ty x cs∧Wf ty x
 | 0,fuel,t,cs,d,ps,ty,ht,h,hty=>by simp[jq] at hty
 | n+1,0,t,cs,d,ps,ty,ht,h,hty=>by simp[DataW.trod] at h
 | n+1,fuel+1,t,cs,d,ps,ty,ht,h,hty=>by
  simp only[jq] at hty
  split at hty
  ·rename_i k hu
   cases hty
   unfold DataW.trod at h
   rw[hu] at h
   split at h<;>simp only[reduceCtorEq,Option.some.injEq,TypeDesc.int.injEq] at *
   rename_i k' n' hk
   subst hk
   split at h
   ·rename_i hc
    obtain⟨rfl,hw⟩:=hc
    exact⟨n',rfl,hw⟩
   ·simp at h
  ·rename_i hu
   cases hty
   unfold DataW.trod at h
   rw[hu] at h
   split at h<;>simp only[reduceCtorEq,Option.some.injEq] at *
   rename_i b _
   exact⟨b,rfl,trivial⟩
  ·rename_i hu
   cases hty
   unfold DataW.trod at h
   rw[hu] at h
   split at h<;>simp only[reduceCtorEq,Option.some.injEq] at *
   rename_i s _
   split at h
   ·rename_i hc;exact⟨s,rfl,hc⟩
   ·simp at h
  ·rename_i e hu
   split at hty
   case h_2=>simp at hty
   rename_i a hte
   cases hty
   have he:=kid_slice hl ht hu
   unfold DataW.trod at h
   rw[hu] at h
   split at h<;>simp only[reduceCtorEq,Option.some.injEq,TypeDesc.slice.injEq] at *
   ·exact⟨[],⟨none,0,rfl,⟨Nat.le_refl _,fun _=>rfl⟩,fun j x hj=>by simp at hj⟩,by simp[Wf]⟩
   ·rename_i e' ad len cap hee
    cases hee
    split at h
    case isFalse=>simp at h
    rename_i hb
    obtain⟨_,hlc,hcm⟩:=hb
    rw[Option.bind_eq_some_iff] at h
    obtain⟨elems,hel,_⟩:=h
    obtain⟨g1,g2⟩:=l5 hel
    rw[List.length_range] at g1
    have each:∀ i,i<len→∃ x:a.T,(∃ c,Rd (jP w) a x c∧∀ m v,c[m]? = some v→cellS (jP w) (ad.add (i * a.size+m))=some v)∧Wf a x:=by
     intro i hi
     obtain⟨b,k1,k2⟩:=g2 i i (by simp[hi])
     rw[Option.bind_eq_some_iff] at k2
     obtain⟨c,q1,q2⟩:=k2
     obtain⟨r1,r2⟩:=Fl q1
     obtain⟨x,z1,z2⟩:=uD hl n fuel e c b.1 b.2 a he q2 hte
     have size:P.cellsOf e=a.size:=by rw[← r1];exact bM _ _ _ z1
     refine⟨x,⟨c,z1,fun m v hm=>?_⟩,z2⟩
     have:=r2 m v hm
     rw[add_add,size] at this
     exact this
    obtain⟨xs,l1,l2⟩:=D7 len each
    refine⟨xs,⟨some ad,cap,by rw[l1],⟨by omega,fun h=>by simp at h⟩,fun j x hj=>?_⟩,⟨by rw[l1];omega,fun x hx=>?_⟩⟩
    ·obtain⟨⟨c,m1,m2⟩,_⟩:=l2 j x hj
     exact⟨ad,c,rfl,m1,m2⟩
    ·obtain⟨j,hj⟩:=List.getElem?_of_mem hx
     exact (l2 j x hj).2
  ·rename_i fs hu
   obtain⟨s1,s2,s3⟩:=kid_struct hl ht hu
   unfold DataW.trod at h
   rw[hu] at h
   simp only at h
   split at h
   case isFalse=>simp at h
   rename_i hlen
   rw[Option.map_eq_some_iff] at h
   obtain⟨l,hm,_⟩:=h
   obtain⟨g1,g2⟩:=l5 hm
   have each:∀ f∈fs.toList,∀ ty,jq P n f.type=some ty→∃ x,Rd (jP w) ty x ((cs.drop f.offset).take (P.cellsOf f.type))∧Wf ty x:=by
    intro f hf ty hty
    obtain⟨j,hj⟩:=List.getElem?_of_mem hf
    obtain⟨b,k1,k2⟩:=g2 j f hj
    exact uD hl n fuel f.type _ b.1 b.2 ty (s1 f hf) k2 hty
   have chain:=zu (S:=jP w) (cs:=cs) fs.toList 0 (fun j f hj=>by rw[s3 j f hj];simp[sizes]) (by rw[hlen,s2];simp[sizes]) each
   rw[List.drop_zero] at chain
   unfold pZ at hty
   split at hty
   ·rename_i a hfs
    cases hty
    have:∃ f,fs.toList=[f]:=by
     cases hfl:fs.toList with
     | nil=>rw[hfl] at hfs;simp at hfs
     | cons f r=>cases r with
      | nil=>exact⟨f,rfl⟩
      | cons g r=>rw[hfl] at hfs;simp at hfs
    obtain⟨x,h1,h2⟩:=chain a (by rw[hfs];simp[bV])
    exact⟨x,h1,h2⟩
   ·exact chain ty hty
  ·simp at hty
end
open Go Go.RowKit Go.WideShapes
def Ky:List TypeId→List Ty→Program→Prop
 | [],[],_=>True
 | t::ts,T::Ts,P=>jq P 9 t=some T∧Ky ts Ts P
 | _,_,_=>False
section
variable {P:Program}{H:Type}{enc:TypeId×Value→H}
theorem BG:∀ {l:List (Option Ty)} {ty:Ty},pZ l=some ty→ty.isAgg=true:=by
 intro l ty h
 unfold pZ at h
 split at h
 ·cases h;rfl
 ·rename_i hne
  match l,h,hne with
  | [],h,_=>simp[bV] at h
  | [none],h,_=>simp[bV] at h
  | [some a],h,hne=>exact absurd rfl (hne a)
  | none::_::_,h,_=>simp[bV] at h
  | some a::b::r,h,_=>
   simp only[bV] at h
   split at h
   ·cases h;rfl
   ·simp at h
theorem BK {W:World}{base n:Nat}{t:TypeId}{ty:Ty}{v:Value}(h:jq P n t=some ty)(hv:Value.okWide P W .any base t v) :
  (ty.isAgg=true→∃ cs,v = .agg cs)∧(ty.isAgg=false→v.cells.toList=[v]):=by
 cases n with
 | zero=>simp[jq] at h
 | succ n=>
  simp only[jq] at h
  split at h
  ·rename_i k hu
   cases h
   obtain⟨n,rfl⟩:=okWide_int hu hv
   exact⟨fun h=>by simp[Ty.isAgg] at h,fun _=>rfl⟩
  ·rename_i hu
   cases h
   obtain⟨n,rfl⟩:=okWide_bool hu hv
   exact⟨fun h=>by simp[Ty.isAgg] at h,fun _=>rfl⟩
  ·rename_i hu
   cases h
   obtain⟨n,rfl⟩:=okWide_string hu hv
   exact⟨fun h=>by simp[Ty.isAgg] at h,fun _=>rfl⟩
  ·rename_i e hu
   split at h
   ·cases h
    obtain⟨a,l,c,rfl⟩:=okWide_slice hu hv
    exact⟨fun h=>by simp[Ty.isAgg] at h,fun _=>rfl⟩
   ·simp at h
  ·rename_i fs hu
   obtain⟨cs,rfl,_⟩:=okWide_struct hu hv
   exact⟨fun _=>⟨cs,rfl⟩,fun h0=>by rw[BG h] at h0;simp at h0⟩
  ·simp at h
theorem Dl (hl:laidOutB P=true){W:World}{base:Nat}:∀ {ts:List TypeId} {Ts:List Ty} {vs:List Value} {ds:List (DataW H)} {ps:List MemPlace},
  DataW.TrodAll enc P W 0 (fun _=>true) true ts vs ds ps→(∀ (j:Nat) t v,ts[j]? = some t→vs[j]? = some v→Value.okWide P W .any base t v) →
  (∀ t∈ts,t<P.types.size)→Ky ts Ts P→∃ x:cC Ts,eZ (jP W) Ts x vs∧uY Ts x
 | [],[],[],[],ps,h,_,_,_=>⟨(),rfl,trivial⟩
 | t::ts,T::Ts,v::vs,d::ds,ps,h,hv,ht,hd=>by
  obtain⟨p,q,⟨fuel,h1⟩,h2,rfl⟩:=h
  obtain⟨y,k1,k2⟩:=Dl hl h2 (fun j t v=>hv (j+1) t v) (fun t h=>ht t (by simp[h])) hd.2
  obtain⟨x,m1,m2⟩:=uD hl 9 fuel t _ d p T (ht t (by simp)) h1 hd.1
  obtain⟨s1,s2⟩:=BK hd.1 (hv 0 t v rfl rfl)
  refine⟨(x,y),⟨v,vs,rfl,?_,k1⟩,m2,k2⟩
  unfold FV
  cases ha:T.isAgg with
  | true=>
   obtain⟨cs,rfl⟩:=s1 ha
   exact⟨cs,rfl,m1⟩
  | false=>
   rw[s2 ha] at m1
   exact m1
 | [],[],_::_,_,_,h,_,_,_=>by cases h
 | [],[],[],_::_,_,h,_,_,_=>by cases h
 | _::_,_::_,[],_,_,h,_,_,_=>by cases h
 | _::_,_::_,_::_,[],_,h,_,_,_=>by cases h
 | [],_::_,_,_,_,_,_,_,hd=>by cases hd
 | _::_,[],_,_,_,_,_,_,hd=>by cases hd
theorem kJ {W:World}{sp:Nat→Bool}{held:Bool}:∀ {ts:List TypeId} {vs:List Value} {ds:List (DataW H)} {ps:List MemPlace},
  DataW.TrodAll enc P W 0 sp held ts vs ds ps→∀ x∈ps,x.block<W.heap.size
 | [],[],[],ps,h,x,hx=>by cases h;simp at hx
 | t::ts,v::vs,d::ds,ps,h,x,hx=>by
  obtain⟨p,q,⟨m,hm⟩,h2,rfl⟩:=h
  rcases List.mem_append.1 hx with hx|hx
  ·exact DataW.trod_lt m _ _ _ hm x hx
  ·exact kJ h2 x hx
 | [],[],_::_,_,h,_,_=>by cases h
 | [],_::_,_,_,h,_,_=>by cases h
 | _::_,[],_,_,h,_,_=>by cases h
 | _::_,_::_,[],_,h,_,_=>by cases h
theorem EL [aq]{k:FuncId}{Ts:List Ty}{f:cC Ts→Option (tg [.val .bool])}{W:World}{base:Nat}{ts:List TypeId}{args:Array Value}{ds:List (DataW H)}{ps:List MemPlace}
  (hl:laidOutB P=true) (hc:(aT.mk Ts [.val .bool] f).OK P k) (hg:aq.pre (jP W))
  (h:DataW.TrodAll enc P W 0 (fun _=>true) true ts args.toList ds ps) (hv:∀ (j:Nat) t v,ts[j]? = some t→args.toList[j]? = some v→Value.okWide P W .any base t v)
  (ht:∀ t∈ts,P.readableRec t=true∧t<P.types.size) (hd:Ky ts Ts P) (hp:∀ x:cC Ts,uY Ts x→f x=some (true,())) :
  Calls P k args W fun e W'=>e = .returned (.bool true)∧Below W.heap.size W W'∧DataW.TrodAll enc P W' 0 (fun b=>decide (b<W.heap.size)) true ts args.toList ds ps:=by
 obtain⟨x,h1,h2⟩:=Dl hl h hv (fun t h=>(ht t h).2) hd
 have:=hc x (true,()) (hp x h2) (jP W) W args.toList (fun b o h=>h) hg h1
 rw[Array.toArray_toList] at this
 refine this.mono ?_
 rintro e W' ⟨us,S',os,rfl,hb,_,_,_,hres,_⟩
 obtain⟨v,r,o,p,rfl,_,hv',hr'⟩:=hres
 obtain⟨rfl,_⟩:=hr'
 refine⟨?_,hb,tu hl hb ht h (kJ h) _ (fun x hx=>decide_eq_true (kJ h x hx))⟩
 unfold iv at hv'
 simp only[cO.isAgg,Ty.isAgg,Bool.false_eq_true,if_false,FR,Rd] at hv'
 obtain⟨h,_⟩:=hv'
 cases h
 rfl
end
open Go Go.RowKit Go.WideShapes Go.ChangeShapes
theorem yh {H:Type}{enc:TypeId×Value→H}{P:Program}{W:World}{b:Nat}{sp:Nat→Bool}{held:Bool}:∀ {ts:List TypeId} {vs:List Value} {ds:List (DataW H)} {ps:List MemPlace},
  DataW.TrodAll enc P W b sp held ts vs ds ps→ds.length=ts.length
 | [],[],[],_,_=>rfl
 | _::ts,_::vs,_::ds,_,h=>by obtain⟨p,q,_,h2,_⟩:=h;simp[yh h2]
 | [],[],_::_,_,h=>by cases h
 | [],_::_,_,_,h=>by cases h
 | _::_,[],_,_,h=>by cases h
 | _::_,_::_,[],_,h=>by cases h
theorem fH [aq]{H:Type}{enc:TypeId×Value→H}{C:Checked}{os:Os}{k:FuncId}{fn:Func}{s:ChangeSpec}{Ts:List Ty}{F:cC Ts→Option (tg [.val .bool])}{ts:List TypeId}{tb:TypeId}
  (own:ownKnob C.prog.godebug=none) (started:os.Started) (noInit:C.prog.inits.idxOf? k=none) (hfn:C.prog.funcs[k]? = some fn)
  (witness:∃ (w:World) (tape:Tape) (i:Input),w.os=os∧(w.forCall tape i).Shaped C.prog∧i.vars=[]∧Input.okWide C.prog (w.forCall tape i) .any w.heap.size k i ∧
   s.pre6 enc C.prog fn [] false (w.forCall tape i).memory i.args∧({}:Assume).holds C.prog (lone (Frame.enter C.prog k i.args .normal) [] (w.forCall tape i)))
  (hg:∀ (W:World),W.ShapedOpen C.prog→aq.pre (jP W))
  (hl:laidOutB C.prog=true) (hc:(aT.mk Ts [.val .bool] F).OK C.prog k)
  (hps:fn.params=ts.toArray) (hrs:fn.resultTypes = #[tb]) (hb:C.prog.underlying tb=some .bool)
  (ht:∀ t∈ts,C.prog.readableRec t=true∧t<C.prog.types.size) (hd:Ky ts Ts C.prog)
  (hv:s.vars=[]) (hs:∀ ds:List (DataW H),ds.length=ts.length→s.fn H ds={ results:=[.lit (.bool true)],args:=ds })
  (hp:∀ x:cC Ts,uY Ts x→F x=some (true,())) :
  ReturnsInHanded {} C os k .any (s.pre6 enc C.prog fn [] false) (s.post enc C.prog fn false true false false):=by
 refine returnsInHanded_of_calls own started noInit witness ?_
 intro w tape i _ hsh _ hok hpre hholds
 obtain⟨_,_,_,fn',hfn',_,_,_,_,hval⟩:=hok
 have e:fn'=fn:=Option.some.inj (hfn'.symm.trans hfn)
 subst e
 obtain⟨⟨ds,gs,before,hw,_⟩,_⟩:=hpre
 have hw':=DataW.Whole.of_heap (w':=w.forCall tape i) (by rfl) hw
 have hW:=hw'
 obtain⟨p,q,hA,hV,rfl,_,_⟩:=hw'
 rw[hv] at hV
 obtain⟨rfl,rfl⟩:=trodVars_none hV
 have hpl:fn'.params.toList=ts:=by rw[hps]
 rw[hpl] at hA
 have hlen:=yh hA
 refine (EL (enc:=enc) hl hc (hg _ hsh) hA (fun j t v h1 h2=>hval j t v (by rw[hps];simpa using h1) (by simpa using h2)) ht hd hp).mono ?_
 rintro e W' ⟨rfl,bel,back⟩
 refine ChangeSpec.post_blind ?_
 refine⟨ds,[],_,[],p,[],hW,?_,?_,?_,bel.frame _,fun h=>by cases h⟩
 ·rw[List.append_nil,hs ds hlen,hrs];exact trodAll_mk1 (shut_bool hb true)
 ·rw[List.append_nil,hs ds hlen,hpl];exact back
 ·rw[List.append_nil,hs ds hlen,hv];rfl
section
variable [aq]{P:Program}{C:Cons}{Sm:ko}{lf:Nat}{w w0:World}{μ:Mu}{S:ar}{H:Heap}{B:Nat}
end
end Go.Sy
