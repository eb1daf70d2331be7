/- Sym16, Sym17, Sym18, Sym18b, Sym19, Sym20, Sym21, Sym22, Sym23, Sym24. -/
import Derived.Test.YtjkplgcpgpicnaaGreatFC
import Derived.Carry
import Derived.ProofKit
import Derived.SizedLaws
import Derived.RecoverIn
import Derived.RangeFuncLeaves
namespace Go.Sy
open Go Go.RowKit
set_option linter.unusedSimpArgs false
set_option linter.unusedVariables false
mutual
def iR:AV→AV→Bool
 | .ptr i o,.ptr j p=>Nat.beq i j&&Nat.beq o p
 | .sl i g,.sl j h=>Nat.beq i j&&Nat.beq g h
 | .an,.an=>true
 | .agg a,.agg b=>sB a b
 | .ja i,.ja j=>Nat.beq i j
 | .mp i,.mp j=>Nat.beq i j
 | .zW i,.zW j=>Nat.beq i j
 | .lit (.tuple x),.lit (.tuple y)=>Nat.beq x.size 0&&Nat.beq y.size 0
 | .lit (.int k i),.lit (.int l j)=>HI k l&&decide (i=j)
 | .fn (.func f) a b,.fn (.func g) c d=>Nat.beq f g&&sB a c&&sB b d
 | _,_=>false
def sB:List AV→List AV→Bool
 | [],[]=>true
 | a::as,b::bs=>iR a b&&sB as bs
 | _,_=>false
end
mutual
theorem Hz:∀ (a b:AV),iR a b=true→a=b
 | .ptr i o,b,h=>by
  cases b<;>simp only[iR,Bool.false_eq_true] at h
  simp only[Bool.and_eq_true] at h
  rw[Nat.eq_of_beq_eq_true h.1,Nat.eq_of_beq_eq_true h.2]
 | .sl i o,b,h=>by
  cases b<;>simp only[iR,Bool.false_eq_true] at h
  simp only[Bool.and_eq_true] at h
  rw[Nat.eq_of_beq_eq_true h.1,Nat.eq_of_beq_eq_true h.2]
 | .agg a,b,h=>by
  cases b<;>simp only[iR,Bool.false_eq_true] at h
  rw[pO _ _ h]
 | .an,b,h=>by
  cases b<;>simp only[iR,Bool.false_eq_true] at h
  rfl
 | .ja i,b,h=>by
  cases b<;>simp only[iR,Bool.false_eq_true] at h
  rw[Nat.eq_of_beq_eq_true h]
 | .mp i,b,h=>by
  cases b<;>simp only[iR,Bool.false_eq_true] at h
  rw[Nat.eq_of_beq_eq_true h]
 | .zW i,b,h=>by
  cases b<;>simp only[iR,Bool.false_eq_true] at h
  rw[Nat.eq_of_beq_eq_true h]
 | .lit x,b,h=>by
  cases b with
  | lit y=>
   cases x with
   | int k i=>
    cases y<;>simp only[iR,Bool.false_eq_true,Bool.and_eq_true,decide_eq_true_eq] at h
    rw[CG h.1,h.2]
   | tuple x=>
    cases y<;>simp only[iR,Bool.false_eq_true] at h
    rename_i y
    simp only[Bool.and_eq_true] at h
    have h1:=Nat.eq_of_beq_eq_true h.1
    have h2:=Nat.eq_of_beq_eq_true h.2
    have e1:x = #[]:=by simpa using h1
    have e2:y = #[]:=by simpa using h2
    rw[e1,e2]
   | _=>simp[iR] at h
  | _=>cases x<;>simp[iR] at h
 | .fn f a b,y,h=>by
  cases y with
  | fn g c d=>
   cases f<;>cases g<;>simp only[iR,Bool.false_eq_true] at h
   simp only[Bool.and_eq_true] at h
   rw[Nat.eq_of_beq_eq_true h.1.1,pO a c h.1.2,pO b d h.2]
  | _=>cases f<;>simp[iR] at h
 | .Ea e x o,y,h=>by cases y<;>simp[iR] at h
 | .Bj i g k o,y,h=>by cases y<;>simp[iR] at h
 | .cont e xs,y,h=>by cases y<;>simp[iR] at h
 | .H8 i xs,y,h=>by cases y<;>simp[iR] at h
 | .uy l,y,h=>by cases y<;>simp[iR] at h
theorem pO:∀ (as bs:List AV),sB as bs=true→as=bs
 | [],[],_=>rfl
 | [],_::_,h=>by simp[sB] at h
 | _::_,[],h=>by simp[sB] at h
 | a::as,b::bs,h=>by
  simp only[sB,Bool.and_eq_true] at h
  rw[Hz a b h.1,pO as bs h.2]
end
def Cu (e:Ty):List AV→Option (List e.T×List AV)
 | .cont e' xs::r=>match fZ (e:=e') (e':=e) xs with
  | some ys=>some (ys,r)
  | none=>none
 | _=>none
def yI (k:Nat):List AV→Option (Unit×List AV)
 | .fn (.func j) [] []::r=>cond (Nat.beq j k) (some ((),r)) none
 | _=>none
theorem Ff {k:Nat}{l:List AV}{x:Unit}{r:List AV}(h:yI k l=some (x,r)):l=AV.fn (.func k) [] []::r:=by
 unfold yI at h
 split at h
 ·rename_i j r'
  cases hb:Nat.beq j k with
  | true=>
   rw[hb] at h
   cases h
   rw[Nat.eq_of_beq_eq_true hb]
  | false=>rw[hb] at h;cases h
 ·cases h
def rq:(t:Ty)→List AV→Option (t.T×List AV)
 | .int k,l=>zu k l
 | .bool,l=>tU l
 | .str,l=>yu l
 | .row e,l=>Cu e l
 | .pair a b,l=>match rq a l with
  | some (x,l')=>match rq b l' with
   | some (y,l'')=>some ((x,y),l'')
   | none=>none
  | none=>none
 | .one a,l=>rq a l
 | .Bk k,l=>yI k l
 | .nil,l=>ye l
theorem tq:∀ (t:Ty) (l:List AV) (x:t.T) (r:List AV),rq t l=some (x,r)→l=enc t x++r
 | .int k,l,x,r,h=>by
  simp only[rq] at h
  unfold zu at h
  split at h
  ·obtain⟨hk,he⟩:=ai h
   cases he
   simp only[decide_eq_true_eq] at hk
   subst hk;rfl
  ·simp at h
 | .bool,l,x,r,h=>by
  simp only[rq] at h
  unfold tU at h
  split at h
  ·cases h;rfl
  ·simp at h
 | .str,l,x,r,h=>by
  simp only[rq] at h
  unfold yu at h
  split at h
  ·cases h;rfl
  ·simp at h
 | .Bk k,l,x,r,h=>by
  simp only[rq] at h
  rw[Ff h];rfl
 | .nil,l,x,r,h=>by
  simp only[rq] at h
  unfold ye at h
  split at h
  ·cases h;rfl
  ·simp at h
 | .row e,l,x,r,h=>by
  simp only[rq] at h
  unfold Cu at h
  split at h
  ·split at h
   ·rename_i hc
    cases h
    obtain⟨he,rfl⟩:=b8 hc
    subst he;rfl
   ·simp at h
  ·simp at h
 | .pair a b,l,x,r,h=>by
  simp only[rq] at h
  split at h
  ·rename_i y l' h1
   split at h
   ·rename_i z l'' h2
    cases h
    rw[tq a l y l' h1,tq b l' z _ h2]
    simp only[enc,List.append_assoc]
   ·simp at h
  ·simp at h
 | .one a,l,x,r,h=>by
  simp only[rq] at h
  simpa only [enc] using tq a l x r h
inductive SK where
 | data (t:Ty)
 | int (k:IntKind)
 | bool
 | str
 | cont (e:Ty)
 | fix (a:AV)
 | sY (i off:Nat)
 | cD (i q:Nat)
@[reducible] def SK.T:SK→Type
 | .data t=>t.T
 | .int _=>Int
 | .bool=>Bool
 | .str=>ByteArray
 | .cont e=>List e.T
 | .fix _=>Unit
 | .sY _ _=>Nat
 | .cD _ _=>Nat×(Nat×Nat)
def SK.put:(s:SK)→s.T→AV
 | .data t,x=>.agg (enc t x)
 | .int k,x=>.lit (.int k x)
 | .bool,x=>.lit (.bool x)
 | .str,x=>.lit (.string x)
 | .cont e,xs=>.cont e xs
 | .fix a,_=>a
 | .sY i off,k=>.sY i k off
 | .cD i q,x=>.cD i q x.1 x.2.1 x.2.2
def Nz (k:IntKind):AV→Option Int
 | .lit (.int k' x)=>cond (decide (k'=k)) (some x) none
 | _=>none
def Gr (t:Ty):AV→Option t.T
 | .agg cs=>match rq t cs with
  | some (x,[])=>some x
  | _=>none
 | _=>none
def Ir:AV→Option Bool
 | .lit (.bool x)=>some x
 | _=>none
def KN:AV→Option ByteArray
 | .lit (.string x)=>some x
 | _=>none
def HB (e:Ty):AV→Option (List e.T)
 | .cont e' xs=>fZ (e:=e') (e':=e) xs
 | _=>none
def On (i off:Nat):AV→Option Nat
 | .sY j k o=>cond (Nat.beq j i&&Nat.beq o off) (some k) none
 | _=>none
def LC (i q:Nat):AV→Option (Nat×(Nat×Nat))
 | .cD j r k a b=>cond (Nat.beq j i&&Nat.beq r q) (some (k,(a,b))) none
 | _=>none
def SK.get:(s:SK)→AV→Option s.T
 | .data t,a=>Gr t a
 | .int k,a=>Nz k a
 | .bool,a=>Ir a
 | .str,a=>KN a
 | .cont e,a=>HB e a
 | .fix b,a=>cond (iR a b) (some ()) none
 | .sY i off,a=>On i off a
 | .cD i q,a=>LC i q a
theorem SK.Bc:∀ (s:SK) (a:AV) (x:s.T),s.get a=some x→a=s.put x
 | .data t,a,x,h=>by
  simp only[SK.get] at h
  unfold Gr at h
  split at h
  ·split at h
   ·rename_i hd
    cases h
    rw[tq t _ _ _ hd,List.append_nil];rfl
   ·simp at h
  ·simp at h
 | .int k,a,x,h=>by
  simp only[SK.get] at h
  unfold Nz at h
  split at h
  ·obtain⟨hk,e⟩:=ai h
   simp only[decide_eq_true_eq] at hk
   subst hk;subst e;rfl
  ·simp at h
 | .bool,a,x,h=>by
  simp only[SK.get] at h
  unfold Ir at h
  split at h
  ·cases h;rfl
  ·simp at h
 | .str,a,x,h=>by
  simp only[SK.get] at h
  unfold KN at h
  split at h
  ·cases h;rfl
  ·simp at h
 | .cont e,a,x,h=>by
  simp only[SK.get] at h
  unfold HB at h
  split at h
  ·obtain⟨he,e1⟩:=b8 h
   subst he;subst e1;rfl
  ·simp at h
 | .fix b,a,x,h=>by
  simp only[SK.get] at h
  obtain⟨h1,_⟩:=ai h
  exact Hz a b h1
 | .sY i off,a,x,h=>by
  simp only[SK.get] at h
  unfold On at h
  split at h
  ·obtain⟨h1,e⟩:=ai h
   simp only[Bool.and_eq_true] at h1
   rw[Nat.eq_of_beq_eq_true h1.1,Nat.eq_of_beq_eq_true h1.2,e];rfl
  ·simp at h
 | .cD i q,a,x,h=>by
  simp only[SK.get] at h
  unfold LC at h
  split at h
  ·obtain⟨h1,e⟩:=ai h
   simp only[Bool.and_eq_true] at h1
   rw[Nat.eq_of_beq_eq_true h1.1,Nat.eq_of_beq_eq_true h1.2,← e];rfl
  ·simp at h
@[reducible] def XT:List SK→Type
 | []=>Unit
 | s::ss=>s.T×XT ss
def Ln:(l:List SK)→XT l→List AV
 | [],_=>[]
 | s::ss,x=>s.put x.1::Ln ss x.2
def Dr:(l:List SK)→List AV→Option (XT l)
 | [],[]=>some ()
 | s::ss,a::as=>match s.get a,Dr ss as with
  | some x,some y=>some (x,y)
  | _,_=>none
 | _,_=>none
theorem oY:∀ (l:List SK) (as:List AV) (x:XT l),Dr l as=some x→as=Ln l x
 | [],[],x,h=>rfl
 | [],_::_,x,h=>by simp[Dr] at h
 | s::ss,[],x,h=>by simp[Dr] at h
 | s::ss,a::as,x,h=>by
  simp only[Dr] at h
  split at h
  ·rename_i y z h1 h2
   cases h
   rw[SK.Bc s a y h1,oY ss as z h2];rfl
  ·simp at h
def SX:Vf→Vf→Bool
 | .ret,.ret=>true
 | .exit a,.exit b=>Nat.beq a b
 | .goto a,.goto b=>Nat.beq a b
 | _,_=>false
def WE:I3→I3→Bool
 | .ready,.ready=>true
 | .busy,.busy=>true
 | .over,.over=>true
 | .done a,.done b=>SX a b
 | _,_=>false
theorem RO:∀ {a b:I3},WE a b=true→a=b:=by
 intro a b h
 cases a<;>cases b<;>simp only[WE,Bool.false_eq_true] at h<;>try rfl
 rename_i x y
 cases x<;>cases y<;>simp only[SX,Bool.false_eq_true] at h<;>first|rfl|rw[Nat.eq_of_beq_eq_true h]
inductive OS where
 | box (t:TypeId) (ks:List SK)
 | row (t:TypeId) (e:Ty) (g:Nat)
 | eM
 | loop (k r:Nat) (st:I3) (ks:List SK)
 | map
 | gone
 | aM (t ti q:Nat)
 | xH (t ti q:Nat)
@[reducible] def OS.T:OS→Type
 | .box _ ks=>XT ks
 | .row _ e _=>List e.T
 | .eM=>ByteArray×Nat
 | .loop _ _ _ ks=>XT ks
 | .map=>List (Int×Int)
 | .gone=>Unit
 | .aM _ _ _=>List cH.T
 | .xH _ _ _=>List cH.T×Nat
def OS.put:(s:OS)→s.T→Option aR
 | .box t ks,x=>some (.box t (Ln ks x))
 | .row t e g,xs=>some (.row t e g xs)
 | .eM,x=>some (.eM x.1 x.2)
 | .loop k r st ks,x=>some (.loop k r st (Ln ks x))
 | .map,x=>some (.map x)
 | .gone,_=>none
 | .aM t ti q,xs=>some (.aM t ti q xs .own)
 | .xH t ti q,x=>some (.aM t ti q x.1 (.gF x.2))
def Lg (t:TypeId)(ks:List SK):Option aR→Option (XT ks)
 | some (.box t' cs)=>cond (Nat.beq t' t) (Dr ks cs) none
 | _=>none
def Ox (t:TypeId)(e:Ty)(g:Nat):Option aR→Option (List e.T)
 | some (.row t' e' g' xs)=>cond (Nat.beq t' t&&Nat.beq g' g) (fZ (e:=e') (e':=e) xs) none
 | _=>none
def Bo:Option aR→Option (ByteArray×Nat)
 | some (.eM s pos)=>some (s,pos)
 | _=>none
def getLoop (k r:Nat)(st:I3)(ks:List SK):Option aR→Option (XT ks)
 | some (.loop k' r' st' ts)=>cond (Nat.beq k' k&&Nat.beq r' r&&WE st' st) (Dr ks ts) none
 | _=>none
def LL:Option aR→Option (List (Int×Int))
 | some (.map es)=>some es
 | _=>none
def Ht:Option aR→Option Unit
 | none=>some ()
 | _=>none
def Ip (t ti q:Nat):Option aR→Option (List cH.T)
 | some (.aM t' ti' q' xs .own)=>cond (Nat.beq t' t&&Nat.beq ti' ti&&Nat.beq q' q) (some xs) none
 | _=>none
def BN (t ti q:Nat):Option aR→Option (List cH.T×Nat)
 | some (.aM t' ti' q' xs (.gF m))=>cond (Nat.beq t' t&&Nat.beq ti' ti&&Nat.beq q' q) (some (xs,m)) none
 | _=>none
def OS.get:(s:OS)→Option aR→Option s.T
 | .box t ks,o=>Lg t ks o
 | .row t e g,o=>Ox t e g o
 | .eM,o=>Bo o
 | .loop k r st ks,o=>getLoop k r st ks o
 | .map,o=>LL o
 | .gone,o=>Ht o
 | .aM t ti q,o=>Ip t ti q o
 | .xH t ti q,o=>BN t ti q o
theorem dA {α:Type}{c:Bool}{a:Option α}{b:α}(h:cond c a none=some b):c=true∧a=some b:=by
 cases c<;>simp_all
theorem OS.Bc:∀ (s:OS) (o:Option aR) (x:s.T),s.get o=some x→o=s.put x
 | .box t ks,o,x,h=>by
  simp only[OS.get] at h
  unfold Lg at h
  split at h
  ·obtain⟨h1,h2⟩:=dA h
   rw[Nat.eq_of_beq_eq_true h1,oY _ _ _ h2];rfl
  ·simp at h
 | .row t e g,o,x,h=>by
  simp only[OS.get] at h
  unfold Ox at h
  split at h
  ·obtain⟨h1,h2⟩:=dA h
   simp only[Bool.and_eq_true] at h1
   obtain⟨he,e1⟩:=b8 h2
   subst he;subst e1
   rw[Nat.eq_of_beq_eq_true h1.1,Nat.eq_of_beq_eq_true h1.2];rfl
  ·simp at h
 | .eM,o,x,h=>by
  simp only[OS.get] at h
  unfold Bo at h
  split at h
  ·cases h;rfl
  ·simp at h
 | .map,o,x,h=>by
  simp only[OS.get] at h
  unfold LL at h
  split at h
  ·cases h;rfl
  ·simp at h
 | .loop k r st ks,o,x,h=>by
  simp only[OS.get] at h
  unfold getLoop at h
  split at h
  ·obtain⟨h1,h2⟩:=dA h
   simp only[Bool.and_eq_true] at h1
   rw[Nat.eq_of_beq_eq_true h1.1.1,Nat.eq_of_beq_eq_true h1.1.2,RO h1.2,oY _ _ _ h2];rfl
  ·simp at h
 | .gone,o,x,h=>by
  simp only[OS.get] at h
  unfold Ht at h
  split at h
  ·rfl
  ·simp at h
 | .aM t ti q,o,x,h=>by
  simp only[OS.get] at h
  unfold Ip at h
  split at h
  ·obtain⟨h1,h2⟩:=dA h
   simp only[Bool.and_eq_true] at h1
   cases h2
   rw[Nat.eq_of_beq_eq_true h1.1.1,Nat.eq_of_beq_eq_true h1.1.2,Nat.eq_of_beq_eq_true h1.2];rfl
  ·simp at h
 | .xH t ti q,o,x,h=>by
  simp only[OS.get] at h
  unfold BN at h
  split at h
  ·obtain⟨h1,h2⟩:=dA h
   simp only[Bool.and_eq_true] at h1
   cases h2
   rw[Nat.eq_of_beq_eq_true h1.1.1,Nat.eq_of_beq_eq_true h1.1.2,Nat.eq_of_beq_eq_true h1.2];rfl
  ·simp at h
@[reducible] def OT:List (Nat×OS)→Type
 | []=>Unit
 | s::ss=>s.2.T×OT ss
def QJ:(l:List (Nat×OS))→OT l→List (Nat×Option aR)
 | [],_=>[]
 | s::ss,x=>(s.1,s.2.put x.1)::QJ ss x.2
def rG (f:Nat→Option aR):(l:List (Nat×OS))→Option (OT l)
 | []=>some ()
 | s::ss=>match s.2.get (f s.1),rG f ss with
  | some x,some y=>some (x,y)
  | _,_=>none
theorem BX (f:Nat→Option aR):∀ (l:List (Nat×OS)) (x:OT l),rG f l=some x→(l.map (·.1)).map (fun i=>(i,f i))=QJ l x
 | [],x,h=>rfl
 | s::ss,x,h=>by
  simp only[rG] at h
  split at h
  ·rename_i y z h1 h2
   cases h
   simp only[List.map_cons,QJ]
   rw[OS.Bc s.2 _ y h1,BX f ss z h2]
  ·simp at h
@[reducible] def RT:List jm→Type
 | []=>Unit
 | r::rs=>List r.e.T×RT rs
def tF:(l:List jm)→RT l→List (Nat×Option aR)
 | [],_=>[]
 | r::rs,x=>(r.id,some (.row r.te r.e 0 x.1))::tF rs x.2
def VO (σ:St)(r:jm):Option (List r.e.T×Option Nat):=
 match σ.o9 r.at' with
 | .lit (.slice none 0 0)=>some ([],none)
 | .sl a g=>match σ.heap a with
  | some (.row te e g' xs)=>cond (Nat.beq g g'&&Nat.beq te r.te) (match fZ (e:=e) (e':=r.e) xs with
   | some ys=>some (ys,some a)
   | none=>none) none
  | _=>none
 | _=>none
def oT (σ:St):(l:List jm)→Option (RT l×List (Option Nat))
 | []=>some ((),[])
 | r::rs=>match VO σ r,oT σ rs with
  | some (x,s),some (y,ss)=>some ((x,y),s::ss)
  | _,_=>none
theorem Ek {σ:St}{r:jm}{x:List r.e.T}{s:Option Nat}(h:VO σ r=some (x,s)):BD σ r=some ⟨r.id,s,r.te,r.e,x⟩:=by
 unfold VO at h
 unfold BD
 split at h
 ·rename_i hx;cases h;simp only[hx]
 ·rename_i a g hx
  simp only[hx]
  split at h
  ·rename_i te e g' xs hH
   simp only[hH]
   cases hb:(Nat.beq g g'&&Nat.beq te r.te) with
   | false=>rw[hb] at h;simp at h
   | true=>
    rw[hb] at h
    simp only[cond_true] at h ⊢
    split at h
    ·rename_i ys hc;cases h;simp only[hc]
    ·simp at h
  ·simp at h
 ·simp at h
theorem o6 {σ:St}:∀ {l:List jm} {x:RT l} {ss:List (Option Nat)},oT σ l=some (x,ss) →
  ∃ ls,CV σ l=some ls∧ls.map (fun s=>(s.id,some (aR.row s.te s.e 0 s.xs)))=tF l x∧ls.map (·.id)=l.map (·.id)∧Src.list ls=ss.filterMap id
 | [],x,ss,h=>by simp only[oT,Option.some.injEq,Prod.mk.injEq] at h;obtain⟨_,rfl⟩:=h;exact⟨[],rfl,rfl,rfl,rfl⟩
 | r::rs,x,ss,h=>by
  simp only[oT] at h
  split at h
  ·rename_i y s z ss' h1 h2
   cases h
   obtain⟨ls,k1,k2,k3,k4⟩:=o6 h2
   refine⟨⟨r.id,s,r.te,r.e,y⟩::ls,?_,?_,?_,?_⟩
   ·simp only[CV,Ek h1,k1]
   ·simp only[List.map_cons,k2,tF]
   ·simp only[List.map_cons,k3]
   ·unfold Src.list at k4 ⊢
    cases s with
    | none=>simp only[List.filterMap_cons,k4,id]
    | some a=>simp only[List.filterMap_cons,k4,id]
  ·simp at h
structure aj where
 nt:Nat
 keep:List (Nat×SK)
 od:List (Nat×OS)
 own:List (Nat×OS)
 rows:List jm
def aj.hint (s:aj):Hint:=⟨s.keep.map (·.1),s.own.map (·.1),s.rows⟩
@[reducible] def aj.X (s:aj):Type:=XT (s.keep.map (·.2))×OT (s.od++s.own)×RT s.rows
def aj.ids (s:aj):List Nat:=(s.od++s.own).map (·.1)
def Qq:List Nat→List AV→List (Nat×AV)
 | t::ts,a::as=>(t,a)::Qq ts as
 | _,_=>[]
def aj.Ef (s:aj)(x:s.X):St:=
 ⟨s.nt,WW (BF s.rows++Qq (s.keep.map (·.1)) (Ln _ x.1)),Ie (tF _ x.2.2++QJ _ x.2.1),s.ids++s.rows.map (·.id)⟩
def lR:List Nat→List Nat→Bool
 | [],[]=>true
 | a::as,b::bs=>Nat.beq a b&&lR as bs
 | _,_=>false
theorem fw:∀ {as bs:List Nat},lR as bs=true→as=bs
 | [],[],_=>rfl
 | [],_::_,h=>by simp[lR] at h
 | _::_,[],h=>by simp[lR] at h
 | a::as,b::bs,h=>by
  simp only[lR,Bool.and_eq_true] at h
  rw[Nat.eq_of_beq_eq_true h.1,fw h.2]
def aj.fits (s:aj)(σ:St)(ss:List (Option Nat)):Bool:=
 Nat.beq σ.nt s.nt&&distinct (ss.filterMap id)&&distinct (s.rows.map (·.id))&&s.rows.all (fun r=>!mem s.ids r.id)&&(ss.filterMap id).all (fun a=>!mem s.ids a)
def aj.read (s:aj)(σ:St):Option s.X:=
 match Dr (s.keep.map (·.2)) ((s.keep.map (·.1)).map fun t=>clean s.ids (σ.val (.tmp t))),rG (fun i=>(σ.heap i).map (mQ s.rows s.ids i)) (s.od++s.own),oT σ s.rows with
 | some x,some y,some (z,ss)=>cond (s.fits σ ss) (some (x,y,z)) none
 | _,_,_=>none
theorem Dv (f:Nat→AV):∀ (l:List Nat),l.map (fun t=>(t,f t))=Qq l (l.map f)
 | []=>rfl
 | t::l=>by simp only[List.map_cons,Qq,Dv f l]
theorem aj.rV {s:aj}{σ:St}{x:s.X}(h:s.read σ=some x):head (s.od.map (·.1)) s.hint σ=some (s.Ef x):=by
 unfold aj.read at h
 split at h
 ·rename_i y z r ss h1 h2 h3
  obtain⟨hf,rfl⟩:=ai h
  unfold aj.fits at hf
  simp only[Bool.and_eq_true] at hf
  obtain⟨⟨⟨⟨f1,f2⟩,f3⟩,f4⟩,f5⟩:=hf
  obtain⟨ls,k1,k2,k3,k4⟩:=o6 h3
  have hL:s.od.map (·.1)++s.hint.ids=s.ids:=by simp[aj.hint,aj.ids]
  have g1:=oY _ _ _ h1
  have g2:=BX _ _ _ h2
  unfold head
  simp only[hL]
  have hs:CV σ s.hint.rows=some ls:=k1
  rw[hs]
  have e1:ls.all (fun p=>!mem s.ids p.id)=true:=by
   rw[List.all_eq_true] at f4 ⊢
   intro p hp
   have:p.id∈s.rows.map (·.id):=by rw[← k3];exact List.mem_map.2 ⟨p,hp,rfl⟩
   obtain⟨q,hq,e⟩:=List.mem_map.1 this
   rw[← e];exact f4 q hq
  simp only[k3,k4,f2,f3,e1,f5,Bool.and_self,Bool.and_true,cond_true]
  rw[Nat.eq_of_beq_eq_true f1]
  simp only[aj.Ef,Option.some.injEq,St.mk.injEq,true_and]
  refine⟨?_,?_,trivial⟩
  ·congr 1
   show BF s.rows++(s.keep.map (·.1)).map (fun t=>(t,clean s.ids (σ.val (.tmp t))))=_
   rw[Dv (fun t=>clean s.ids (σ.val (.tmp t))),g1]
  ·rw[k2]
   congr 2
 ·simp at h
def Le {α:Type}(a b:Option α):Prop:=∀ r,a=some r→b=some r
theorem Le.refl {α:Type}(a:Option α):Le a a:=fun _ h=>h
theorem Le.of_eq {α:Type}{a b:Option α}(h:a=b):Le a b:=h ▸ Le.refl a
theorem Le.none {α:Type}(b:Option α):Le Option.none b:=fun _ h=>by simp at h
theorem Le.trans {α:Type}{a b c:Option α}(h:Le a b)(k:Le b c):Le a c:=fun r x=>k r (h r x)
theorem Le.bind {α β:Type}{a:Option α}{f g:α→Option β}(h:∀ x,Le (f x) (g x)):Le (a.bind f) (a.bind g):=by
 cases a with
 | none=>exact Le.none _
 | some x=>exact h x
inductive R3 (α β γ:Type) where
 | next (x:α)
 | out (y:β)
 | ret (y:γ)
def iter {α β γ:Type}:Nat→(α→Option (R3 α β γ))→α→Option (Sum β γ)
 | 0,_,_=>none
 | n+1,f,x=>match f x with
  | some (.next x')=>iter n f x'
  | some (.out y)=>some (.inl y)
  | some (.ret y)=>some (.inr y)
  | none=>none
structure aK where
 n:Nat
 k:Nat
 shape:aj
 OA:Nat
 out:aj
 ret:aj
 step:shape.X→Option (R3 shape.X out.X ret.X)
 rnd:Bool:=false
 lab:Option Nat:=none
 sel:Option (Nat×Int):=none
 fk:List (Nat×Nat×Nat):=[]
def aK.rf (s:aK):Option Nat:=cond s.rnd none (some s.k)
def Rj:Option Nat→Option Nat→Bool
 | none,none=>true
 | some a,some b=>Nat.beq a b
 | _,_=>false
theorem s8 {a b:Option Nat}(h:Rj a b=true):a=b:=by
 cases a<;>cases b<;>simp only[Rj,Bool.false_eq_true] at h<;>first|rfl|rw[Nat.eq_of_beq_eq_true h]
def aK.od (s:aK):List Nat:=s.shape.od.map (·.1)
def aK.lh (s:aK):oR:=⟨s.shape.hint,some s.out.hint,some s.ret.hint,s.fk⟩
def aK.fits (s:aK)(n k:Nat)(od:List Nat)(rf lab:Option Nat):Bool:=
 Rj s.lab lab&&Rj s.rf rf&&Nat.beq s.n n&&Nat.beq s.k k&&lR s.od od&&lR (s.out.od.map (·.1)) od&&lR (s.ret.od.map (·.1)) od
def aK.Tk (s:aK)(σ:St):Bool:=
 match s.sel with
 | none=>true
 | some (t,i)=>match σ.tmps t with
  | .lit (.int _ j)=>decide (j=i)
  | _=>false
abbrev oe:=Nat→Nat→St→Option aK
def sumOf (Sm:oe)(base:Nat)(x:Code)(σ:St):Option aK:=
 match bC x with
 | some r=>Sm base r σ
 | none=>none
def aU (Sm:oe):Hints:=fun base r σ=>match Sm base r σ with
 | some s=>some s.lh
 | none=>none
def Xy:Code→Code→List Code
 | .label _,y=>[y]
 | _,_=>[]
def aJ:Code→List Code
 | .seq x y=>Xy x y++(aJ x++aJ y)
 | .scope x=>aJ x
 | .cond _ x y=>aJ x++aJ y
 | .block _ x=>aJ x
 | .loop x=>x::aJ x
 | .rangeFunc _ _ x y=>aJ x++aJ y
 | _=>[]
def St.Ja (σ:St)(d:Nat)(v:AV):St:=⟨σ.nt,aN σ.tmps d v,σ.heap,σ.ids⟩
section
variable {R:Type}
def nj (σ:St)(H:Heap)(L:List Nat)(dst:Option Tmp)(v:AV)(k:St→Option R):Option R:=
 match dst with
 | none=>k ⟨σ.nt,σ.tmps,H,L⟩
 | some d=>cond (nE d σ.nt) (k ⟨σ.nt,aN σ.tmps d v,H,L⟩) none
def nY (σ:St)(id:Nat)(dst:Option Tmp)(e:Gb)(k:St→List Nat→Option R):Option R:=
 cond (e.new && !(bc σ.heap e.sets&&eL id e.sets)) none (nj σ (aY σ.heap e.sets) σ.ids dst e.v fun σ'=>k σ' (cond e.new (e.sets.map (·.1)) []))
def jf (σ:St)(x:Operand)(k:St→Bool→Option R)(skip:Option R):Option R:=
 match σ.val x with
 | .lit (.bool c)=>match x with
  | .tmp d=>cond c (k (σ.Ja d (.lit (.bool true))) true) (k (σ.Ja d (.lit (.bool false))) false)
  | _=>cond c (k σ true) (k σ false)
 | .lit (.tuple _)=>skip
 | _=>none
abbrev fp (R:Type):=Nat→Callee→List AV→Heap→List Nat→(AV→Heap→List Nat→Option R)→Option R
def tw (u:bI)(Hh:Heap)(i g:Nat)(part:Option Nat)(rest:List AV)(k:aR→AV→Option R):Option R:=
 match Hh i with
 | some (.row te e g' xs)=>match fZ (e:=e) (e':=u.e) (match part with
   | none=>xs
   | some b=>xs.take b) with
  | some zs=>match ct (cond u.e.flat (fun q=>cond (Nat.beq q i) none (Hh q)) (fun _=>none)) u.ps rest with
   | some x=>(u.f zs x).bind fun ys=>cond (Nat.beq g g'&&Nat.beq te u.te&&u.e.notNil) (match u.keep with
      | true=>cond (Nat.beq (List.length ys) (List.length zs)&&part.isNone) (k (.row te u.e g ys) (.lit (.tuple #[]))) none
      | false=>k (.row te u.e (g+1) ys) (.sl i (g+1))) none
   | none=>none
  | none=>none
 | _=>none
def Vd (u:bI)(Hh:Heap)(i:Nat)(zs:List Int)(k:aR→AV→Option R):Option R:=
 match u with
 | ⟨te,.nil,[.row (.int .u8)],true,f⟩=>match Hh i with
  | some (.aM t ti q xs (.gF m))=>(f [] (zs,())).bind fun _=>cond (Nat.beq te ti) (cond (decide (m<xs.length)) (k (.aM t ti q (xs.set m ((rd cH xs m).1,(zs,(rd cH xs m).2.2))) (.late m)) (.cD i q m 0 zs.length)) none) none
  | _=>none
 | _=>none
theorem Px (u:bI)(Hh:Heap)(i:Nat)(zs:List Int)(k:aR→AV→Option R):Vd u Hh i zs k=match ov u Hh i zs with
  | some (o,v)=>k o v
  | none=>none:=by
 unfold Vd ov
 split
 ·rename_i u' te f
  dsimp only
  cases Hh i with
  | none=>rfl
  | some o=>
   cases o with
   | aM t ti q xs st=>
    cases st with
    | gF m=>
     dsimp only
     cases f [] (zs,()) with
     | none=>rfl
     | some r=>
      simp only[Option.bind_some]
      cases Nat.beq te ti with
      | false=>rfl
      | true=>
       simp only[cond_true]
       cases decide (m<xs.length)<;>rfl
    | _=>rfl
   | _=>rfl
 ·rename_i u' hn
  split
  ·rename_i h
   split at h
   ·exact absurd rfl (hn _ _)
   ·cases h
  ·rfl
def IE (u:bI)(Hh:Heap)(as:List AV)(k:Nat→aR→AV→Option R):Option R:=
 match as with
 | [.H8 i zs]=>Vd u Hh i zs (k i)
 | .sl i g::rest=>tw u Hh i g none rest (k i)
 | .sub i g a b::rest=>cond (Nat.beq a 0) (tw u Hh i g (some b) rest (k i)) none
 | _=>none
theorem ul (u:bI)(Hh:Heap)(i g:Nat)(part:Option Nat)(rest:List AV)(k:aR→AV→Option R):tw u Hh i g part rest k=match iZ u Hh i g part rest with
  | some (o,v)=>k o v
  | none=>none:=by
 unfold tw iZ
 generalize ct (cond u.e.flat (fun q=>cond (Nat.beq q i) none (Hh q)) (fun _=>none)) u.ps rest=d
 cases Hh i with
 | none=>rfl
 | some o=>
  cases o with
  | row te e g' xs=>
   simp only
   generalize fZ (e:=e) (e':=u.e) (match part with
    | none=>xs
    | some b=>xs.take b)=q
   cases q with
   | none=>rfl
   | some zs=>
    cases d with
    | none=>rfl
    | some x=>
     simp only
     cases u.f zs x with
     | none=>rfl
     | some ys=>
      simp only[Option.bind_some]
      cases (Nat.beq g g'&&Nat.beq te u.te&&u.e.notNil) with
      | false=>rfl
      | true=>
       simp only[cond_true]
       cases u.keep with
       | true=>simp only;cases (Nat.beq (List.length ys) (List.length zs)&&part.isNone)<;>rfl
       | false=>rfl
  | _=>rfl
theorem Pu (u:bI)(Hh:Heap)(as:List AV)(k:Nat→aR→AV→Option R):IE u Hh as k=match iO u Hh as with
  | some (i,o,v)=>k i o v
  | none=>none:=by
 cases as with
 | nil=>rfl
 | cons x rest=>
  cases x with
  | H8 i zs=>
   cases rest with
   | nil=>
    simp only[IE,iO]
    rw[Px]
    cases ov u Hh i zs<;>rfl
   | cons _ _=>rfl
  | sl i g=>
   simp only[IE,iO]
   rw[ul]
   cases iZ u Hh i g none rest<;>rfl
  | sub i g a b=>
   simp only[IE,iO]
   rw[ul]
   cases Nat.beq a 0 with
   | false=>rfl
   | true=>simp only[cond_true];cases iZ u Hh i g (some b) rest<;>rfl
  | _=>rfl
def Ij (kp:AV→Heap→List Nat→Option R)(k:AV→Heap→List Nat→Option R):AV→Heap→List Nat→Option R
 | .fh x=>fun H L=>kp x H L
 | v=>fun H L=>k v H L
def KD (P:Program)(t:TypeId)(a b:AV):Option (Nat×Nat×Nat×Nat×Int):=
 match a,b with
 | .ptr j off,.lit (.int _ i)=>match P.underlying t with
  | some (.array n el)=>match P.info? el with
   | some inf=>some (j,off,n,inf.size,i)
   | none=>none
  | _=>none
 | _,_=>none
def wX (i:Int):Nat→Nat→(Nat→Option R)→Option R
 | _,0,_=>none
 | m,n+1,K=>cond (decide (i=(m:Int))) (K m) (wX i (m+1) n K)
theorem nX {i:Int}{r:R}:∀ (n m:Nat) (K:Nat→Option R),wX i m n K=some r→∃ q,q<m+n∧i=(q:Int)∧K q=some r
 | 0,m,K,h=>by simp[wX] at h
 | n+1,m,K,h=>by
  simp only[wX] at h
  by_cases hi:i=(m:Int)
  ·rw[decide_eq_true hi] at h
   exact⟨m,by omega,hi,h⟩
  ·rw[decide_eq_false hi] at h
   obtain⟨q,h1,h2⟩:=nX n (m+1) K h
   exact⟨q,by omega,h2⟩
def Lh (P:Program)(C:Cons)(G:fp R)(Hh:Heap)(id:Nat)(o:Oper)(σ:St)(kp:AV→Heap→List Nat→Option R)(k:St→List Nat→Option R):Option R:=
 cond (lH C id o) (match lN P id o σ.val with
  | some (c,v)=>cond c (nj σ σ.heap σ.ids o.dst v fun σ'=>k σ' []) none
  | none=>none) (match sem P Hh id o σ.val with
  | some (.val c v)=>cond c (nj σ σ.heap σ.ids o.dst v fun σ'=>k σ' []) none
  | some (.new c i ob v)=>cond c (nY σ id o.dst ⟨[(i,ob)],true,v⟩ k) none
  | some (.wr c i ob v)=>cond c (nY σ id o.dst ⟨[(i,ob)],false,v⟩ k) none
  | some (.Pj c i ob v u)=>cond c (nY σ id o.dst ⟨[(i,ob)],false,v⟩ k) (nY σ id o.dst ⟨[],false,u⟩ k)
  | some (.call kk as)=>match gV C o kk with
   | some u=>IE u Hh as fun i ob v=>nY σ id o.dst ⟨[(i,ob)],false,v⟩ k
   | none=>match qI C kk with
   | some oh=>match Bm P o,ct (gT oh Hh) oh.ps as with
    | true,some x=>(oh.f x).bind fun y=>nY σ id o.dst ⟨gK oh.rs y id,true,ga (qi oh.rs y id)⟩ k
    | _,_=>none
   | none=>G id kk as σ.heap σ.ids (Ij kp fun v H' L'=>nj σ H' L' o.dst v fun σ'=>k σ' [])
  | none=>none)
def KH (P:Program)(C:Cons)(G:fp R)(Hh:Heap)(id:Nat)(o:Oper)(σ:St)(kp:AV→Heap→List Nat→Option R)(k:St→List Nat→Option R):Option R:=
 match o.op with
 | .panic x=>match σ.val x with
  | .AZ t v=>kp (.AZ t v) σ.heap σ.ids
  | _=>none
 | .pick c a b=>jf σ c (fun σ t=>nj σ σ.heap σ.ids o.dst (cond t (σ.val a) (σ.val b)) fun σ'=>k σ' []) none
 | .indexAddr t x y=>match KD P t (σ.val x) (σ.val y) with
  | some (j,off,n,sz,i)=>wX i 0 n fun m=>nj σ σ.heap σ.ids o.dst (.ptr j (off+m * sz)) fun σ'=>k σ' []
  | none=>Lh P C G Hh id o σ kp k
 | _=>Lh P C G Hh id o σ kp k
def RX (P:Program)(C:Cons)(G:fp R)(ops:Array Oper)(hide:Heap→Heap)(id i:Nat)(σ:St)(kp:AV→Heap→List Nat→Option R)(k:St→List Nat→Option R):Option R:=
 match ops[i]? with
 | none=>k σ []
 | some o=>match o.guard with
  | none=>KH P C G (hide σ.heap) id o σ kp k
  | some (j,b)=>match ops[j]? with
   | some g=>match g.dst with
    | some d=>jf σ (.tmp d) (fun σ c=>cond (c == b) (KH P C G (hide σ.heap) id o σ kp k) (nj σ σ.heap σ.ids o.dst (.lit undef) fun σ'=>k σ' [])) (nj σ σ.heap σ.ids o.dst (.lit undef) fun σ'=>k σ' [])
    | none=>nj σ σ.heap σ.ids o.dst (.lit undef) fun σ'=>k σ' []
   | none=>nj σ σ.heap σ.ids o.dst (.lit undef) fun σ'=>k σ' []
def Pq (P:Program)(C:Cons)(G:fp R)(ops:Array Oper)(base:Nat):List Nat→St→(Ex→St→Option R)→Option R
 | [],σ,k=>k .dG σ
 | i::l,σ,k=>RX P C G ops (fun H=>H) (base+i * 16) i σ (fun x H' L'=>k (.fh x) ⟨σ.nt,σ.tmps,H',L'⟩) fun σ' L=>Pq P C G ops base l (σ'.ay L) k
def SA (P:Program)(C:Cons)(ops:Array Oper)(m:List Nat)(W:List (Option Nat))(base:Nat):List Nat→List Nat→St→(St→Option R)→Option R
 | [],L,σ,k=>k (σ.ay L)
 | i::l,L,σ,k=>cond (kO P C ops m W i σ) (RX P C (fun _ _ _ _ _ _=>none) ops (bW base ops.size (m.getD i 0) (qq m W ops.size i)) (base+i * 16) i σ (fun _ _ _=>none) fun σ' L'=>SA P C ops m W base l (L++L') σ' k) none
def K0 (P:Program)(C:Cons)(ops:Array Oper)(base:Nat)(σ:St)(k:St→Option R):Option R:=
 cond (bH P C ops (aB ops)) (SA P C ops (aB ops) (nU P C ops (aB ops) base σ) base (List.range ops.size) [] σ k) none
def Sn (ops:Array Oper):Nat→Nat→Nat→Option Nat
 | 0,_,_=>none
 | n+1,b,t=>match tv t b ops.toList 0 with
  | some (y,o)=>match o.op with
   | .move (.tmp t')=>Sn ops n y t'
   | _=>none
  | none=>some t
def Sg (P:Program)(ops:Array Oper):List Oper→Nat→Option (Nat×Nat)
 | [],_=>none
 | o::l,b=>match (match o.op with
  | .indexAddr t _ (.tmp d)=>match P.underlying t with
   | some (.array n _)=>match Sn ops 9 b d with
    | some d'=>some (d',n)
    | none=>none
   | _=>none
  | _=>none) with
  | some r=>some r
  | none=>Sg P ops l (b+1)
def HO (P:Program)(C:Cons)(G:fp R)(ops:Array Oper)(base z:Nat)(σ:St)(k:Ex→St→Option R):Option R:=
 RX P C G ops (fun H=>H) (base+z * 16) z σ (fun x H' L'=>k (.fh x) ⟨σ.nt,σ.tmps,H',L'⟩) fun σ' L=>k .dG (σ'.ay L)
def Gj (P:Program)(C:Cons)(G:fp R)(ops:Array Oper)(base:Nat)(σ:St)(k:Ex→St→Option R):Option R:=
 match vM C ops (aB ops) with
 | none=>K0 P C ops base σ (k .dG)
 | some z=>cond (bH P C ops (aB ops)) (SA P C ops (aB ops) (nU P C ops (aB ops) base σ) base (List.range z) [] σ fun σ'=>HO P C G ops base z σ' k) none
def VV (P:Program)(C:Cons)(ops:Array Oper)(m:List Nat)(W:List (Option Nat))(base z:Nat):List Nat→List Nat→St→(St→Option R)→Option R
 | [],L,σ,k=>k (σ.ay L)
 | i::l,L,σ,k=>cond (kO P C ops m W i σ) (RX P C (fun _ _ _ _ _ _=>none) ops (bW base ops.size (m.getD i 0) (qq m W ops.size i)) (base+i * 16) i σ (fun _ _ _=>none) fun σ' L'=>
  cond (rz m z i) (cond (tL ops i σ σ') (VV P C ops m W base z l L σ k) none) (VV P C ops m W base z l (L++L') σ' k)) none
def V6 (P:Program)(C:Cons)(G:fp R)(ops:Array Oper)(base z:Nat)(σ:St)(k:Ex→St→Option R):Option R:=
 cond (bH P C ops (aB ops)) (SA P C ops (aB ops) (nU P C ops (aB ops) base σ) base (dV (aB ops) z ops.size) [] σ fun σ1=>
  RX P C G ops (fun H=>H) (base+z * 16) z σ1 (fun x H' L'=>k (.fh x) ⟨σ1.nt,x6 ops (aB ops) z σ1,H',L'⟩) fun σ2 L=>
   VV P C ops (aB ops) (nU P C ops (aB ops) base σ) base z (xZ (aB ops) z ops.size) [] (σ2.ay L) (k .dG)) none
def MZ (P:Program)(C:Cons)(G:fp R)(ops:Array Oper)(base z z2:Nat)(σ:St)(k:Ex→St→Option R):Option R:=
 cond (bH P C ops (aB ops)) (SA P C ops (aB ops) (nU P C ops (aB ops) base σ) base (dV (aB ops) z ops.size) [] σ fun σ1=>
  RX P C G ops (fun H=>H) (base+z * 16) z σ1 (fun x H' L'=>k (.fh x) ⟨σ1.nt,x6 ops (aB ops) z σ1,H',L'⟩) fun σ2 L=>
   VV P C ops (aB ops) (nU P C ops (aB ops) base σ) base z (lU (aB ops) z ops.size z2) [] (σ2.ay L) fun σ3=>HO P C G ops base z2 σ3 k) none
def AM (P:Program)(C:Cons)(G:fp R)(ops:Array Oper)(base:Nat)(σ:St)(k:Ex→St→Option R):Option R:=
 match N6 C ops (aB ops) with
 | some (z,z2)=>MZ P C G ops base z z2 σ k
 | none=>match NU C ops (aB ops) with
  | some z=>V6 P C G ops base z σ k
  | none=>Gj P C G ops base σ k
def vB (P:Program)(C:Cons)(G:fp R)(ops:Array Oper)(base:Nat)(σ:St)(k:Ex→St→Option R):Option R:=
 match GS P ops σ ops.toList 0 with
 | some j=>AM P C G ops base σ fun e σ'=>k e (σ.align j σ')
 | none=>AM P C G ops base σ k
def OP (P:Program)(C:Cons)(G:fp R)(ops:Array Oper)(base:Nat)(σ:St)(k:Ex→St→Option R):Option R:=
 match Sg P ops ops.toList 0 with
 | some (d,n)=>match σ.tmps d with
  | .lit (.int kk i)=>wX i 0 n fun m=>vB P C G ops base (σ.Ja d (.lit (.int kk (m:Int)))) k
  | _=>vB P C G ops base σ k
 | none=>vB P C G ops base σ k
def Dq:Nat→(St→(Ex→St→Option R)→Option R)→St→(Ex→St→Option R)→Option R
 | 0,_,_,_=>none
 | n+1,f,σ,k=>f σ fun e σ'=>match e with
  | .dG=>Dq n f σ' k
  | .fh _=>none
  | e=>k e σ'
def yQ (σ:St)(i:Nat)(H:Heap)(L:List Nat)(k:Ex→St→Option R):Option R:=
 match H i with
 | some (.loop kk r .ready ts)=>k .dG ⟨σ.nt,σ.tmps,aN H i (some (.loop kk r .over ts)),L⟩
 | some (.loop kk r (.done j) ts)=>k j.ex ⟨σ.nt,σ.tmps,aN H i (some (.loop kk r .over ts)),L⟩
 | _=>none
def Eh (P:Program)(G:fp R)(base:Nat)(rf:Option Nat)(g:Operand)(body:Code)(σ:St)(k:Ex→St→Option R):Option R:=
 match rf,σ.val g,bC body with
 | some fid,.fn (.func kk) first caps,some r=>match dz P fid r with
  | some x=>match NR σ base fid r x with
   | some (σ1,i)=>cond (je P kk) (G (i+1) (.fn kk) (first++[.ja i]++caps) σ1.heap σ1.ids (Ij (fun _ _ _=>none) fun _ H L=>yQ σ i H L k)) none
   | none=>none
  | none=>none
 | _,_,_=>none
def GJ (i k r:Nat)(e:Ex)(σ:St)(K:AV→Heap→List Nat→Option R):Option R:=
 match vC i k r e σ with
 | some (v,H,L)=>K v H L
 | none=>none
def wP (l:Nat)(k:Ex→St→Option R):Ex→St→Option R:=fun e σ=>match e with
 | .dG=>k (.exit yM) σ
 | .goto i=>cond (Nat.beq i l) (k .dG σ) none
 | .exit i=>cond (Nat.beq i yM) none (k (.exit i) σ)
 | .ret=>k .ret σ
 | .fh _=>none
def td (k:Ex→St→Option R):Ex→St→Option R:=fun e σ=>match e with
 | .exit i=>cond (Nat.beq i yM) (k .dG σ) (k (.exit i) σ)
 | .ret=>k .ret σ
 | _=>none
def cC (P:Program)(C:Cons)(Sm:oe)(G:fp R)(n fid lf base:Nat)(od:List Nat)(rf:Option Nat):Bool→Code→St→(Ex→St→Option R)→Option R
 | _,.skip,σ,k=>k .dG σ
 | _,.region id ops draw,σ,k=>
  cond draw (OP P C G ops (nq base id) σ k) (Pq P C G ops (nq base id) (List.range ops.size) σ k)
 | false,.seq x y,σ,k=>cC P C Sm G n fid lf base od rf false x σ fun e σ'=>match e with
  | .dG=>cC P C Sm G n fid lf base od rf false y σ' k
  | e=>k e σ'
 | true,.seq x y,σ,k=>match oL x with
  | some l=>match sumOf Sm base y σ with
   | some s=>cond (s.fits n fid od rf (some l)) (match s.shape.read σ with
    | some z=>(iter lf s.step z).bind fun r=>match r with
     | .inl y=>td k (.exit s.OA) (s.out.Ef y)
     | .inr y=>k .ret (s.ret.Ef y)
    | none=>none) none
   | none=>Dq lf (fun σ k'=>cC P C Sm G n fid lf base od rf false y σ (wP l k')) σ (td k)
  | none=>cC P C Sm G n fid lf base od rf false x σ fun e σ'=>match e with
   | .dG=>cC P C Sm G n fid lf base od rf true y σ' k
   | .goto _=>none
   | e=>k e σ'
 | _,.cond c x y,σ,k=>jf σ c (fun σ' b=>cond b (cC P C Sm G n fid lf base od rf false x σ' k) (cC P C Sm G n fid lf base od rf false y σ' k)) none
 | _,.block id x,σ,k=>cC P C Sm G n fid lf base od rf false x σ fun e σ'=>match e with
  | .exit i=>cond (Nat.beq i id) (k .dG σ') (k (.exit i) σ')
  | e=>k e σ'
 | _,.loop x,σ,k=>match sumOf Sm base x σ with
  | some s=>cond (s.fits n fid od rf none) (match s.shape.read (σ.fk s.fk) with
   | some z=>(iter lf s.step z).bind fun r=>match r with
    | .inl y=>k (.exit s.OA) (s.out.Ef y)
    | .inr y=>k .ret (s.ret.Ef y)
   | none=>none) none
  | none=>Dq lf (cC P C Sm G n fid lf base od rf false x) σ k
 | _,.exit id,σ,k=>k (.exit id) σ
 | _,.label _,σ,k=>k .dG σ
 | _,.ret,σ,k=>k .ret σ
 | _,.rangeFunc g _ _ body,σ,k=>Eh P G base rf g body σ k
 | _,.scope x,σ,k=>cond (iv x) (cC P C Sm G n fid lf base od rf true x σ fun e σ'=>match e with
   | .goto _=>none
   | e=>k e σ') none
 | _,.goto l,σ,k=>k (.goto l) σ
 | _,_,_,_=>none
def Bn (P:Program)(rs:List ResultVar)(σ:St)(k:AV→Heap→List Nat→Option R):Option R:=
 match eR P σ rs with
 | some vs=>k (ga vs) σ.heap σ.ids
 | none=>none
end
def UY (i k r:Nat){R:Type}(asn body:St→(Ex→St→Option R)→Option R)(σ:St)(K:AV→Heap→List Nat→Option R):Option R:=
 asn σ fun e σ1=>match e with
  | .dG=>match oX i k r σ1 with
   | some σ2=>body σ2 fun e σ3=>GJ i k r e σ3 K
   | none=>none
  | _=>none
def oG (P:Program)(C:Cons)(Sm:oe)(lf:Nat){R:Type}:Nat→fp R
 | 0=>fun _ _ _ _ _ _=>none
 | n+1=>fun base c as H L K=>match c with
  | .fn k=>match P.funcs[k]? with
   | some fn=>match fn.body with
    | some c=>cond (Nat.ble as.length fn.ntmps) (cC P C Sm (oG P C Sm lf n) n k lf (Nat.succ base * 4294967296) L (some k) false c ⟨fn.ntmps,eZ as,H,L⟩ fun e σ=>match e with
     | .dG=>Bn P fn.results.toList σ K
     | .ret=>Bn P fn.results.toList σ K
     | .fh v=>K (.fh v) σ.heap σ.ids
     | _=>none) none
    | none=>none
   | none=>none
  | .ja i=>match uc P i as H L with
   | some (k,r,x,σ)=>UY i k r (cC P C Sm (oG P C Sm lf n) n k lf (Nat.succ base * 4294967296) L none false x.2.1) (cC P C Sm (oG P C Sm lf n) n k lf (Nat.succ base * 4294967296) L none false x.2.2) σ K
   | none=>none
def Fh (P:Program)(C:Cons)(Sm:oe)(lf n k:Nat)(ps:List Ty)(rs:List dM)(x:cS ps):Option (xp rs):=
 oG P C Sm lf n 0 (.fn k) (cF ps x) (fun _=>none) [] fun v H L=>gY rs (some (v,H,L))
def aK.iS (s:aK):Ex→St→Option (R3 s.shape.X s.out.X s.ret.X)
 | .dG,σ=>match s.shape.read σ with
  | some x=>some (.next x)
  | none=>none
 | .exit i,σ=>cond (Nat.beq i s.OA) (match s.out.read σ with
  | some y=>some (.out y)
  | none=>none) none
 | .ret,σ=>match s.ret.read σ with
  | some y=>some (.ret y)
  | none=>none
 | _,_=>none
def aK.zo (s:aK):Ex→St→Option (R3 s.shape.X s.out.X s.ret.X):=
 match s.lab with
 | none=>s.iS
 | some l=>wP l s.iS
def gE (P:Program)(C:Cons)(Sm:oe)(lf:Nat):Prop:=
 ∀ base r σ s,Sm base r σ=some s→∀ fn c x,P.funcs[s.k]? = some fn→fn.body=some c→x∈aJ c→bC x=some r →
  ∀ z,Le (s.step z) (cC P C Sm (oG P C Sm lf s.n) s.n s.k lf base s.od s.rf false x (s.shape.Ef z) s.zo)
theorem Nj {α:Type}(f:Nat→α)(i:Nat)(v:α)(h:f i=v):aN f i v=f:=by
 funext n
 by_cases e:n=i
 ·subst e;rw[au,h]
 ·rw[ax _ _ e]
theorem rE {σ:St}{d:Nat}{v:AV}(h:σ.tmps d=v):σ.Ja d v=σ:=by
 unfold St.Ja;rw[Nj _ _ _ h]
section
variable {R:Type}{P:Program}{C:Cons}
theorem kC (σ:St)(H:Heap)(L:List Nat)(dst:Option Tmp)(v:AV)(k:St→Option R):nj σ H L dst v k=((⟨σ.nt,σ.tmps,H,L⟩:St).put dst v).bind k:=by
 cases dst with
 | none=>rfl
 | some d=>
  simp only[nj,St.put]
  cases nE d σ.nt<;>rfl
theorem zM (σ:St)(id:Nat)(dst:Option Tmp)(e:Gb)(k:St→List Nat→Option R) :
  nY σ id dst e k=(σ.CU id dst e).bind fun σ'=>k σ' (cond e.new (e.sets.map (·.1)) []):=by
 unfold nY St.CU
 cases (e.new && !(bc σ.heap e.sets&&eL id e.sets)) with
 | true=>rfl
 | false=>simp only[cond_false];exact kC _ _ _ _ _ _
theorem nV {σ:St}{x:Operand}{c:Bool}(h:σ.val x = .lit (.bool c))(k:St→Bool→Option R)(skip:Option R):jf σ x k skip=k σ c:=by
 unfold jf
 rw[h]
 cases x with
 | tmp d=>
  have hd:σ.tmps d = .lit (.bool c):=by
   simp only[St.val] at h
   cases hl:nE d σ.nt with
   | true=>rw[hl] at h;exact h
   | false=>rw[hl] at h;simp at h
  cases c
  ·simp only[cond_false];rw[rE hd]
  ·simp only[cond_true];rw[rE hd]
 | const v=>cases c<;>rfl
 | global g=>cases c<;>rfl
 | func f=>cases c<;>rfl
def iB (F:jq)(G:fp R):Prop:=∀ base k as H L (K:AV→Heap→List Nat→Option R),Le (G base k as H L K) ((F base k as H L).bind fun p=>K p.1 p.2.1 p.2.2)
def eY (P:Program)(C:Cons)(F:jq)(Hh:Heap)(id:Nat)(o:Oper)(σ:St):Option (Sum (AV×Heap×List Nat) (St×List Nat)):=
 match bB P C Hh id o σ.val with
 | some e=>(σ.CU id o.dst e).map fun σ'=>.inr (σ',cond e.new (e.sets.map (·.1)) [])
 | none=>match eE P C F Hh id o σ.val σ.heap σ.ids with
  | some (.fh x,H',L')=>some (.inl (x,H',L'))
  | some (v,H',L')=>((⟨σ.nt,σ.tmps,H',L'⟩:St).put o.dst v).map fun σ'=>.inr (σ',[])
  | none=>none
def FH (P:Program)(C:Cons)(F:jq)(Hh:Heap)(id:Nat)(o:Oper)(σ:St):Option (Sum (AV×Heap×List Nat) (St×List Nat)):=
 match o.op with
 | .panic x=>match σ.val x with
  | .AZ t v=>some (.inl (.AZ t v,σ.heap,σ.ids))
  | _=>none
 | _=>eY P C F Hh id o σ
def mK (kp:AV→Heap→List Nat→Option R)(k:St→List Nat→Option R):Sum (AV×Heap×List Nat) (St×List Nat)→Option R
 | .inl p=>kp p.1 p.2.1 p.2.2
 | .inr p=>k p.1 p.2
theorem gy {α β γ δ:Type}(a:Option α)(f:α→β)(k:α→β→Option γ)(J:Sum δ (α×β)→Option γ)(hJ:∀ p,J (.inr p)=k p.1 p.2):((a.map fun x=>.inr (x,f x)).bind J)=a.bind fun x=>k x (f x):=by
 cases a with
 | none=>rfl
 | some x=>exact hJ _
theorem HN {F:jq}{G:fp R}(hG:iB F G)(Hh:Heap)(id:Nat)(o:Oper)(σ:St)(kp:AV→Heap→List Nat→Option R)(k:St→List Nat→Option R) :
  Le (Lh P C G Hh id o σ kp k) ((eY P C F Hh id o σ).bind (mK kp k)):=by
 have effE:∀ e,bB P C Hh id o σ.val=some e→Le (nY σ id o.dst e k) ((eY P C F Hh id o σ).bind (mK kp k)):=by
  intro e he
  unfold eY
  rw[he]
  refine Le.of_eq ?_
  rw[zM]
  exact (gy (σ.CU id o.dst e) (fun _=>cond e.new (e.sets.map (·.1)) []) k (mK kp k) fun _=>rfl).symm
 cases hz:lH C id o with
 | true=>
  unfold Lh
  rw[hz]
  simp only[cond_true]
  cases hv:lN P id o σ.val with
  | none=>exact Le.none _
  | some p=>
   obtain⟨c,v⟩:=p
   cases c with
   | false=>exact Le.none _
   | true=>
    have he:bB P C Hh id o σ.val=some ⟨[],false,v⟩:=by unfold bB;rw[hz,hv];rfl
    exact (Le.of_eq (by rw[zM];exact kC σ σ.heap σ.ids o.dst v fun σ'=>k σ' [])).trans (effE _ he)
 | false=>
 have e0:bB P C Hh id o σ.val=bD P C Hh id o σ.val:=by unfold bB;rw[hz];rfl
 rw[e0] at effE
 have gen:∀ (s:Option Out),sem P Hh id o σ.val=s→Le (match s with
   | some (.val c v)=>cond c (nj σ σ.heap σ.ids o.dst v fun σ'=>k σ' []) none
   | some (.new c i ob v)=>cond c (nY σ id o.dst ⟨[(i,ob)],true,v⟩ k) none
   | some (.wr c i ob v)=>cond c (nY σ id o.dst ⟨[(i,ob)],false,v⟩ k) none
   | some (.Pj c i ob v u)=>cond c (nY σ id o.dst ⟨[(i,ob)],false,v⟩ k) (nY σ id o.dst ⟨[],false,u⟩ k)
   | some (.call kk as)=>match gV C o kk with
    | some u=>IE u Hh as fun i ob v=>nY σ id o.dst ⟨[(i,ob)],false,v⟩ k
    | none=>match qI C kk with
    | some oh=>match Bm P o,ct (gT oh Hh) oh.ps as with
     | true,some x=>(oh.f x).bind fun y=>nY σ id o.dst ⟨gK oh.rs y id,true,ga (qi oh.rs y id)⟩ k
     | _,_=>none
    | none=>G id kk as σ.heap σ.ids (Ij kp fun v H' L'=>nj σ H' L' o.dst v fun σ'=>k σ' [])
   | none=>none) ((eY P C F Hh id o σ).bind (mK kp k)):=by
  intro s hs
  cases s with
  | none=>exact Le.none _
  | some out=>
   cases out with
   | val c v=>
    cases c with
    | true=>
     have he:bD P C Hh id o σ.val=some ⟨[],false,v⟩:=by unfold bD;rw[hs];rfl
     exact (Le.of_eq (by rw[zM];exact kC σ σ.heap σ.ids o.dst v fun σ'=>k σ' [])).trans (effE _ he)
    | false=>exact Le.none _
   | new c i ob v=>
    cases c with
    | true=>
     have he:bD P C Hh id o σ.val=some ⟨[(i,ob)],true,v⟩:=by unfold bD;rw[hs];rfl
     exact effE _ he
    | false=>exact Le.none _
   | Pj c i ob v u=>
    cases c with
    | true=>
     have he:bD P C Hh id o σ.val=some ⟨[(i,ob)],false,v⟩:=by unfold bD;rw[hs];rfl
     exact effE _ he
    | false=>
     have he:bD P C Hh id o σ.val=some ⟨[],false,u⟩:=by unfold bD;rw[hs];rfl
     exact effE _ he
   | wr c i ob v=>
    cases c with
    | true=>
     have he:bD P C Hh id o σ.val=some ⟨[(i,ob)],false,v⟩:=by unfold bD;rw[hs];rfl
     exact effE _ he
    | false=>exact Le.none _
   | call kk as=>
    cases hu:gV C o kk with
    | some u=>
     simp only[hu]
     rw[Pu]
     cases ho:iO u Hh as with
     | none=>exact Le.none _
     | some q=>
      obtain⟨i,ob,v⟩:=q
      simp only
      have he:bD P C Hh id o σ.val=some ⟨[(i,ob)],false,v⟩:=by unfold bD;rw[hs];simp only[hu,ho]
      exact effE _ he
    | none=>
    simp only[hu]
    cases hc:qI C kk with
    | none=>
     have he:bD P C Hh id o σ.val=none:=by unfold bD;rw[hs];simp only[hu,hc];split<;>simp_all
     have hi:eE P C F Hh id o σ.val σ.heap σ.ids=F id kk as σ.heap σ.ids:=by unfold eE;rw[hs];simp only[hc]
     unfold eY
     rw[e0,he,hi]
     simp only[hc]
     refine (hG _ _ _ _ _ _).trans (Le.of_eq ?_)
     cases F id kk as σ.heap σ.ids with
     | none=>rfl
     | some p=>
      obtain⟨v,H',L'⟩:=p
      cases v with
      | fh x=>rfl
      | _=>
       simp only[Option.bind_some,Ij,kC]
       exact (gy _ (fun _=>[]) k (mK kp k) fun _=>rfl).symm
    | some oh=>
     have he:bD P C Hh id o σ.val=match Bm P o with
      | true=>vA oh Hh id as
      | false=>none:=by unfold bD;rw[hs];simp only[hu,hc];cases Bm P o<;>rfl
     simp only[hc]
     cases hr:Bm P o with
     | false=>exact Le.none _
     | true=>
      rw[hr] at he
      cases hd:ct (gT oh Hh) oh.ps as with
      | none=>exact Le.none _
      | some x=>
       cases hf:oh.f x with
       | none=>simp only[hf];exact Le.none _
       | some y=>
        simp only[vA,hd,hf] at he
        simp only[hf]
        exact effE _ he
 unfold Lh
 rw[hz]
 exact gen _ rfl
theorem QS {F:jq}{G:fp R}(hG:iB F G)(Hh:Heap)(id:Nat)(o:Oper)(σ:St)(kp:AV→Heap→List Nat→Option R)(k:St→List Nat→Option R) :
  Le (KH P C G Hh id o σ kp k) ((FH P C F Hh id o σ).bind (mK kp k)):=by
 unfold KH
 have other:(∀ x,o.op ≠ .panic x)→FH P C F Hh id o σ=eY P C F Hh id o σ:=by
  intro h
  unfold FH
  split
  ·rename_i y hop;exact absurd hop (h y)
  ·rfl
 split
 ·rename_i x hop
  unfold FH
  simp only[hop]
  cases σ.val x with
  | AZ t v=>exact Le.refl _
  | _=>exact Le.none _
 ·rename_i c a b hop
  obtain⟨dst,op,ty,pos,af,gd⟩:=o
  simp only at hop
  subst hop
  have hX:FH P C F Hh id ⟨dst,.pick c a b,ty,pos,af,gd⟩ σ=eY P C F Hh id ⟨dst,.pick c a b,ty,pos,af,gd⟩ σ:=rfl
  rw[hX]
  cases hv:σ.val c with
  | lit x=>
   cases x with
   | bool t=>
    rw[nV hv]
    have he:bB P C Hh id ⟨dst,.pick c a b,ty,pos,af,gd⟩ σ.val=some ⟨[],false,cond t (σ.val a) (σ.val b)⟩:=by
     simp only[bB,bD,lH,Bool.and_false,cond_false,sem,hv];rfl
    unfold eY
    rw[he]
    refine Le.of_eq ?_
    rw[kC]
    exact (gy _ (fun _=>[]) k (mK kp k) fun _=>rfl).symm
   | _=>simp only[jf,hv];exact Le.none _
  | _=>simp only[jf,hv];exact Le.none _
 ·rename_i t x y hop
  rw[other (by rw[hop];simp)]
  split
  ·rename_i j off n sz i hfk
   intro r hr
   obtain⟨q,h1,h2,h3⟩:=nX n 0 _ hr
   unfold KD at hfk
   split at hfk
   case h_2=>simp at hfk
   rename_i j' off' kk i' hx hy
   split at hfk
   case h_2=>simp at hfk
   rename_i n' el ht
   split at hfk
   case h_2=>simp at hfk
   rename_i inf hinf
   cases hfk
   have hq:(decide (0≤i)&&decide (i<(n:Int)))=true:=by
    rw[h2];simp;omega
   have ht2:i.toNat=q:=by rw[h2];simp
   have hs:sem P Hh id o σ.val=some (.val true (.ptr j (off+q * inf.size))):=by
    unfold sem
    rw[hop]
    simp only[hx,hy,BS,ht,hinf,hq,ht2]
   have hz:lH C id o=false:=by unfold lH;rw[hop];simp
   have he:bB P C Hh id o σ.val=some ⟨[],false,.ptr j (off+q * inf.size)⟩:=by unfold bB bD;rw[hz,hs];rfl
   unfold eY
   rw[he]
   rw[kC] at h3
   exact (gy _ (fun _=>[]) k (mK kp k) fun _=>rfl).trans h3
  ·exact HN hG Hh id o σ kp k
 ·rename_i h1 h2 h3
  rw[other fun y hy=>h1 y hy]
  exact HN hG Hh id o σ kp k
def HK (P:Program)(C:Cons)(F:jq)(ops:Array Oper)(hide:Heap→Heap)(id i:Nat)(σ:St)(kp:AV→Heap→List Nat→Option R)(k:St→List Nat→Option R):Option R:=
 match fm P C F ops hide id i σ with
 | some (x,H',L')=>kp x H' L'
 | none=>(fW P C F ops hide id i σ).bind fun σ'=>k σ' (ec P C ops (hide σ.heap) id i σ)
theorem PM {F:jq}{ops:Array Oper}{hide:Heap→Heap}{id i:Nat}{o:Oper}{σ:St}(ho:ops[i]? = some o)(hw:want ops σ o=some true)(kp:AV→Heap→List Nat→Option R)(k:St→List Nat→Option R) :
  (FH P C F (hide σ.heap) id o σ).bind (mK kp k)=HK P C F ops hide id i σ kp k:=by
 unfold HK fm fW ec FH
 simp only[ho,hw]
 cases hop:o.op with
 | panic x=>
  simp only
  cases hv:σ.val x with
  | AZ t v=>rfl
  | _=>
   have hs:sem P (hide σ.heap) id o σ.val=none:=by unfold sem;rw[hop]
   have hz:lH C id o=false:=by unfold lH;rw[hop];simp
   have h1:bB P C (hide σ.heap) id o σ.val=none:=by unfold bB bD;rw[hz,hs];rfl
   have h2:eE P C F (hide σ.heap) id o σ.val σ.heap σ.ids=none:=by unfold eE;rw[hs]
   simp only[h1,h2]
   rfl
 | _=>
  simp only[eY]
  cases he:bB P C (hide σ.heap) id o σ.val with
  | some e=>exact gy _ (fun _=>cond e.new (e.sets.map (·.1)) []) k (mK kp k) fun _=>rfl
  | none=>
   simp only
   cases hi:eE P C F (hide σ.heap) id o σ.val σ.heap σ.ids with
   | none=>rfl
   | some p=>
    obtain⟨v,H',L'⟩:=p
    cases v with
    | fh x=>rfl
    | _=>exact gy _ (fun _=>[]) k (mK kp k) fun _=>rfl
theorem Uj {F:jq}{ops:Array Oper}{hide:Heap→Heap}{id i:Nat}{o:Oper}{σ:St}(ho:ops[i]? = some o)(hw:want ops σ o=some false)(kp:AV→Heap→List Nat→Option R)(k:St→List Nat→Option R) :
  (nj σ σ.heap σ.ids o.dst (.lit undef) fun σ'=>k σ' [])=HK P C F ops hide id i σ kp k:=by
 unfold HK fm fW ec
 simp only[ho,hw]
 exact kC _ _ _ _ _ _
theorem rF {F:jq}{G:fp R}(hG:iB F G)(ops:Array Oper)(hide:Heap→Heap)(id i:Nat)(σ:St)(kp:AV→Heap→List Nat→Option R)(k:St→List Nat→Option R) :
  Le (RX P C G ops hide id i σ kp k) (HK P C F ops hide id i σ kp k):=by
 unfold RX
 cases ho:ops[i]? with
 | none=>unfold HK fm fW ec;simp only[ho];exact Le.refl _
 | some o=>
  simp only
  have yes:want ops σ o=some true→Le (KH P C G (hide σ.heap) id o σ kp k) (HK P C F ops hide id i σ kp k):=fun hw=>
   (QS hG _ _ _ _ _ _).trans (Le.of_eq (PM ho hw kp k))
  have noo:want ops σ o=some false→Le (nj σ σ.heap σ.ids o.dst (.lit undef) fun σ'=>k σ' []) (HK P C F ops hide id i σ kp k):=fun hw=>
   Le.of_eq (Uj ho hw kp k)
  cases hg:o.guard with
  | none=>
   exact yes (by unfold want;rw[hg])
  | some p=>
   obtain⟨j,b⟩:=p
   simp only
   cases hj:ops[j]? with
   | none=>exact noo (by unfold want;simp only[hg,hj])
   | some g=>
    simp only
    cases hd:g.dst with
    | none=>exact noo (by unfold want;simp only[hg,hj,hd])
    | some d=>
     simp only
     cases hv:σ.val (.tmp d) with
     | lit x=>
      cases x with
      | bool c=>
       rw[nV hv]
       have hw:want ops σ o=some (c == b):=by unfold want;simp only[hg,hj,hd,hv]
       cases hcb:c == b with
       | true=>exact yes (by rw[hw,hcb])
       | false=>exact noo (by rw[hw,hcb])
      | tuple vs=>
       have hw:want ops σ o=some false:=by unfold want;simp only[hg,hj,hd,hv]
       have:∀ kk z,jf (R:=R) σ (.tmp d) kk z=z:=by intro kk z;unfold jf;rw[hv]
       rw[this];exact noo hw
      | _=>simp only[jf,hv];exact Le.none _
     | _=>simp only[jf,hv];exact Le.none _
theorem Gw {F:jq}{G:fp R}(hG:iB F G)(ops:Array Oper)(base:Nat):∀ (l:List Nat) (σ:St) (k:Ex→St→Option R),Le (Pq P C G ops base l σ k) ((nA P C F ops base l σ).bind fun p=>k p.1 p.2)
 | [],σ,k=>Le.refl _
 | i::l,σ,k=>by
  simp only[Pq,nA]
  refine (rF hG _ _ _ _ _ _ _).trans ?_
  unfold HK
  cases fm P C F ops (fun H=>H) (base+i * 16) i σ with
  | some p=>exact Le.refl _
  | none=>
   simp only
   cases fW P C F ops (fun H=>H) (base+i * 16) i σ with
   | none=>exact Le.none _
   | some σ'=>exact Gw hG ops base l _ k
theorem qH (ops:Array Oper)(m:List Nat)(W:List (Option Nat))(base:Nat):∀ (l L:List Nat) (σ:St) (k:St→Option R),Le (SA P C ops m W base l L σ k) ((dl P C ops m W base l σ).bind fun σ'=>k (σ'.ay (L++eU P C ops m W base l σ)))
 | [],L,σ,k=>by simp only[SA,dl,eU,List.append_nil,Option.bind_some];exact Le.refl _
 | i::l,L,σ,k=>by
  simp only[SA,dl,we,eU]
  cases kO P C ops m W i σ with
  | false=>exact Le.none _
  | true=>
  simp only[cond_true]
  refine (rF (F:=eW) (fun _ _ _ _ _ _=>Le.none _) _ _ _ _ _ _ _).trans ?_
  unfold HK
  split
  ·exact Le.none _
  cases fW P C eW ops (bW base ops.size (m.getD i 0) (qq m W ops.size i)) (base+i * 16) i σ with
  | none=>exact Le.none _
  | some σ'=>
   refine (qH ops m W base l _ σ' k).trans (Le.of_eq ?_)
   simp only[List.append_assoc]
theorem KI (ops:Array Oper)(base:Nat)(σ:St)(k:St→Option R):Le (K0 P C ops base σ k) ((r5 P C ops base σ).bind k):=by
 unfold K0 r5
 cases bH P C ops (aB ops) with
 | false=>exact Le.none _
 | true=>
  refine (qH ops (aB ops) (nU P C ops (aB ops) base σ) base (List.range ops.size) [] σ k).trans (Le.of_eq ?_)
  simp only[List.nil_append,cond_true]
  cases dl P C ops (aB ops) (nU P C ops (aB ops) base σ) base (List.range ops.size) σ<;>rfl
theorem BH {F:jq}{G:fp R}(hG:iB F G)(ops:Array Oper)(base z:Nat)(σ:St)(k:Ex→St→Option R):Le (HO P C G ops base z σ k) ((mB P C F ops base z σ).bind fun p=>k p.1 p.2):=by
 unfold HO mB
 refine (rF hG _ _ _ _ _ _ _).trans ?_
 unfold HK
 cases fm P C F ops (fun H=>H) (base+z * 16) z σ with
 | some p=>exact Le.refl _
 | none=>
  simp only
  cases fW P C F ops (fun H=>H) (base+z * 16) z σ with
  | none=>exact Le.none _
  | some σ'=>exact Le.refl _
theorem JP {F:jq}{G:fp R}(hG:iB F G)(ops:Array Oper)(base:Nat)(σ:St)(k:Ex→St→Option R):Le (Gj P C G ops base σ k) ((nT P C F ops base σ).bind fun p=>k p.1 p.2):=by
 unfold Gj nT
 cases vM C ops (aB ops) with
 | none=>
  simp only
  refine (KI _ _ _ _).trans (Le.of_eq ?_)
  cases r5 P C ops base σ<;>rfl
 | some z=>
  simp only
  cases bH P C ops (aB ops) with
  | false=>exact Le.none _
  | true=>
   simp only[cond_true]
   refine (qH ops (aB ops) (nU P C ops (aB ops) base σ) base (List.range z) [] σ _).trans ?_
   cases dl P C ops (aB ops) (nU P C ops (aB ops) base σ) base (List.range z) σ with
   | none=>exact Le.none _
   | some σ1=>
    simp only[List.nil_append,Option.bind_some]
    exact BH hG _ _ _ _ _
theorem zO (ops:Array Oper)(m:List Nat)(W:List (Option Nat))(base z:Nat):∀ (l L:List Nat) (σ:St) (k:St→Option R),Le (VV P C ops m W base z l L σ k) ((qM P C ops m W base z l σ).bind fun σ'=>k (σ'.ay (L++jk P C ops m W base z l σ)))
 | [],L,σ,k=>by simp only[VV,qM,jk,List.append_nil,Option.bind_some];exact Le.refl _
 | i::l,L,σ,k=>by
  have h0:=qH (R:=R) (P:=P) (C:=C) ops m W base [i] [] σ
  simp only[VV,qM,jk]
  unfold we
  cases kO P C ops m W i σ with
  | false=>exact Le.none _
  | true=>
   simp only[cond_true]
   refine (rF (F:=eW) (fun _ _ _ _ _ _=>Le.none _) _ _ _ _ _ _ _).trans ?_
   unfold HK
   cases hp:fm P C eW ops (bW base ops.size (m.getD i 0) (qq m W ops.size i)) (base+i * 16) i σ with
   | some p=>exact Le.none _
   | none=>
    simp only
    cases hop:fW P C eW ops (bW base ops.size (m.getD i 0) (qq m W ops.size i)) (base+i * 16) i σ with
    | none=>exact Le.none _
    | some σ'=>
     simp only[Option.bind_some]
     cases rz m z i with
     | true=>
      simp only[cond_true]
      cases tL ops i σ σ' with
      | false=>exact Le.none _
      | true=>exact zO ops m W base z l L σ k
     | false=>
      simp only[cond_false]
      rw[← List.append_assoc]
      exact zO ops m W base z l _ σ' k
theorem QM {F:jq}{G:fp R}(hG:iB F G)(ops:Array Oper)(base z:Nat)(σ:St)(k:Ex→St→Option R):Le (V6 P C G ops base z σ k) ((CY P C F ops base z σ).bind fun p=>k p.1 p.2):=by
 unfold V6 CY
 cases bH P C ops (aB ops) with
 | false=>exact Le.none _
 | true=>
  simp only[cond_true]
  refine (qH ops (aB ops) (nU P C ops (aB ops) base σ) base (dV (aB ops) z ops.size) [] σ _).trans ?_
  cases dl P C ops (aB ops) (nU P C ops (aB ops) base σ) base (dV (aB ops) z ops.size) σ with
  | none=>exact Le.none _
  | some σ1=>
   simp only[List.nil_append,Option.bind_some]
   unfold vP
   refine (rF hG _ _ _ _ _ _ _).trans ?_
   unfold HK
   split
   ·rename_i p hp
    rw[hp];exact Le.refl _
   ·rename_i hp
    rw[hp]
    simp only
    cases fW P C F ops (fun H=>H) (base+z * 16) z (σ1.ay (eU P C ops (aB ops) (nU P C ops (aB ops) base σ) base (dV (aB ops) z ops.size) σ)) with
    | none=>exact Le.none _
    | some σ2=>
     simp only[Option.bind_some]
     refine (zO ops (aB ops) _ base z _ _ _ _).trans ?_
     simp only[List.nil_append]
     split
     ·rename_i h;rw[h];exact Le.refl _
     ·rename_i h;rw[h];exact Le.none _
theorem Nf {F:jq}{G:fp R}(hG:iB F G)(ops:Array Oper)(base z z2:Nat)(σ:St)(k:Ex→St→Option R):Le (MZ P C G ops base z z2 σ k) ((vQ P C F ops base z z2 σ).bind fun p=>k p.1 p.2):=by
 unfold MZ vQ
 cases bH P C ops (aB ops) with
 | false=>exact Le.none _
 | true=>
  simp only[cond_true]
  refine (qH ops (aB ops) (nU P C ops (aB ops) base σ) base (dV (aB ops) z ops.size) [] σ _).trans ?_
  cases dl P C ops (aB ops) (nU P C ops (aB ops) base σ) base (dV (aB ops) z ops.size) σ with
  | none=>exact Le.none _
  | some σ1=>
   simp only[List.nil_append,Option.bind_some]
   unfold o8
   refine (rF hG _ _ _ _ _ _ _).trans ?_
   unfold HK
   split
   ·rename_i p hp
    rw[hp];exact Le.refl _
   ·rename_i hp
    rw[hp]
    simp only
    cases fW P C F ops (fun H=>H) (base+z * 16) z (σ1.ay (eU P C ops (aB ops) (nU P C ops (aB ops) base σ) base (dV (aB ops) z ops.size) σ)) with
    | none=>exact Le.none _
    | some σ2=>
     simp only[Option.bind_some]
     refine (zO ops (aB ops) _ base z _ _ _ _).trans ?_
     simp only[List.nil_append]
     split
     ·rename_i h;rw[h];exact BH hG _ _ _ _ _
     ·rename_i h;rw[h];exact Le.none _
theorem xO {F:jq}{G:fp R}(hG:iB F G)(ops:Array Oper)(base:Nat)(σ:St)(k:Ex→St→Option R):Le (AM P C G ops base σ k) ((gp P C F ops base σ).bind fun p=>k p.1 p.2):=by
 unfold AM gp
 cases N6 C ops (aB ops) with
 | some p=>exact Nf hG _ _ _ _ _ _
 | none=>
  simp only
  cases NU C ops (aB ops) with
  | some z=>exact QM hG _ _ _ _ _
  | none=>exact JP hG _ _ _ _
theorem rQ {F:jq}{G:fp R}(hG:iB F G)(ops:Array Oper)(base:Nat)(σ:St)(k:Ex→St→Option R):Le (vB P C G ops base σ k) ((iI P C F ops base σ).bind fun p=>k p.1 p.2):=by
 unfold vB iI
 cases GS P ops σ ops.toList 0 with
 | some j=>
  simp only
  refine (xO hG _ _ _ _).trans (Le.of_eq ?_)
  cases gp P C F ops base σ<;>rfl
 | none=>exact xO hG _ _ _ _
theorem ML {F:jq}{G:fp R}(hG:iB F G)(ops:Array Oper)(base:Nat)(σ:St)(k:Ex→St→Option R):Le (OP P C G ops base σ k) ((iI P C F ops base σ).bind fun p=>k p.1 p.2):=by
 unfold OP
 split
 ·split
  ·rename_i d n _ _ kk i hd
   intro r hr
   obtain⟨q,h1,h2,h3⟩:=nX n 0 _ hr
   have:σ.Ja d (.lit (.int kk (q:Int)))=σ:=rE (by rw[hd,h2])
   rw[this] at h3
   exact rQ hG ops base σ k r h3
  ·exact rQ hG ops base σ k
 ·exact rQ hG ops base σ k
theorem uX {f:St→Option (Ex×St)}{g:St→(Ex→St→Option R)→Option R}(h:∀ σ k,Le (g σ k) ((f σ).bind fun p=>k p.1 p.2)) :
  ∀ (n:Nat) (σ:St) (k:Ex→St→Option R),Le (Dq n g σ k) ((b9 n f σ).bind fun p=>k p.1 p.2)
 | 0,σ,k=>Le.refl _
 | n+1,σ,k=>by
  simp only[Dq,b9]
  refine (h _ _).trans ?_
  cases f σ with
  | none=>exact Le.none _
  | some p=>
   obtain⟨e,σ'⟩:=p
   cases e with
   | dG=>exact uX h n σ' k
   | fh v=>exact Le.none _
   | _=>exact Le.refl _
def aK.fin (s:aK):Sum s.out.X s.ret.X→Ex×St
 | .inl y=>(.exit s.OA,s.out.Ef y)
 | .inr y=>(.ret,s.ret.Ef y)
theorem Ga {s:aK}{od:List Nat}(h1:s.od=od)(h2:s.out.od.map (·.1)=od)(h3:s.ret.od.map (·.1)=od){f:St→Option (Ex×St)}
  (hf:∀ z,Le (s.step z) ((f (s.shape.Ef z)).bind fun p=>s.iS p.1 p.2)):∀ (n:Nat) (σ:St) (z:s.shape.X),s.shape.read σ=some z →
  Le ((iter n s.step z).map s.fin) (lX od (some s.lh) (b9 n (cO od (some s.lh) f) σ))
 | 0,σ,z,_=>Le.none _
 | n+1,σ,z,hr=>by
  have hh:=aj.rV hr
  have hod:s.shape.od.map (·.1)=od:=h1
  rw[hod] at hh
  have hR:cO od (some s.lh) f σ=f (s.shape.Ef z):=by
   simp only[cO,aK.lh,hh]
  simp only[iter,b9,hR]
  cases hs:s.step z with
  | none=>exact Le.none _
  | some r=>
   have:=hf z r hs
   cases hfe:f (s.shape.Ef z) with
   | none=>rw[hfe] at this;simp at this
   | some p=>
    obtain⟨e,σ'⟩:=p
    rw[hfe] at this
    simp only[Option.bind_some] at this
    cases e with
    | dG=>
     simp only[aK.iS] at this
     split at this
     ·rename_i x hx
      cases this
      exact Ga h1 h2 h3 hf n σ' x hx
     ·simp at this
    | fh v=>simp[aK.iS] at this
    | exit i=>
     simp only[aK.iS] at this
     obtain⟨hi,this⟩:=dA this
     split at this
     ·rename_i y hy
      cases this
      have hy':=aj.rV hy
      rw[h2] at hy'
      intro q hq
      simp only[lX,aK.lh,hy']
      simp only[Option.map_some,aK.fin,Option.some.injEq] at hq
      rw[← hq,Nat.eq_of_beq_eq_true hi]
     ·simp at this
    | ret=>
     simp only[aK.iS] at this
     split at this
     ·rename_i y hy
      cases this
      have hy':=aj.rV hy
      rw[h3] at hy'
      intro q hq
      simp only[lX,aK.lh,hy']
      simp only[Option.map_some,aK.fin,Option.some.injEq] at hq
      rw[← hq]
     ·simp at this
    | goto l=>simp[aK.iS] at this
end
section
variable {P:Program}{C:Cons}{Sm:oe}{lf:Nat}
theorem vD {base:Nat}{x:Code}{σ:St}:hintOf (aU Sm) base x σ=(sumOf Sm base x σ).map aK.lh:=by
 unfold hintOf sumOf aU
 cases bC x with
 | none=>rfl
 | some r=>simp only;cases Sm base r σ<;>rfl
theorem Fv {R:Type}(σ:St)(i:Nat)(H:Heap)(L:List Nat)(k:Ex→St→Option R):yQ σ i H L k=(mm σ i H L).bind fun p=>k p.1 p.2:=by
 unfold yQ mm
 split<;>simp_all
theorem IB {R:Type}{F:jq}{G:fp R}(hG:iB F G)(base:Nat)(rf:Option Nat)(g:Operand)(body:Code)(σ:St)(k:Ex→St→Option R) :
  Le (Eh P G base rf g body σ k) ((gq P F base rf g body σ).bind fun p=>k p.1 p.2):=by
 unfold Eh gq
 split
 ·rename_i fid kk first caps r hg hr
  simp only[hg,hr]
  cases dz P fid r with
  | none=>exact Le.none _
  | some x=>
   simp only
   cases NR σ base fid r x with
   | none=>exact Le.none _
   | some p=>
    obtain⟨σ1,i⟩:=p
    simp only
    cases je P kk with
    | false=>exact Le.none _
    | true=>
     simp only[cond_true]
     refine (hG _ _ _ _ _ _).trans ?_
     cases F (i+1) (.fn kk) (first++[.ja i]++caps) σ1.heap σ1.ids with
     | none=>exact Le.none _
     | some q=>
      obtain⟨v,H,L⟩:=q
      cases v with
      | fh x=>exact Le.none _
      | _=>exact Le.of_eq (Fv _ _ _ _ _)
 ·exact Le.none _
theorem bE:∀ (c:Code) (x:cx),x∈aX c→(∀ z∈aJ x.2.1,z∈aJ c)∧∀ z∈aJ x.2.2,z∈aJ c
 | .seq a b,x,h=>by
  simp only[aX,List.mem_append] at h
  rcases h with h|h
  ·obtain⟨h1,h2⟩:=bE a x h
   exact⟨fun z hz=>by simp[aJ,h1 z hz],fun z hz=>by simp[aJ,h2 z hz]⟩
  ·obtain⟨h1,h2⟩:=bE b x h
   exact⟨fun z hz=>by simp[aJ,h1 z hz],fun z hz=>by simp[aJ,h2 z hz]⟩
 | .scope a,x,h=>by
  obtain⟨h1,h2⟩:=bE a x h
  exact⟨fun z hz=>h1 z hz,fun z hz=>h2 z hz⟩
 | .cond _ a b,x,h=>by
  simp only[aX,List.mem_append] at h
  rcases h with h|h
  ·obtain⟨h1,h2⟩:=bE a x h
   exact⟨fun z hz=>by simp[aJ,h1 z hz],fun z hz=>by simp[aJ,h2 z hz]⟩
  ·obtain⟨h1,h2⟩:=bE b x h
   exact⟨fun z hz=>by simp[aJ,h1 z hz],fun z hz=>by simp[aJ,h2 z hz]⟩
 | .block _ a,x,h=>by
  obtain⟨h1,h2⟩:=bE a x h
  exact⟨fun z hz=>h1 z hz,fun z hz=>h2 z hz⟩
 | .loop a,x,h=>by
  obtain⟨h1,h2⟩:=bE a x h
  exact⟨fun z hz=>by simp[aJ,h1 z hz],fun z hz=>by simp[aJ,h2 z hz]⟩
 | .rangeFunc _ _ a b,x,h=>by
  simp only[aX,List.mem_singleton] at h
  subst h
  exact⟨fun z hz=>by simp[aJ,hz],fun z hz=>by simp[aJ,hz]⟩
 | .skip,x,h=>by simp[aX] at h
 | .region _ _ _,x,h=>by simp[aX] at h
 | .exit _,x,h=>by simp[aX] at h
 | .label _,x,h=>by simp[aX] at h
 | .ret,x,h=>by simp[aX] at h
 | .goto _,x,h=>by simp[aX] at h
 | .refuse _,x,h=>by simp[aX] at h
theorem CK {r:Nat}:∀ {l:List cx} {y:cx},uU r l=some y→y∈l
 | [],y,h=>by simp[uU] at h
 | z::l,y,h=>by
  simp only[uU] at h
  cases hz:cx.is z r with
  | true=>
   rw[hz] at h
   simp only[cond_true] at h
   cases hb:(l.any fun y=>cx.is y r) with
   | true=>rw[hb] at h;simp at h
   | false=>rw[hb] at h;simp only[cond_false,Option.some.injEq] at h;simp[h]
  | false=>rw[hz] at h;exact List.mem_cons_of_mem _ (CK h)
theorem Ez {k r:Nat}{x:cx}(h:dz P k r=some x):∃ fn c,P.funcs[k]? = some fn∧fn.body=some c∧x∈aX c:=by
 unfold dz at h
 split at h
 ·rename_i fn hfn
  split at h
  ·rename_i c hc;exact⟨fn,c,hfn,hc,CK h⟩
  ·simp at h
 ·simp at h
theorem NG {i:Nat}{as:List AV}{H:Heap}{L:List Nat}{k r:Nat}{x:cx}{σ:St}(h:uc P i as H L=some (k,r,x,σ)):dz P k r=some x:=by
 unfold uc at h
 split at h
 ·split at h
  ·rename_i hx
   obtain⟨_,e⟩:=ai h
   cases e
   exact hx
  ·simp at h
 ·simp at h
theorem Rt {R:Type}{i k r:Nat}{asn body:St→(Ex→St→Option R)→Option R}{asn' body':St→Option (Ex×St)}(h1:∀ σ K,Le (asn σ K) ((asn' σ).bind fun p=>K p.1 p.2))
  (h2:∀ σ K,Le (body σ K) ((body' σ).bind fun p=>K p.1 p.2)) (σ:St) (K:AV→Heap→List Nat→Option R) :
  Le (UY i k r asn body σ K) ((x8 i k r asn' body' σ).bind fun p=>K p.1 p.2.1 p.2.2):=by
 unfold UY x8
 refine (h1 _ _).trans ?_
 cases asn' σ with
 | none=>exact Le.none _
 | some p=>
  obtain⟨e,σ1⟩:=p
  cases e with
  | dG=>
   simp only[Option.bind_some]
   cases oX i k r σ1 with
   | none=>exact Le.none _
   | some σ2=>
    simp only
    refine (h2 _ _).trans ?_
    cases body' σ2 with
    | none=>exact Le.none _
    | some q=>
     obtain⟨e,σ3⟩:=q
     simp only[Option.bind_some,GJ]
     cases vC i k r e σ3<;>exact Le.refl _
  | _=>exact Le.none _
theorem bQ (hr:gE P C Sm lf){n fid base:Nat}{od:List Nat}{rf:Option Nat}(hG:∀ {R:Type},iB (R:=R) (bp P C (aU Sm) lf n) (oG P C Sm lf n))
  {fn:Func} {c0:Code} (hfn:P.funcs[fid]? = some fn) (hc0:fn.body=some c0) :
  ∀ {R:Type} (sc:Bool) (c:Code) (σ:St) (k:Ex→St→Option R),(∀ x∈aJ c,x∈aJ c0) →
   Le (cC P C Sm (oG P C Sm lf n) n fid lf base od rf sc c σ k) ((aD P C (aU Sm) (bp P C (aU Sm) lf n) lf base od rf sc c σ).bind fun p=>k p.1 p.2)
 | R,sc,.skip,σ,k,_=>Le.refl _
 | R,sc,.region id ops draw,σ,k,_=>by
  simp only[cC,aD]
  cases draw with
  | true=>
   simp only[cond_true]
   exact ML hG _ _ _ _
  | false=>
   simp only[cond_false]
   exact Gw hG _ _ _ _ _
 | R,false,.seq x y,σ,k,hl=>by
  simp only[cC,aD]
  refine (bQ hr hG hfn hc0 false x σ _ (fun z hz=>hl z (by simp[aJ,hz]))).trans ?_
  cases aD P C (aU Sm) (bp P C (aU Sm) lf n) lf base od rf false x σ with
  | none=>exact Le.none _
  | some p=>
   obtain⟨e,σ'⟩:=p
   cases e with
   | dG=>exact bQ hr hG hfn hc0 false y σ' k (fun z hz=>hl z (by simp[aJ,hz]))
   | _=>exact Le.refl _
 | R,true,.seq x y,σ,k,hl=>by
  simp only[cC,aD]
  cases hx:oL x with
  | none=>
   simp only
   refine (bQ hr hG hfn hc0 false x σ _ (fun z hz=>hl z (by simp[aJ,hz]))).trans ?_
   cases aD P C (aU Sm) (bp P C (aU Sm) lf n) lf base od rf false x σ with
   | none=>exact Le.none _
   | some p=>
    obtain⟨e,σ'⟩:=p
    cases e with
    | dG=>exact bQ hr hG hfn hc0 true y σ' k (fun z hz=>hl z (by simp[aJ,hz]))
    | goto l=>exact Le.none _
    | _=>exact Le.refl _
  | some l=>
   simp only
   have hxe:=uJ hx
   subst hxe
   have fl:∀ {R:Type} (σ:St) (k:Ex→St→Option R),Le (cC P C Sm (oG P C Sm lf n) n fid lf base od rf false y σ (wP l k)) ((iE l (aD P C (aU Sm) (bp P C (aU Sm) lf n) lf base od rf false y σ)).bind fun p=>k p.1 p.2):=by
    intro R σ k
    refine (bQ hr hG hfn hc0 false y σ _ (fun z hz=>hl z (by simp[aJ,hz]))).trans ?_
    cases aD P C (aU Sm) (bp P C (aU Sm) lf n) lf base od rf false y σ with
    | none=>exact Le.none _
    | some p=>
     obtain⟨e,σ'⟩:=p
     cases e with
     | dG=>exact Le.refl _
     | goto i=>simp only[Option.bind_some,wP,iE,gP];cases Nat.beq i l<;>exact Le.refl _
     | exit i=>simp only[Option.bind_some,wP,iE,gP];cases Nat.beq i yM<;>exact Le.refl _
     | ret=>exact Le.refl _
     | fh v=>exact Le.none _
   have un:∀ (r:Option (Ex×St)),Le (r.bind fun p=>td k p.1 p.2) ((ug r).bind fun p=>k p.1 p.2):=by
    intro r
    cases r with
    | none=>exact Le.none _
    | some p=>
     obtain⟨e,σ'⟩:=p
     cases e with
     | exit i=>simp only[Option.bind_some,td,ug,JZ];cases Nat.beq i yM<;>exact Le.refl _
     | ret=>exact Le.refl _
     | _=>exact Le.none _
   rw[vD]
   cases hs:sumOf Sm base y σ with
   | none=>
    simp only[Option.map_none]
    have e1:∀ r,lX od none r=r:=by intro r;unfold lX;split<;>rfl
    rw[e1]
    refine Le.trans ?_ (un _)
    exact uX (g:=fun σ k'=>cC P C Sm (oG P C Sm lf n) n fid lf base od rf false y σ (wP l k')) (fun σ k=>fl σ k) lf σ _
   | some s=>
    simp only[Option.map_some]
    cases hfit:s.fits n fid od rf (some l) with
    | false=>exact Le.none _
    | true=>
     simp only[cond_true]
     unfold aK.fits at hfit
     simp only[Bool.and_eq_true] at hfit
     obtain⟨⟨⟨⟨⟨⟨nk,f0⟩,f1⟩,f2⟩,f3⟩,f4⟩,f5⟩:=hfit
     have nk:=s8 nk
     have f0:=s8 f0
     have f1:=Nat.eq_of_beq_eq_true f1
     have f2:=Nat.eq_of_beq_eq_true f2
     have f3:=fw f3
     have f4:=fw f4
     have f5:=fw f5
     cases hz:s.shape.read σ with
     | none=>exact Le.none _
     | some z=>
      simp only
      have hround:∀ z,Le (s.step z) ((iE l (aD P C (aU Sm) (bp P C (aU Sm) lf n) lf base od rf false y (s.shape.Ef z))).bind fun p=>s.iS p.1 p.2):=by
       intro z
       unfold sumOf at hs
       cases hfr:bC y with
       | none=>rw[hfr] at hs;simp at hs
       | some r=>
        rw[hfr] at hs
        have:=hr base r σ s hs fn c0 y (by rw[f2];exact hfn) hc0 (hl y (by simp[aJ,Xy])) hfr z
        rw[f0,f1,f2,f3] at this
        unfold aK.zo at this
        rw[nk] at this
        exact this.trans (fl _ _)
      have:=Ga (f:=fun σ=>iE l (aD P C (aU Sm) (bp P C (aU Sm) lf n) lf base od rf false y σ)) f3 f4 f5 hround lf σ z hz
      intro q hq
      cases hi:iter lf s.step z with
      | none=>rw[hi] at hq;simp at hq
      | some r=>
       rw[hi] at hq this
       have h2:=this (s.fin r) rfl
       rw[h2]
       cases r with
       | inl y=>exact un (some (.exit s.OA,s.out.Ef y)) q hq
       | inr y=>exact hq
 | R,sc,.cond c x y,σ,k,hl=>by
  simp only[cC,aD]
  cases hv:σ.val c with
  | lit v=>
   cases v with
   | bool b=>
    rw[nV hv]
    cases b with
    | true=>exact bQ hr hG hfn hc0 false x σ k (fun z hz=>hl z (by simp[aJ,hz]))
    | false=>exact bQ hr hG hfn hc0 false y σ k (fun z hz=>hl z (by simp[aJ,hz]))
   | _=>simp only[jf,hv];exact Le.none _
  | _=>simp only[jf,hv];exact Le.none _
 | R,sc,.block id x,σ,k,hl=>by
  simp only[cC,aD]
  refine (bQ hr hG hfn hc0 false x σ _ (fun z hz=>hl z (by simpa [aJ] using hz))).trans ?_
  cases aD P C (aU Sm) (bp P C (aU Sm) lf n) lf base od rf false x σ with
  | none=>exact Le.none _
  | some p=>
   obtain⟨e,σ'⟩:=p
   cases e with
   | exit i=>simp only[Option.bind_some];cases Nat.beq i id<;>exact Le.refl _
   | _=>exact Le.refl _
 | R,sc,.loop x,σ,k,hl=>by
  simp only[cC,aD]
  rw[vD]
  cases hs:sumOf Sm base x σ with
  | none=>
   simp only[Option.map_none]
   have e1:∀ r,lX od none r=r:=by intro r;unfold lX;split<;>rfl
   rw[e1]
   exact uX (fun σ k=>bQ hr hG hfn hc0 false x σ k (fun z hz=>hl z (by simp[aJ,hz]))) lf σ k
  | some s=>
   simp only[Option.map_some]
   cases hfit:s.fits n fid od rf none with
   | false=>exact Le.none _
   | true=>
    simp only[cond_true]
    unfold aK.fits at hfit
    simp only[Bool.and_eq_true] at hfit
    obtain⟨⟨⟨⟨⟨⟨nk,f0⟩,f1⟩,f2⟩,f3⟩,f4⟩,f5⟩:=hfit
    have nk:=s8 nk
    have f0:=s8 f0
    have f1:=Nat.eq_of_beq_eq_true f1
    have f2:=Nat.eq_of_beq_eq_true f2
    have f3:=fw f3
    have f4:=fw f4
    have f5:=fw f5
    cases hz:s.shape.read (σ.fk s.fk) with
    | none=>exact Le.none _
    | some z=>
     simp only
     have hround:∀ z,Le (s.step z) ((aD P C (aU Sm) (bp P C (aU Sm) lf n) lf base od rf false x (s.shape.Ef z)).bind fun p=>s.iS p.1 p.2):=by
      intro z
      unfold sumOf at hs
      cases hfr:bC x with
      | none=>rw[hfr] at hs;simp at hs
      | some r=>
       rw[hfr] at hs
       have:=hr base r σ s hs fn c0 x (by rw[f2];exact hfn) hc0 (hl x (by simp[aJ])) hfr z
       rw[f0,f1,f2,f3] at this
       unfold aK.zo at this
       rw[nk] at this
       exact this.trans (bQ hr hG hfn hc0 false x _ _ (fun z hz=>hl z (by simp[aJ,hz])))
     have:=Ga f3 f4 f5 hround lf (σ.fk s.fk) z hz
     intro q hq
     cases hi:iter lf s.step z with
     | none=>rw[hi] at hq;simp at hq
     | some r=>
      rw[hi] at hq this
      have h2:=this (s.fin r) rfl
      rw[show Fg (some s.lh) σ=σ.fk s.fk from rfl]
      rw[h2]
      cases r<;>exact hq
 | R,sc,.exit id,σ,k,_=>Le.refl _
 | R,sc,.label _,σ,k,_=>Le.refl _
 | R,sc,.ret,σ,k,_=>Le.refl _
 | R,sc,.rangeFunc g ps asn body,σ,k,_=>by simp only[cC,aD];exact IB hG _ _ _ _ _ _
 | R,sc,.scope x,σ,k,hl=>by
  simp only[cC,aD]
  cases iv x with
  | false=>exact Le.none _
  | true=>
   simp only[cond_true]
   refine (bQ hr hG hfn hc0 true x σ _ (fun z hz=>hl z (by simpa [aJ] using hz))).trans ?_
   cases aD P C (aU Sm) (bp P C (aU Sm) lf n) lf base od rf true x σ with
   | none=>exact Le.none _
   | some p=>
    obtain⟨e,σ'⟩:=p
    cases e with
    | goto l=>exact Le.none _
    | _=>exact Le.refl _
 | R,sc,.goto _,σ,k,_=>Le.refl _
 | R,sc,.refuse _,σ,k,_=>Le.none _
theorem qy (hr:gE P C Sm lf):∀ (n:Nat) {R:Type},iB (R:=R) (bp P C (aU Sm) lf n) (oG P C Sm lf n)
 | 0,R=>fun base k as H L K=>Le.none _
 | n+1,R=>fun base k as H L K=>by
  cases k with
  | fn k=>
   simp only[oG,bp]
   cases hfn:P.funcs[k]? with
   | none=>exact Le.none _
   | some fn=>
    simp only
    cases hb:fn.body with
    | none=>exact Le.none _
    | some c=>
     simp only
     cases Nat.ble as.length fn.ntmps with
     | false=>exact Le.none _
     | true=>
      simp only[cond_true]
      refine (bQ hr (fun {R}=>qy hr n) hfn hb false c _ _ (fun x hx=>hx)).trans ?_
      cases aD P C (aU Sm) (bp P C (aU Sm) lf n) lf (Nat.succ base * 4294967296) L (some k) false c ⟨fn.ntmps,eZ as,H,L⟩ with
      | none=>exact Le.none _
      | some p=>
       obtain⟨e,σ⟩:=p
       cases e with
       | dG=>
        simp only[Option.bind_some,oH,Bn]
        cases eR P σ fn.results.toList<;>exact Le.refl _
       | ret=>
        simp only[Option.bind_some,oH,Bn]
        cases eR P σ fn.results.toList<;>exact Le.refl _
       | fh v=>exact Le.refl _
       | _=>exact Le.none _
  | ja i=>
   simp only[oG,bp]
   cases hin:uc P i as H L with
   | none=>exact Le.none _
   | some p=>
    obtain⟨k,r,x,σ⟩:=p
    simp only
    obtain⟨fn,c,hfn,hc,hx⟩:=Ez (NG hin)
    obtain⟨hl1,hl2⟩:=bE c x hx
    exact Rt (fun σ K=>bQ hr (fun {R}=>qy hr n) hfn hc false _ σ K hl1) (fun σ K=>bQ hr (fun {R}=>qy hr n) hfn hc false _ σ K hl2) σ K
theorem P8 (hr:gE P C Sm lf){n k:Nat}{ps:List Ty}{rs:List dM}{x:cS ps}:Le (Fh P C Sm lf n k ps rs x) (top P C (aU Sm) lf n k ps rs x):=by
 unfold Fh top
 refine (qy hr n _ _ _ _ _ _).trans ?_
 cases bp P C (aU Sm) lf n 0 (.fn k) (cF ps x) (fun _=>none) [] with
 | none=>exact Le.none _
 | some p=>exact Le.refl _
theorem aa [aq](hC:bS P C)(hr:gE P C Sm lf){n k:Nat}{c:aS}
  (h:∀ x,Fh P C Sm lf n k c.ps c.rs x=c.f x):c.OK P k:=
 Gf (Hn:=aU Sm) (lf:=lf) (n:=n) hC fun x y hf=>P8 hr y (by rw[h x];exact hf)
end
section
variable [aq]{P:Program}{C:Cons}{lf:Nat}
def Ds (P:Program)(C:Cons)(Hn:Hints)(lf n k:Nat)(od:List Nat)(as:List AV)(H:Heap)(L:List Nat):Option (AV×Heap×List Nat):=
 match P.funcs[k]? with
 | some fn=>match fn.body with
  | some c=>cond (Nat.ble as.length fn.ntmps) (oH P fn.results.toList (aD P C Hn (bp P C Hn lf n) lf 4294967296 od (some k) false c ⟨fn.ntmps,eZ as,H,L⟩)) none
  | none=>none
 | none=>none
theorem Kw {Hn:Hints}(hC:bS P C){n k:Nat}{od:List Nat}{as:List AV}{H H' Ho:Heap}{L L':List Nat}{v:AV}(h:Ds P C Hn lf n k od as H L=some (v,H',L'))(hnp:v.ed=false)(hBd:∀ q,H q≠none→q∈L)
  {μ μo:Mu} {S:ar} {B:Nat} {w0 w:World} {us:Array Value} (hod:∀ i,μo i≠none→i∈od) (C0:Carry B μo S Ho μ S H) (R:Rel μ S H B w0 w) (hv:aH μ S H as us.toList) :
  Calls P k us w fun e w'=>∃ u μ' S',e = .returned u∧VR μ' S' H' v u∧Rel μ' S' H' B w0 w'∧(∀ b,S' b≠none→S b≠none∨B≤b)∧(∀ b o,S b=some o→S' b=some o):=by
 have ih:=mw (lf:=lf) (Hn:=Hn) hC n
 unfold Ds at h
 split at h
 case h_2=>simp at h
 rename_i fn hfn
 split at h
 case h_2=>simp at h
 rename_i c hc
 cases hle:Nat.ble as.length fn.ntmps with
 | false=>rw[hle] at h;simp at h
 | true=>
  rw[hle] at h
  simp only[cond_true] at h
  have hle:=Nat.le_of_ble_eq_true hle
  have hlen:=aQ hv
  simp only[Array.length_toList] at hlen
  refine (gU (r:=none) (n:=0)).1 (callsIn_of_wp_marks hfn hc trivial ?_ rfl)
  have A0:AR S (false,[]) μ S ⟨fn.ntmps,eZ as,H,L⟩ { tmps:=us++Array.replicate (fn.ntmps-us.size) undef,defers:=[] }:=by
   refine⟨⟨[],rfl,⟨List.nodup_nil,by simp⟩,fun _=>rfl⟩,by simp;omega,fun t ht=>?_⟩
   have:=pI hv t
   rw[List.getD_eq_getElem?_getD] at this
   rw[Array.getD_eq_getD_getElem?]
   by_cases hlt:t<us.size
   ·rw[Array.getElem?_append_left hlt];simpa using this
   ·rw[Array.getElem?_append_right (by omega),Array.getElem?_replicate]
    have e1:us.toList[t]? = none:=by rw[List.getElem?_eq_none];simp;omega
    rw[e1] at this
    have:t-us.size<fn.ntmps-us.size:=by simp only at ht;omega
    rw[if_pos this];assumption
  have fin:∀ (e:Ex) (σ:St),aD P C Hn (bp P C Hn lf n) lf 4294967296 od (some k) false c ⟨fn.ntmps,eZ as,H,L⟩=some (e,σ)→e = .dG∨e = .ret →
    (∃ vs,eR P σ fn.results.toList=some vs∧v=ga vs∧H'=σ.heap) →
    c.wpIn (WF none) 0 P (bodyPostM (WF none) 0 P fn fun e w'=>∃ u μ' S',e = .returned u∧VR μ' S' H' v u∧Rel μ' S' H' B w0 w'∧(∀ b,S' b≠none→S b≠none∨B≤b)∧(∀ b o,S b=some o→S' b=some o)) { tmps:=us++Array.replicate (fn.ntmps-us.size) undef,defers:=[] } w:=by
   rintro e σ he hex ⟨vs,hvs,rfl,rfl⟩
   refine aF (Dt:=(false,[])) (μo:=μo) (So:=S) (Ho:=Ho) (fun _=>⟨rfl,rfl⟩) hC ih hod c (.top hfn hc) _ e σ _ w μ S _ he hBd A0 R C0 fun a' w' μ' S' xe A' R' C' hx=>?_
   have main:LeavesInM (WF none) 0 P fn a'.tmps (fun e w'=>∃ u μ' S',e = .returned u∧VR μ' S' σ.heap (ga vs) u∧Rel μ' S' σ.heap B w0 w'∧(∀ b,S' b≠none→S b≠none∨B≤b)∧(∀ b o,S b=some o→S' b=some o)) a'.defers .returning w':=by
    obtain⟨ms,hms,hmk,_⟩:=A'.defers
    rw[hms]
    refine kg (by simp) R.pre ms S' w' R' hmk C'.sub (fun D hD=>?_) fun S2 w2 R2 hc2 hs2 hn2=>?_
    ·rcases C'.st D (by rw[(hmk.2 D hD).2];simp) with h|h
     ·exact absurd (hmk.2 D hD).1 h
     ·exact h
    ·have A2:AR S (false,[]) μ' S2 σ { tmps:=a'.tmps,defers:=[] }:=⟨⟨[],rfl,⟨List.nodup_nil,by simp⟩,fun _=>rfl⟩,A'.size,fun t ht=>jA hc2 _ _ (A'.tmp t ht)⟩
     obtain⟨u,k1,k2⟩:=uE A2 R2 hvs
     exact⟨u,k1,u,μ',S2,rfl,k2,R2,fun b hb=>C'.st b (hn2 b hb),hs2⟩
   rcases hex with rfl|rfl
   ·cases (show xe = .normal from hx);exact main
   ·cases (show xe = .ret from hx);exact main
  unfold oH at h
  split at h
  ·rename_i σ he
   split at h
   ·rename_i vs hvs;cases h;exact fin .dG σ he (.inl rfl) ⟨vs,hvs,rfl,rfl⟩
   ·simp at h
  ·rename_i σ he
   split at h
   ·rename_i vs hvs;cases h;exact fin .ret σ he (.inr rfl) ⟨vs,hvs,rfl,rfl⟩
   ·simp at h
  ·cases h;simp[AV.ed] at hnp
  ·simp at h
omit [aq] in
theorem sw {S S':ar}(h:∀ b o,S b=some o→S' b=some o):∀ {ps:List Ty} {x:cS ps} {vs:List Value},gG S ps x vs→gG S' ps x vs
 | [],_,_,hr=>hr
 | t::ts,x,vs,hr=>by
  obtain⟨v,r,e,h1,h2⟩:=hr
  refine⟨v,r,e,?_,sw h h2⟩
  unfold J2 at h1 ⊢
  split at h1
  ·rename_i ht
   rw[if_pos ht]
   obtain⟨cs,e2,h1⟩:=h1
   exact⟨cs,e2,dn h _ _ _ h1⟩
  ·rename_i ht
   rw[if_neg ht]
   exact dn h _ _ _ h1
def oB (te:TypeId)(e:Ty)(zs:List e.T):Heap:=aN (fun _=>none) 1 (some (.row te e 0 zs))
def Qg (P:Program)(C:Cons)(Hn:Hints)(lf n k:Nat)(te:TypeId)(e:Ty)(ps:List Ty)(zs:List e.T)(x:cS ps):Option (xp [.own te e]):=
 gY [.own te e] (Ds P C Hn lf n k [] (.sl 1 0::cF ps x) (oB te e zs) [1])
theorem DS {Hn:Hints}(hC:bS P C){n k:Nat}{te:TypeId}{e:Ty}{ps:List Ty}{f:List e.T→cS ps→Option (List e.T×Unit)}(hfl:e.flat=true)
  (h:∀ zs x y,f zs x=some y→Qg P C Hn lf n k te e ps zs x=some y) :
  (⟨te,e,ps,false,fun zs x=>(f zs x).map (·.1)⟩:bI).OK P k:=by
 refine⟨fun _=>?_,HP⟩
 intro zs x ys hf S w B v0 cs0 vs hS hG ha hR hown hv0 hB
 simp only at zs x ys hf ha hR hown
 cases hfe:f zs x with
 | none=>rw[hfe] at hf;simp at hf
 | some y=>
 rw[hfe] at hf
 simp only[Option.map_some,Option.some.injEq] at hf
 have ht:=h zs x y hfe
 unfold Qg at ht
 cases he:Ds P C Hn lf n k [] (.sl 1 0::cF ps x) (oB te e zs) [1] with
 | none=>rw[he] at ht;simp[gY] at ht
 | some p=>
 obtain⟨v,H',L'⟩:=p
 rw[he] at ht
 simp only[gY] at ht
 obtain⟨hnp,ht⟩:=cq ht
 split at ht
 case h_2=>simp at ht
 rename_i y' o hd
 obtain⟨hdis,rfl⟩:=ai ht
 have hdn:=(Bool.and_eq_true_iff.1 hdis).2
 let S1:ar:=fun b=>if v0.ownBlock=some b then none else w.heap[b]?
 have hS1:∀ b o,S b=some o→S1 b=some o:=by
  intro b o hb
  show (if v0.ownBlock=some b then none else w.heap[b]?)=some o
  rw[if_neg (fun hq=>by rw[hv0 b hq] at hb;simp at hb)]
  exact hS b o hb
 have hS1w:∀ b o,S1 b=some o→w.heap[b]? = some o:=by
  intro b o hb
  have hb:(if v0.ownBlock=some b then none else w.heap[b]?)=some o:=hb
  split at hb
  ·simp at hb
  ·exact hb
 have hS1v:∀ b,v0.ownBlock=some b→S1 b=none:=by
  intro b hb
  show (if v0.ownBlock=some b then none else w.heap[b]?)=none
  rw[if_pos hb]
 obtain⟨l,hv0e,hl,hno,hO⟩:=jr (μ:=aN (fun _=>none) 1 (some ⟨v0.ownBlock,0,aV⟩)) (H:=oB te e zs) (g:=0) (l8 hfl hR:gC S1 e zs cs0) hS1v hown
 have hO':ni (aN (fun _=>none) 1 (some l)) S1 (oB te e zs) w B l (.row te e 0 zs):=hO
 have R0:Rel (aN (fun _=>none) 1 (some l)) S1 (oB te e zs) B w w:=by
  refine⟨Below.refl _ _,hB,hS1w,fun i=>?_,fun i ob hi=>?_,fun i j li lj b hij hi hj hb=>?_,fun i li hi=>?_,aq.mono S S1 hS1 hG⟩
  ·by_cases e1:i=1
   ·subst e1;simp[oB,au]
   ·unfold oB;rw[ax _ _ e1,ax _ _ e1];rfl
  ·by_cases e1:i=1
   ·subst e1
    unfold oB at hi
    rw[au] at hi
    cases hi
    exact⟨l,au _ _ _,hO'⟩
   ·unfold oB at hi;rw[ax _ _ e1] at hi;simp at hi
  ·by_cases e1:i=1
   ·subst e1
    rw[ax _ _ (Ne.symm hij)] at hj
    simp at hj
   ·rw[ax _ _ e1] at hi;simp at hi
  ·by_cases e1:i=1
   ·subst e1;rw[au] at hi;cases hi;exact .inl hno
   ·rw[ax _ _ e1] at hi;simp at hi
 have hargs:aH (aN (fun _=>none) 1 (some l)) S1 (oB te e zs) (.sl 1 0::cF ps x) (v0::vs).toArray.toList:=by
  have ha1:gG S1 ps x vs:=sw hS1 ha
  simp only[aH]
  refine⟨v0,vs,by simp,?_,mz ha1⟩
  simp only[VR]
  refine⟨⟨_,_,_,hv0e⟩,l,au _ _ _,fun t e' gc xs hH=>?_⟩
  unfold oB at hH
  rw[au] at hH
  injection hH with hH
  injection hH with q1 q2 q3 q4
  subst q1 q2 q3
  cases q4
  exact⟨Nat.le_refl _,fun _=>hv0e⟩
 have C0:Carry B (fun _=>none) S1 (fun _=>none) (aN (fun _=>none) 1 (some l)) S1 (oB te e zs):=Carry.of (Ext.new rfl)
 refine Calls.mono (Kw (μo:=fun _=>none) (Ho:=fun _=>none) (od:=[]) hC he hnp (fun q hq=>?_) (fun i hi=>absurd rfl hi) C0 R0 hargs) ?_
 ·by_cases e1:q=1
  ·subst e1;simp
  ·unfold oB at hq;rw[ax _ _ e1] at hq;simp at hq
 rintro ex w' ⟨u,μ',S',rfl,k1,R',hst,hsub⟩
 have hparts:∃ us,aH μ' S' H' (v.parts [dM.own te e].length) us∧us=[u]:=by
  refine⟨[u],?_,rfl⟩
  have one:aH μ' S' H' [v] [u]:=by simp only[aH];exact⟨u,[],rfl,k1,rfl⟩
  cases v<;>exact one
 obtain⟨us,hus,rfl⟩:=hparts
 obtain⟨os,q1,q2,q3,q4⟩:=qj (S':=S') (Hv:=fun _=>none) R' (fun b o h=>h) dF.no (fun i o h=>by simp[rJ,dM.pY] at h) hus hd hdn
 obtain⟨v1,r1,o1,o2,e1,e2,d1,d2⟩:=q1
 obtain⟨rfl,rfl⟩:=d2
 cases e1
 unfold jY at d1
 simp only[dM.isAgg,Bool.false_eq_true,if_false] at d1
 obtain⟨l2,c1,c2⟩:=d1
 subst c2
 cases c1
 subst hf
 have hOK:=(q3 ⟨l2,.row te e y'.1⟩ (by rw[e2];simp)).2
 have hOb:ni μ' S' H' w' B l2 (.row te e 0 y'.1):=hOK
 obtain⟨cs,g1,g2⟩:=mr hOb
 have hblk:∀ b,l2.blk=some b→S' b=none:=by
  intro b hb
  rcases hOK.2 with h3|⟨b',cs',f1,_,f2,_⟩
  ·rw[h3.1] at hb;simp at hb
  ·rw[f1] at hb;cases hb;exact f2
 refine⟨_,cs,rfl,fun h=>by simp at h,l8 hfl g1,g2,fun b hb=>?_,R'.below.os,R'.below.tape,R'.below.output,R'.below.size,fun b hb hne=>?_⟩
 ·rw[mh] at hb
  rcases Nat.lt_or_ge b w.heap.size with hlt|hge
  ·by_cases hq:v0.ownBlock=some b
   ·exact .inl hq
   ·exfalso
    have h1:S1 b=some w.heap[b]:=by
     show (if v0.ownBlock=some b then none else w.heap[b]?)=_
     rw[if_neg hq];simp[hlt]
    have h2:=hsub b _ h1
    rw[hblk b hb] at h2
    simp at h2
  ·exact .inr hge
 ·have h1:S1 b=some w.heap[b]:=by
   show (if v0.ownBlock=some b then none else w.heap[b]?)=_
   rw[if_neg (fun hq=>hne hq.symm)];simp[hb]
  rw[R'.st b _ (hsub b _ h1)]
  simp[hb]
def HS (P:Program)(C:Cons)(Sm:oe)(lf n k:Nat)(te:TypeId)(e:Ty)(ps:List Ty)(zs:List e.T)(x:cS ps):Option (xp [.own te e]):=
 match P.funcs[k]? with
 | some fn=>match fn.body with
  | some c=>cond (Nat.ble (AV.sl 1 0::cF ps x).length fn.ntmps) (cC P C Sm (oG P C Sm lf n) n k lf 4294967296 [] (some k) false c ⟨fn.ntmps,eZ (.sl 1 0::cF ps x),oB te e zs,[1]⟩ fun e' σ=>match e' with
   | .dG=>Bn P fn.results.toList σ fun v H L=>gY [.own te e] (some (v,H,L))
   | .ret=>Bn P fn.results.toList σ fun v H L=>gY [.own te e] (some (v,H,L))
   | _=>none) none
  | none=>none
 | none=>none
omit [aq] in
theorem N7 {Sm:oe}(hr:gE P C Sm lf){n k:Nat}{te:TypeId}{e:Ty}{ps:List Ty}{zs:List e.T}{x:cS ps}:Le (HS P C Sm lf n k te e ps zs x) (Qg P C (aU Sm) lf n k te e ps zs x):=by
 unfold HS Qg Ds
 cases hfn:P.funcs[k]? with
 | none=>exact Le.none _
 | some fn=>
  simp only
  cases hb:fn.body with
  | none=>exact Le.none _
  | some c=>
   simp only
   cases Nat.ble (AV.sl 1 0::cF ps x).length fn.ntmps with
   | false=>exact Le.none _
   | true=>
    simp only[cond_true]
    refine (bQ hr (fun {R}=>qy hr n) hfn hb false c _ _ (fun x hx=>hx)).trans ?_
    cases aD P C (aU Sm) (bp P C (aU Sm) lf n) lf 4294967296 [] (some k) false c ⟨fn.ntmps,eZ (.sl 1 0::cF ps x),oB te e zs,[1]⟩ with
    | none=>exact Le.none _
    | some p=>
     obtain⟨e1,σ⟩:=p
     cases e1 with
     | dG=>
      simp only[Option.bind_some,oH,Bn]
      cases eR P σ fn.results.toList<;>exact Le.refl _
     | ret=>
      simp only[Option.bind_some,oH,Bn]
      cases eR P σ fn.results.toList<;>exact Le.refl _
     | _=>exact Le.none _
theorem Az {Sm:oe}(hC:bS P C)(hr:gE P C Sm lf){n k:Nat}{te:TypeId}{e:Ty}{ps:List Ty}{f:List e.T→cS ps→Option (List e.T×Unit)}(hfl:e.flat=true)
  (h:∀ zs x,HS P C Sm lf n k te e ps zs x=f zs x):(⟨te,e,ps,false,fun zs x=>(f zs x).map (·.1)⟩:bI).OK P k:=
 DS (Hn:=aU Sm) (lf:=lf) (n:=n) hC hfl fun zs x y hf=>N7 hr y (by rw[h zs x];exact hf)
end
abbrev aA:Nat:=18446744073709551616
def qu {α:Type}:List (Nat×α)→Nat→Option α
 | [],_=>none
 | p::l,k=>cond (Nat.beq k p.1) (some p.2) (qu l k)
def r7 [aq](P:Program):List (Nat×aS)→Prop
 | []=>True
 | p::l=>p.2.OK P p.1∧r7 P l
def CF [aq](P:Program):List (Nat×bI)→Prop
 | []=>True
 | p::l=>p.2.OK P p.1∧CF P l
theorem BU [aq]{P:Program}:∀ {l:List (Nat×aS)},r7 P l→∀ k c,qu l k=some c→c.OK P k
 | [],_,k,c,h=>by simp[qu] at h
 | p::l,ha,k,c,h=>by
  simp only[qu] at h
  cases hb:Nat.beq k p.1 with
  | true=>
   rw[hb] at h
   simp only[cond_true,Option.some.injEq] at h
   subst h
   rw[Nat.eq_of_beq_eq_true hb]
   exact ha.1
  | false=>rw[hb] at h;exact BU ha.2 k c h
theorem DH [aq]{P:Program}:∀ {l:List (Nat×bI)},CF P l→∀ k c,qu l k=some c→c.OK P k
 | [],_,k,c,h=>by simp[qu] at h
 | p::l,ha,k,c,h=>by
  simp only[qu] at h
  cases hb:Nat.beq k p.1 with
  | true=>
   rw[hb] at h
   simp only[cond_true,Option.some.injEq] at h
   subst h
   rw[Nat.eq_of_beq_eq_true hb]
   exact ha.1
  | false=>rw[hb] at h;exact DH ha.2 k c h
def xI (l:List (Nat×aS))(u:List (Nat×bI))(z:List Nat:=[]):Cons:=⟨qu l,qu u,z⟩
class BP [aq] (P:Program):Prop where
 ok:∀ k r,aq.fK k r=dz P k r
theorem ak [aq]{P:Program}[BP P]{l:List (Nat×aS)}{u:List (Nat×bI)}{z:List Nat}(h:r7 P l)(h':CF P u):bS P (xI l u z):=
 ⟨fun k c=>BU h k c,fun k c=>DH h' k c,BP.ok⟩
def mY (P:Program)(k r:Nat):List Code:=match P.funcs[k]? with
 | some fn=>match fn.body with
  | some c=>(aJ c).filter fun x=>match bC x with
   | some q=>Nat.beq q r
   | none=>false
  | none=>[]
 | none=>[]
def hdC (l:List Code):Code:=match l with
 | x::_=>x
 | []=>.skip
def kN:List (Nat×Nat×aK)→oe
 | [],_,_,_=>none
 | p::l,b,r,σ=>cond (Nat.beq b p.1&&Nat.beq r p.2.1&&p.2.2.Tk σ) (some p.2.2) (kN l b r σ)
def Round (P:Program)(C:Cons)(Sm:oe)(lf b r:Nat)(s:aK):Prop:=
 (mY P s.k r).length=1∧∀ z,cC P C Sm (oG P C Sm lf s.n) s.n s.k lf b s.od s.rf false (hdC (mY P s.k r)) (s.shape.Ef z) s.zo=s.step z
def Vb (P:Program)(C:Cons)(Sm:oe)(lf:Nat):List (Nat×Nat×aK)→Prop
 | []=>True
 | p::l=>Round P C Sm lf p.1 p.2.1 p.2.2∧Vb P C Sm lf l
theorem rZ {P:Program}{C:Cons}{Sm:oe}{lf:Nat}:∀ {l:List (Nat×Nat×aK)},Vb P C Sm lf l→∀ b r σ s,kN l b r σ=some s→Round P C Sm lf b r s
 | [],_,b,r,σ,s,h=>by simp[kN] at h
 | p::l,ha,b,r,σ,s,h=>by
  simp only[kN] at h
  cases hb:(Nat.beq b p.1&&Nat.beq r p.2.1&&p.2.2.Tk σ) with
  | true=>
   rw[hb] at h
   simp only[cond_true,Option.some.injEq] at h
   subst h
   simp only[Bool.and_eq_true] at hb
   rw[Nat.eq_of_beq_eq_true hb.1.1,Nat.eq_of_beq_eq_true hb.1.2]
   exact ha.1
  | false=>rw[hb] at h;exact rZ ha.2 b r σ s h
theorem ah {P:Program}{C:Cons}{lf:Nat}{l:List (Nat×Nat×aK)}(h:Vb P C (kN l) lf l):gE P C (kN l) lf:=by
 intro b r σ s hs fn c x hfn hc hx hr z
 obtain⟨h1,h2⟩:=rZ h b r σ s hs
 have hmem:x∈mY P s.k r:=by
  unfold mY
  simp only[hfn,hc]
  exact List.mem_filter.2 ⟨hx,by simp only[hr,Nat.beq_refl]⟩
 have hd:hdC (mY P s.k r)=x:=by
  match ht:mY P s.k r,h1 with
  | [y],_=>rw[ht] at hmem;simp at hmem;rw[hmem];rfl
 have:=h2 z
 rw[hd] at this
 exact Le.of_eq this.symm
theorem aS.OK.of [aq]{P:Program}{k:Nat}{c:aS}(h:c.OK P k){g:cS c.ps→Option (xp c.rs)}(hg:∀ x y,g x=some y→c.f x=some y):(⟨c.ps,c.rs,g⟩:aS).OK P k:=
 fun x y hx=>h x y (hg x y hx)
def Wf:(t:Ty)→t.T→Prop
 | .int k,x=>(Lit.int k x).wf=true
 | .bool,_=>True
 | .str,x=>x.size≤maxLen
 | .row e,xs=>List.length xs≤maxLen∧∀ x∈xs,Wf e x
 | .pair a b,x=>Wf a x.1∧Wf b x.2
 | .one a,x=>Wf a x
 | .Bk _,_=>True
 | .nil,_=>True
def ym:(ps:List Ty)→cS ps→Prop
 | [],_=>True
 | t::ts,x=>Wf t x.1∧ym ts x.2
section
variable {P:Program}{H:Type}{enc:TypeId×Value→H}
theorem xx (hl:laidOutB P=true){W W':World}(hb:Below W.heap.size W W'):∀ {ts:List TypeId} {vs:List Value} {ds:List (DataW H)} {ps:List MemPlace},
  (∀ t∈ts,P.readableRec t=true∧t<P.types.size)→DataW.TrodAll enc P W 0 (fun _=>true) true ts vs ds ps→(∀ x∈ps,x.block<W.heap.size)→∀ sp:Nat→Bool,(∀ x∈ps,sp x.block=true) →
  DataW.TrodAll enc P W' 0 sp true ts vs ds ps
 | [],[],[],ps,_,h,_,sp,_=>h
 | t::ts,v::vs,d::ds,ps,hr,h,hlt,sp,hsp=>by
  obtain⟨p,q,h1,h2,rfl⟩:=h
  refine⟨p,q,?_,xx hl hb (fun t ht=>hr t (by simp[ht])) h2 (fun x hx=>hlt x (by simp[hx])) sp (fun x hx=>hsp x (by simp[hx])),rfl⟩
  exact WideElems.Trod_stays hl (hr t (by simp)).1 (hr t (by simp)).2 h1 (fun x hx=>hb.same (hlt x (by simp[hx]))) (fun x hx=>hsp x (by simp[hx]))
 | [],[],_::_,_,_,h,_,_,_=>by cases h
 | [],_::_,_,_,_,h,_,_,_=>by cases h
 | _::_,[],_,_,_,h,_,_,_=>by cases h
 | _::_,_::_,[],_,_,h,_,_,_=>by cases h
def sizes (P:Program)(fs:List Field):Nat:=(fs.map fun f=>P.cellsOf f.type).sum
theorem Da {S:ar}{n:Nat}{cs:List Value}:∀ (fs:List Field) (o:Nat),(∀ (j:Nat) f,fs[j]? = some f→f.offset=o+sizes P (fs.take j))→cs.length=o+sizes P fs →
  (∀ f∈fs,∀ ty,lS P n f.type=some ty→∃ x,Rd S ty x ((cs.drop f.offset).take (P.cellsOf f.type))∧Wf ty x)→∀ ty,cz (fs.map fun f=>lS P n f.type)=some ty→∃ x,Rd S ty x (cs.drop o)∧Wf ty x
 | [],o,ho,hl,hf,ty,h=>by simp[cz] at h
 | [f],o,ho,hl,hf,ty,h=>by
  simp only[List.map_cons,List.map_nil] at h
  cases ht:lS P n f.type with
  | none=>rw[ht] at h;simp[cz] at h
  | some a=>
   rw[ht] at h
   simp only[cz,Option.some.injEq] at h
   subst h
   obtain⟨x,h1,h2⟩:=hf f (by simp) a ht
   have h0:f.offset=o:=by simpa [sizes] using ho 0 f rfl
   rw[h0,List.take_of_length_le (by simp[sizes] at hl;simp;omega)] at h1
   exact⟨x,h1,h2⟩
 | f::g::fs,o,ho,hl,hf,ty,h=>by
  simp only[List.map_cons] at h
  cases ht:lS P n f.type with
  | none=>rw[ht] at h;simp[cz] at h
  | some a=>
   rw[ht] at h
   simp only[cz] at h
   split at h
   case h_2=>simp at h
   rename_i b hb
   cases h
   obtain⟨x,h1,h2⟩:=hf f (by simp) a ht
   have h0:f.offset=o:=by simpa [sizes] using ho 0 f rfl
   obtain⟨y,k1,k2⟩:=Da (S:=S) (cs:=cs) (g::fs) (o+P.cellsOf f.type) (fun j q hj=>by
    have:=ho (j+1) q (by simpa using hj)
    rw[this];simp[sizes];omega) (by simp[sizes] at hl ⊢;omega) (fun q hq=>hf q (by simp at hq ⊢;exact .inr hq)) b (by simpa using hb)
   refine⟨(x,y),⟨_,_,?_,h1,k1⟩,h2,k2⟩
   rw[h0,← List.drop_drop,List.take_append_drop]
theorem qa {α β:Type}{f:α→Option β}:∀ {l:List α} {r:List β},l.mapM f=some r→r.length=l.length∧∀ (i:Nat) (a:α),l[i]? = some a→∃ b,r[i]? = some b∧f a=some b
 | [],r,h=>by
  simp only[List.mapM_nil,Option.pure_def,Option.some.injEq] at h
  subst h
  exact⟨rfl,fun i a h=>by simp at h⟩
 | x::l,r,h=>by
  simp only[List.mapM_cons,Option.bind_eq_bind,Option.bind_eq_some_iff,Option.pure_def,Option.some.injEq] at h
  obtain⟨b,hb,r',hr',rfl⟩:=h
  obtain⟨h1,h2⟩:=qa hr'
  refine⟨by simp[h1],fun i a hi=>?_⟩
  cases i with
  | zero=>simp at hi;subst hi;exact⟨b,rfl,hb⟩
  | succ i=>exact h2 i a (by simpa using hi)
theorem IV {w:World}{base n:Nat}{a:Addr}{c:List Value}(h:w.cells? base a n=some c):c.length=n∧∀ (m:Nat) v,c[m]? = some v→cellS (nr w) (a.add m)=some v:=by
 unfold World.cells? at h
 split at h
 ·obtain⟨h1,h2⟩:=qa h
  rw[List.length_range] at h1
  refine⟨h1,fun m v hm=>?_⟩
  have hlt:m<n:=by rw[← h1];exact (List.getElem?_eq_some_iff.1 hm).1
  obtain⟨b,k1,k2⟩:=h2 m m (by simp[hlt])
  rw[hm] at k1
  cases k1
  exact k2
 ·simp at h
theorem G5 {β:Type}{R:Nat→β→Prop}:∀ (n:Nat),(∀ i,i<n→∃ b,R i b)→∃ l:List β,l.length=n∧∀ (i:Nat) b,l[i]? = some b→R i b
 | 0,_=>⟨[],rfl,fun i b h=>by simp at h⟩
 | n+1,h=>by
  obtain⟨l,h1,h2⟩:=G5 n (fun i hi=>h i (by omega))
  obtain⟨b,hb⟩:=h n (Nat.lt_succ_self n)
  refine⟨l++[b],by simp[h1],fun i c hi=>?_⟩
  by_cases hin:i<l.length
  ·rw[List.getElem?_append_left hin] at hi;exact h2 i c hi
  ·rw[List.getElem?_append_right (by omega)] at hi
   have:i-l.length=0:=by
    rcases Nat.eq_zero_or_pos (i-l.length) with h|h
    ·exact h
    ·rw[List.getElem?_eq_none (by simp;omega)] at hi;simp at hi
   rw[this] at hi
   simp at hi
   subst hi
   rwa [show i=n by omega]
theorem yB (hl:laidOutB P=true){w:World}{sp:Nat→Bool}{held:Bool}:∀ (n fuel:Nat) (t:TypeId) (cs:List Value) (d:DataW H) (ps:List MemPlace) (ty:Ty),t<P.types.size →
  DataW.trod enc P w 0 sp held fuel t cs=some (d,ps)→lS P n t=some ty→∃ x:ty.T,Rd (nr w) ty x cs∧Wf ty x
 | 0,fuel,t,cs,d,ps,ty,ht,h,hty=>by simp[lS] at hty
 | n+1,0,t,cs,d,ps,ty,ht,h,hty=>by simp[DataW.trod] at h
 | n+1,fuel+1,t,cs,d,ps,ty,ht,h,hty=>by
  simp only[lS] at hty
  split at hty
  ·rename_i k hu
   cases hty
   unfold DataW.trod at h
   rw[hu] at h
   split at h<;>simp only[reduceCtorEq,Option.some.injEq,TypeDesc.int.injEq] at *
   rename_i k' n' hk
   subst hk
   split at h
   ·rename_i hc
    obtain⟨rfl,hw⟩:=hc
    exact⟨n',rfl,hw⟩
   ·simp at h
  ·rename_i hu
   cases hty
   unfold DataW.trod at h
   rw[hu] at h
   split at h<;>simp only[reduceCtorEq,Option.some.injEq] at *
   rename_i b _
   exact⟨b,rfl,trivial⟩
  ·rename_i hu
   cases hty
   unfold DataW.trod at h
   rw[hu] at h
   split at h<;>simp only[reduceCtorEq,Option.some.injEq] at *
   rename_i s _
   split at h
   ·rename_i hc;exact⟨s,rfl,hc⟩
   ·simp at h
  ·rename_i e hu
   split at hty
   case h_2=>simp at hty
   rename_i a hte
   cases hty
   have he:=kid_slice hl ht hu
   unfold DataW.trod at h
   rw[hu] at h
   split at h<;>simp only[reduceCtorEq,Option.some.injEq,TypeDesc.slice.injEq] at *
   ·exact⟨[],⟨none,0,rfl,⟨Nat.le_refl _,fun _=>rfl⟩,fun j x hj=>by simp at hj⟩,by simp[Wf]⟩
   ·rename_i e' ad len cap hee
    cases hee
    split at h
    case isFalse=>simp at h
    rename_i hb
    obtain⟨_,hlc,hcm⟩:=hb
    rw[Option.bind_eq_some_iff] at h
    obtain⟨elems,hel,_⟩:=h
    obtain⟨g1,g2⟩:=qa hel
    rw[List.length_range] at g1
    have each:∀ i,i<len→∃ x:a.T,(∃ c,Rd (nr w) a x c∧∀ m v,c[m]? = some v→cellS (nr w) (ad.add (i * a.size+m))=some v)∧Wf a x:=by
     intro i hi
     obtain⟨b,k1,k2⟩:=g2 i i (by simp[hi])
     rw[Option.bind_eq_some_iff] at k2
     obtain⟨c,q1,q2⟩:=k2
     obtain⟨r1,r2⟩:=IV q1
     obtain⟨x,z1,z2⟩:=yB hl n fuel e c b.1 b.2 a he q2 hte
     have size:P.cellsOf e=a.size:=by rw[← r1];exact bY _ _ _ z1
     refine⟨x,⟨c,z1,fun m v hm=>?_⟩,z2⟩
     have:=r2 m v hm
     rw[add_add,size] at this
     exact this
    obtain⟨xs,l1,l2⟩:=G5 len each
    refine⟨xs,⟨some ad,cap,by rw[l1],⟨by omega,fun h=>by simp at h⟩,fun j x hj=>?_⟩,⟨by rw[l1];omega,fun x hx=>?_⟩⟩
    ·obtain⟨⟨c,m1,m2⟩,_⟩:=l2 j x hj
     exact⟨ad,c,rfl,m1,m2⟩
    ·obtain⟨j,hj⟩:=List.getElem?_of_mem hx
     exact (l2 j x hj).2
  ·rename_i fs hu
   obtain⟨s1,s2,s3⟩:=kid_struct hl ht hu
   unfold DataW.trod at h
   rw[hu] at h
   simp only at h
   split at h
   case isFalse=>simp at h
   rename_i hlen
   rw[Option.map_eq_some_iff] at h
   obtain⟨l,hm,_⟩:=h
   obtain⟨g1,g2⟩:=qa hm
   have each:∀ f∈fs.toList,∀ ty,lS P n f.type=some ty→∃ x,Rd (nr w) ty x ((cs.drop f.offset).take (P.cellsOf f.type))∧Wf ty x:=by
    intro f hf ty hty
    obtain⟨j,hj⟩:=List.getElem?_of_mem hf
    obtain⟨b,k1,k2⟩:=g2 j f hj
    exact yB hl n fuel f.type _ b.1 b.2 ty (s1 f hf) k2 hty
   have chain:=Da (S:=nr w) (cs:=cs) fs.toList 0 (fun j f hj=>by rw[s3 j f hj];simp[sizes]) (by rw[hlen,s2];simp[sizes]) each
   rw[List.drop_zero] at chain
   unfold tI at hty
   split at hty
   ·rename_i a hfs
    cases hty
    have:∃ f,fs.toList=[f]:=by
     cases hfl:fs.toList with
     | nil=>rw[hfl] at hfs;simp at hfs
     | cons f r=>cases r with
      | nil=>exact⟨f,rfl⟩
      | cons g r=>rw[hfl] at hfs;simp at hfs
    obtain⟨x,h1,h2⟩:=chain a (by rw[hfs];simp[cz])
    exact⟨x,h1,h2⟩
   ·exact chain ty hty
  ·simp at hty
end
open Go Go.RowKit Go.WideShapes
def QL:List TypeId→List Ty→Program→Prop
 | [],[],_=>True
 | t::ts,T::Ts,P=>lS P 9 t=some T∧QL ts Ts P
 | _,_,_=>False
section
variable {P:Program}{H:Type}{enc:TypeId×Value→H}
theorem E5:∀ {l:List (Option Ty)} {ty:Ty},tI l=some ty→ty.isAgg=true:=by
 intro l ty h
 unfold tI at h
 split at h
 ·cases h;rfl
 ·rename_i hne
  match l,h,hne with
  | [],h,_=>simp[cz] at h
  | [none],h,_=>simp[cz] at h
  | [some a],h,hne=>exact absurd rfl (hne a)
  | none::_::_,h,_=>simp[cz] at h
  | some a::b::r,h,_=>
   simp only[cz] at h
   split at h
   ·cases h;rfl
   ·simp at h
theorem El {W:World}{base n:Nat}{t:TypeId}{ty:Ty}{v:Value}(h:lS P n t=some ty)(hv:Value.okWide P W .any base t v) :
  (ty.isAgg=true→∃ cs,v = .agg cs)∧(ty.isAgg=false→v.cells.toList=[v]):=by
 cases n with
 | zero=>simp[lS] at h
 | succ n=>
  simp only[lS] at h
  split at h
  ·rename_i k hu
   cases h
   obtain⟨n,rfl⟩:=okWide_int hu hv
   exact⟨fun h=>by simp[Ty.isAgg] at h,fun _=>rfl⟩
  ·rename_i hu
   cases h
   obtain⟨n,rfl⟩:=okWide_bool hu hv
   exact⟨fun h=>by simp[Ty.isAgg] at h,fun _=>rfl⟩
  ·rename_i hu
   cases h
   obtain⟨n,rfl⟩:=okWide_string hu hv
   exact⟨fun h=>by simp[Ty.isAgg] at h,fun _=>rfl⟩
  ·rename_i e hu
   split at h
   ·cases h
    obtain⟨a,l,c,rfl⟩:=okWide_slice hu hv
    exact⟨fun h=>by simp[Ty.isAgg] at h,fun _=>rfl⟩
   ·simp at h
  ·rename_i fs hu
   obtain⟨cs,rfl,_⟩:=okWide_struct hu hv
   exact⟨fun _=>⟨cs,rfl⟩,fun h0=>by rw[E5 h] at h0;simp at h0⟩
  ·simp at h
theorem HD (hl:laidOutB P=true){W:World}{base:Nat}:∀ {ts:List TypeId} {Ts:List Ty} {vs:List Value} {ds:List (DataW H)} {ps:List MemPlace},
  DataW.TrodAll enc P W 0 (fun _=>true) true ts vs ds ps→(∀ (j:Nat) t v,ts[j]? = some t→vs[j]? = some v→Value.okWide P W .any base t v) →
  (∀ t∈ts,t<P.types.size)→QL ts Ts P→∃ x:cS Ts,gG (nr W) Ts x vs∧ym Ts x
 | [],[],[],[],ps,h,_,_,_=>⟨(),rfl,trivial⟩
 | t::ts,T::Ts,v::vs,d::ds,ps,h,hv,ht,hd=>by
  obtain⟨p,q,⟨fuel,h1⟩,h2,rfl⟩:=h
  obtain⟨y,k1,k2⟩:=HD hl h2 (fun j t v=>hv (j+1) t v) (fun t h=>ht t (by simp[h])) hd.2
  obtain⟨x,m1,m2⟩:=yB hl 9 fuel t _ d p T (ht t (by simp)) h1 hd.1
  obtain⟨s1,s2⟩:=El hd.1 (hv 0 t v rfl rfl)
  refine⟨(x,y),⟨v,vs,rfl,?_,k1⟩,m2,k2⟩
  unfold J2
  cases ha:T.isAgg with
  | true=>
   obtain⟨cs,rfl⟩:=s1 ha
   exact⟨cs,rfl,m1⟩
  | false=>
   rw[s2 ha] at m1
   exact m1
 | [],[],_::_,_,_,h,_,_,_=>by cases h
 | [],[],[],_::_,_,h,_,_,_=>by cases h
 | _::_,_::_,[],_,_,h,_,_,_=>by cases h
 | _::_,_::_,_::_,[],_,h,_,_,_=>by cases h
 | [],_::_,_,_,_,_,_,_,hd=>by cases hd
 | _::_,[],_,_,_,_,_,_,hd=>by cases hd
theorem nJ {W:World}{sp:Nat→Bool}{held:Bool}:∀ {ts:List TypeId} {vs:List Value} {ds:List (DataW H)} {ps:List MemPlace},
  DataW.TrodAll enc P W 0 sp held ts vs ds ps→∀ x∈ps,x.block<W.heap.size
 | [],[],[],ps,h,x,hx=>by cases h;simp at hx
 | t::ts,v::vs,d::ds,ps,h,x,hx=>by
  obtain⟨p,q,⟨m,hm⟩,h2,rfl⟩:=h
  rcases List.mem_append.1 hx with hx|hx
  ·exact DataW.trod_lt m _ _ _ hm x hx
  ·exact nJ h2 x hx
 | [],[],_::_,_,h,_,_=>by cases h
 | [],_::_,_,_,h,_,_=>by cases h
 | _::_,[],_,_,h,_,_=>by cases h
 | _::_,_::_,[],_,h,_,_=>by cases h
theorem IY [aq]{k:FuncId}{Ts:List Ty}{f:cS Ts→Option (xp [.val .bool])}{W:World}{base:Nat}{ts:List TypeId}{args:Array Value}{ds:List (DataW H)}{ps:List MemPlace}
  (hl:laidOutB P=true) (hc:(aS.mk Ts [.val .bool] f).OK P k) (hg:aq.pre (nr W))
  (h:DataW.TrodAll enc P W 0 (fun _=>true) true ts args.toList ds ps) (hv:∀ (j:Nat) t v,ts[j]? = some t→args.toList[j]? = some v→Value.okWide P W .any base t v)
  (ht:∀ t∈ts,P.readableRec t=true∧t<P.types.size) (hd:QL ts Ts P) (hp:∀ x:cS Ts,ym Ts x→f x=some (true,())) :
  Calls P k args W fun e W'=>e = .returned (.bool true)∧Below W.heap.size W W'∧DataW.TrodAll enc P W' 0 (fun b=>decide (b<W.heap.size)) true ts args.toList ds ps:=by
 obtain⟨x,h1,h2⟩:=HD hl h hv (fun t h=>(ht t h).2) hd
 have:=hc x (true,()) (hp x h2) (nr W) W args.toList (fun b o h=>h) hg h1
 rw[Array.toArray_toList] at this
 refine this.mono ?_
 rintro e W' ⟨us,S',os,rfl,hb,_,_,_,hres,_⟩
 obtain⟨v,r,o,p,rfl,_,hv',hr'⟩:=hres
 obtain⟨rfl,_⟩:=hr'
 refine⟨?_,hb,xx hl hb ht h (nJ h) _ (fun x hx=>decide_eq_true (nJ h x hx))⟩
 unfold jY at hv'
 simp only[dM.isAgg,Ty.isAgg,Bool.false_eq_true,if_false,J0,Rd] at hv'
 obtain⟨h,_⟩:=hv'
 cases h
 rfl
end
open Go Go.RowKit Go.WideShapes Go.ChangeShapes
theorem BE {H:Type}{enc:TypeId×Value→H}{P:Program}{W:World}{b:Nat}{sp:Nat→Bool}{held:Bool}:∀ {ts:List TypeId} {vs:List Value} {ds:List (DataW H)} {ps:List MemPlace},
  DataW.TrodAll enc P W b sp held ts vs ds ps→ds.length=ts.length
 | [],[],[],_,_=>rfl
 | _::ts,_::vs,_::ds,_,h=>by obtain⟨p,q,_,h2,_⟩:=h;simp[BE h2]
 | [],[],_::_,_,h=>by cases h
 | [],_::_,_,_,h=>by cases h
 | _::_,[],_,_,h=>by cases h
 | _::_,_::_,[],_,h=>by cases h
theorem iH [aq]{H:Type}{enc:TypeId×Value→H}{C:Checked}{os:Os}{k:FuncId}{fn:Func}{s:ChangeSpec}{Ts:List Ty}{F:cS Ts→Option (xp [.val .bool])}{ts:List TypeId}{tb:TypeId}
  (own:ownKnob C.prog.godebug=none) (started:os.Started) (noInit:C.prog.inits.idxOf? k=none) (hfn:C.prog.funcs[k]? = some fn)
  (witness:∃ (w:World) (tape:Tape) (i:Input),w.os=os∧(w.forCall tape i).Shaped C.prog∧i.vars=[]∧Input.okWide C.prog (w.forCall tape i) .any w.heap.size k i ∧
   s.pre6 enc C.prog fn [] false (w.forCall tape i).memory i.args∧({}:Assume).holds C.prog (lone (Frame.enter C.prog k i.args .normal) [] (w.forCall tape i)))
  (hg:∀ (W:World),W.ShapedOpen C.prog→aq.pre (nr W))
  (hl:laidOutB C.prog=true) (hc:(aS.mk Ts [.val .bool] F).OK C.prog k)
  (hps:fn.params=ts.toArray) (hrs:fn.resultTypes = #[tb]) (hb:C.prog.underlying tb=some .bool)
  (ht:∀ t∈ts,C.prog.readableRec t=true∧t<C.prog.types.size) (hd:QL ts Ts C.prog)
  (hv:s.vars=[]) (hs:∀ ds:List (DataW H),ds.length=ts.length→s.fn H ds={ results:=[.lit (.bool true)],args:=ds })
  (hp:∀ x:cS Ts,ym Ts x→F x=some (true,())) :
  ReturnsInHanded {} C os k .any (s.pre6 enc C.prog fn [] false) (s.post enc C.prog fn false true false false):=by
 refine returnsInHanded_of_calls own started noInit witness ?_
 intro w tape i _ hsh _ hok hpre hholds
 obtain⟨_,_,_,fn',hfn',_,_,_,_,hval⟩:=hok
 have e:fn'=fn:=Option.some.inj (hfn'.symm.trans hfn)
 subst e
 obtain⟨⟨ds,gs,before,hw,_⟩,_⟩:=hpre
 have hw':=DataW.Whole.of_heap (w':=w.forCall tape i) (by rfl) hw
 have hW:=hw'
 obtain⟨p,q,hA,hV,rfl,_,_⟩:=hw'
 rw[hv] at hV
 obtain⟨rfl,rfl⟩:=trodVars_none hV
 have hpl:fn'.params.toList=ts:=by rw[hps]
 rw[hpl] at hA
 have hlen:=BE hA
 refine (IY (enc:=enc) hl hc (hg _ hsh) hA (fun j t v h1 h2=>hval j t v (by rw[hps];simpa using h1) (by simpa using h2)) ht hd hp).mono ?_
 rintro e W' ⟨rfl,bel,back⟩
 refine ChangeSpec.post_blind ?_
 refine⟨ds,[],_,[],p,[],hW,?_,?_,?_,bel.frame _,fun h=>by cases h⟩
 ·rw[List.append_nil,hs ds hlen,hrs];exact trodAll_mk1 (shut_bool hb true)
 ·rw[List.append_nil,hs ds hlen,hpl];exact back
 ·rw[List.append_nil,hs ds hlen,hv];rfl
section
variable [aq]{P:Program}{C:Cons}{Sm:oe}{lf:Nat}{w w0:World}{μ:Mu}{S:ar}{H:Heap}{B:Nat}
end
end Go.Sy
