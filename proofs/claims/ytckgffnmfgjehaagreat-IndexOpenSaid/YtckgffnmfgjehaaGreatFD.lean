/- Sym16, Sym17, Sym18, Sym18b, Sym19, Sym20, Sym21, Sym22, Sym23, Sym24. -/
import Derived.Test.YtckgffnmfgjehaaGreatFC
import Derived.Carry
import Derived.ProofKit
import Derived.SizedLaws
import Derived.RecoverIn
import Derived.RangeFuncLeaves
open Nat renaming eq_of_beq_eq_true → ae, beq → al, ble → dq
open Option renaming bind_some → ap, map_some → cf, bind_eq_some_iff → cn
open Bool renaming false_eq_true → aw, and_eq_true → be
open Option.some renaming injEq → ba
open List renaming append_nil → bi, nil_append → bj, map_cons → cd, range → da, append_assoc → dd, length → dj, mem_append → dk, getElem?_eq_none → dp
open Go.DataW renaming TrodAll → bm, trod → db
open Go.Value renaming okWide → dt
namespace Go.Sy
open Go Go.RowKit
set_option linter.unusedSimpArgs false
set_option linter.unusedVariables false
mutual
def ja:AV→AV→Bool
 | .ptr i o,.ptr j p=>al i j&&al o p
 | .sl i g,.sl j h=>al i j&&al g h
 | .ah,.ah=>true
 | .agg a,.agg b=>ud a b
 | .iK i,.iK j=>al i j
 | .mp i,.mp j=>al i j
 | .zR i,.zR j=>al i j
 | .lit (.tuple x),.lit (.tuple y)=>al x.size 0&&al y.size 0
 | .lit (.int k i),.lit (.int l j)=>I8 k l&&decide (i=j)
 | .fn (.func f) a b,.fn (.func g) c d=>al f g&&ud a c&&ud b d
 | _,_=>false
def ud:List AV→List AV→Bool
 | [],[]=>true
 | a::as,b::bs=>ja a b&&ud as bs
 | _,_=>false
end
mutual
theorem I6:∀ (a b:AV),ja a b=true→a=b
 | .ptr i o,b,h=>by
  cases b<;>simp only[ja,aw] at h
  simp only[be] at h
  rw[ae h.1,ae h.2]
 | .sl i o,b,h=>by
  cases b<;>simp only[ja,aw] at h
  simp only[be] at h
  rw[ae h.1,ae h.2]
 | .agg a,b,h=>by
  cases b<;>simp only[ja,aw] at h
  rw[pR _ _ h]
 | .ah,b,h=>by
  cases b<;>simp only[ja,aw] at h
  rfl
 | .iK i,b,h=>by
  cases b<;>simp only[ja,aw] at h
  rw[ae h]
 | .mp i,b,h=>by
  cases b<;>simp only[ja,aw] at h
  rw[ae h]
 | .zR i,b,h=>by
  cases b<;>simp only[ja,aw] at h
  rw[ae h]
 | .lit x,b,h=>by
  cases b with
  | lit y=>
   cases x with
   | int k i=>
    cases y<;>simp only[ja,aw,be,decide_eq_true_eq] at h
    rw[DZ h.1,h.2]
   | tuple x=>
    cases y<;>simp only[ja,aw] at h
    rename_i y
    simp only[be] at h
    have h1:=ae h.1
    have h2:=ae h.2
    have e1:x = #[]:=by simpa using h1
    have e2:y = #[]:=by simpa using h2
    rw[e1,e2]
   | _=>simp[ja] at h
  | _=>cases x<;>simp[ja] at h
 | .fn f a b,y,h=>by
  cases y with
  | fn g c d=>
   cases f<;>cases g<;>simp only[ja,aw] at h
   simp only[be] at h
   rw[ae h.1.1,pR a c h.1.2,pR b d h.2]
  | _=>cases f<;>simp[ja] at h
 | .FI e x o,y,h=>by cases y<;>simp[ja] at h
 | .CY i g k o,y,h=>by cases y<;>simp[ja] at h
 | .cont e xs,y,h=>by cases y<;>simp[ja] at h
 | .Ks i xs,y,h=>by cases y<;>simp[ja] at h
 | .uo l,y,h=>by cases y<;>simp[ja] at h
theorem pR:∀ (as bs:List AV),ud as bs=true→as=bs
 | [],[],_=>rfl
 | [],_::_,h=>by simp[ud] at h
 | _::_,[],h=>by simp[ud] at h
 | a::as,b::bs,h=>by
  simp only[ud,be] at h
  rw[I6 a b h.1,pR as bs h.2]
end
def Ev (e:Ty):List AV→Option (List e.T×List AV)
 | .cont e' xs::r=>match gx (e:=e') (e':=e) xs with
  | some ys=>some (ys,r)
  | none=>none
 | _=>none
def Bv (k:Nat):List AV→Option (Unit×List AV)
 | .fn (.func j) [] []::r=>cond (al j k) (some ((),r)) none
 | _=>none
theorem F6 {k:Nat}{l:List AV}{x:Unit}{r:List AV}(h:Bv k l=some (x,r)):l=AV.fn (.func k) [] []::r:=by
 unfold Bv at h
 split at h
 ·rename_i j r'
  cases hb:al j k with
  | true=>
   rw[hb] at h
   cases h
   rw[ae hb]
  | false=>rw[hb] at h;cases h
 ·cases h
def sH:(t:Ty)→List AV→Option (t.T×List AV)
 | .int k,l=>Bn k l
 | .bool,l=>uv l
 | .str,l=>BA l
 | .row e,l=>Ev e l
 | .pair a b,l=>match sH a l with
  | some (x,l')=>match sH b l' with
   | some (y,l'')=>some ((x,y),l'')
   | none=>none
  | none=>none
 | .one a,l=>sH a l
 | .CQ k,l=>Bv k l
 | .nil,l=>Am l
theorem uB:∀ (t:Ty) (l:List AV) (x:t.T) (r:List AV),sH t l=some (x,r)→l=enc t x++r
 | .int k,l,x,r,h=>by
  simp only[sH] at h
  unfold Bn at h
  split at h
  ·obtain⟨hk,he⟩:=ai h
   cases he
   simp only[decide_eq_true_eq] at hk
   subst hk;rfl
  ·simp at h
 | .bool,l,x,r,h=>by
  simp only[sH] at h
  unfold uv at h
  split at h
  ·cases h;rfl
  ·simp at h
 | .str,l,x,r,h=>by
  simp only[sH] at h
  unfold BA at h
  split at h
  ·cases h;rfl
  ·simp at h
 | .CQ k,l,x,r,h=>by
  simp only[sH] at h
  rw[F6 h];rfl
 | .nil,l,x,r,h=>by
  simp only[sH] at h
  unfold Am at h
  split at h
  ·cases h;rfl
  ·simp at h
 | .row e,l,x,r,h=>by
  simp only[sH] at h
  unfold Ev at h
  split at h
  ·split at h
   ·rename_i hc
    cases h
    obtain⟨he,rfl⟩:=b9 hc
    subst he;rfl
   ·simp at h
  ·simp at h
 | .pair a b,l,x,r,h=>by
  simp only[sH] at h
  split at h
  ·rename_i y l' h1
   split at h
   ·rename_i z l'' h2
    cases h
    rw[uB a l y l' h1,uB b l' z _ h2]
    simp only[enc,dd]
   ·simp at h
  ·simp at h
 | .one a,l,x,r,h=>by
  simp only[sH] at h
  simpa only [enc] using uB a l x r h
inductive SK where
 | data (t:Ty)
 | int (k:IntKind)
 | bool
 | str
 | cont (e:Ty)
 | fix (a:AV)
 | ur (i off:Nat)
 | cH (i q:Nat)
@[reducible] def SK.T:SK→Type
 | .data t=>t.T
 | .int _=>Int
 | .bool=>Bool
 | .str=>ByteArray
 | .cont e=>List e.T
 | .fix _=>Unit
 | .ur _ _=>Nat
 | .cH _ _=>Nat×(Nat×Nat)
def SK.put:(s:SK)→s.T→AV
 | .data t,x=>.agg (enc t x)
 | .int k,x=>.lit (.int k x)
 | .bool,x=>.lit (.bool x)
 | .str,x=>.lit (.string x)
 | .cont e,xs=>.cont e xs
 | .fix a,_=>a
 | .ur i off,k=>.ur i k off
 | .cH i q,x=>.cH i q x.1 x.2.1 x.2.2
def OO (k:IntKind):AV→Option Int
 | .lit (.int k' x)=>cond (decide (k'=k)) (some x) none
 | _=>none
def JE (t:Ty):AV→Option t.T
 | .agg cs=>match sH t cs with
  | some (x,[])=>some x
  | _=>none
 | _=>none
def Ky:AV→Option Bool
 | .lit (.bool x)=>some x
 | _=>none
def P7:AV→Option ByteArray
 | .lit (.string x)=>some x
 | _=>none
def Kz (e:Ty):AV→Option (List e.T)
 | .cont e' xs=>gx (e:=e') (e':=e) xs
 | _=>none
def QO (i off:Nat):AV→Option Nat
 | .ur j k o=>cond (al j i&&al o off) (some k) none
 | _=>none
def Nk (i q:Nat):AV→Option (Nat×(Nat×Nat))
 | .cH j r k a b=>cond (al j i&&al r q) (some (k,(a,b))) none
 | _=>none
def SK.get:(s:SK)→AV→Option s.T
 | .data t,a=>JE t a
 | .int k,a=>OO k a
 | .bool,a=>Ky a
 | .str,a=>P7 a
 | .cont e,a=>Kz e a
 | .fix b,a=>cond (ja a b) (some ()) none
 | .ur i off,a=>QO i off a
 | .cH i q,a=>Nk i q a
theorem SK.A8:∀ (s:SK) (a:AV) (x:s.T),s.get a=some x→a=s.put x
 | .data t,a,x,h=>by
  simp only[SK.get] at h
  unfold JE at h
  split at h
  ·split at h
   ·rename_i hd
    cases h
    rw[uB t _ _ _ hd,bi];rfl
   ·simp at h
  ·simp at h
 | .int k,a,x,h=>by
  simp only[SK.get] at h
  unfold OO at h
  split at h
  ·obtain⟨hk,e⟩:=ai h
   simp only[decide_eq_true_eq] at hk
   subst hk;subst e;rfl
  ·simp at h
 | .bool,a,x,h=>by
  simp only[SK.get] at h
  unfold Ky at h
  split at h
  ·cases h;rfl
  ·simp at h
 | .str,a,x,h=>by
  simp only[SK.get] at h
  unfold P7 at h
  split at h
  ·cases h;rfl
  ·simp at h
 | .cont e,a,x,h=>by
  simp only[SK.get] at h
  unfold Kz at h
  split at h
  ·obtain⟨he,e1⟩:=b9 h
   subst he;subst e1;rfl
  ·simp at h
 | .fix b,a,x,h=>by
  simp only[SK.get] at h
  obtain⟨h1,_⟩:=ai h
  exact I6 a b h1
 | .ur i off,a,x,h=>by
  simp only[SK.get] at h
  unfold QO at h
  split at h
  ·obtain⟨h1,e⟩:=ai h
   simp only[be] at h1
   rw[ae h1.1,ae h1.2,e];rfl
  ·simp at h
 | .cH i q,a,x,h=>by
  simp only[SK.get] at h
  unfold Nk at h
  split at h
  ·obtain⟨h1,e⟩:=ai h
   simp only[be] at h1
   rw[ae h1.1,ae h1.2,← e];rfl
  ·simp at h
@[reducible] def XT:List SK→Type
 | []=>Unit
 | s::ss=>s.T×XT ss
def Oy:(l:List SK)→XT l→List AV
 | [],_=>[]
 | s::ss,x=>s.put x.1::Oy ss x.2
def D1:(l:List SK)→List AV→Option (XT l)
 | [],[]=>some ()
 | s::ss,a::as=>match s.get a,D1 ss as with
  | some x,some y=>some (x,y)
  | _,_=>none
 | _,_=>none
theorem qh:∀ (l:List SK) (as:List AV) (x:XT l),D1 l as=some x→as=Oy l x
 | [],[],x,h=>rfl
 | [],_::_,x,h=>by simp[D1] at h
 | s::ss,[],x,h=>by simp[D1] at h
 | s::ss,a::as,x,h=>by
  simp only[D1] at h
  split at h
  ·rename_i y z h1 h2
   cases h
   rw[SK.A8 s a y h1,qh ss as z h2];rfl
  ·simp at h
def Vq:Xz→Xz→Bool
 | .ret,.ret=>true
 | .exit a,.exit b=>al a b
 | .goto a,.goto b=>al a b
 | _,_=>false
def Xs:KO→KO→Bool
 | .ready,.ready=>true
 | .busy,.busy=>true
 | .over,.over=>true
 | .done a,.done b=>Vq a b
 | _,_=>false
theorem Sf:∀ {a b:KO},Xs a b=true→a=b:=by
 intro a b h
 cases a<;>cases b<;>simp only[Xs,aw] at h<;>try rfl
 rename_i x y
 cases x<;>cases y<;>simp only[Vq,aw] at h<;>first|rfl|rw[ae h]
inductive OS where
 | box (t:TypeId) (ks:List SK)
 | row (t:TypeId) (e:Ty) (g:Nat)
 | eP
 | loop (k r:Nat) (st:KO) (ks:List SK)
 | map
 | cL
 | gone
 | aO (t ti q:Nat)
 | zf (t ti q:Nat)
@[reducible] def OS.T:OS→Type
 | .box _ ks=>XT ks
 | .row _ e _=>List e.T
 | .eP=>ByteArray×Nat
 | .loop _ _ _ ks=>XT ks
 | .map=>List (Int×Int)
 | .cL=>List ((Int×(Int×Int))×Int)
 | .gone=>Unit
 | .aO _ _ _=>List cM.T
 | .zf _ _ _=>List cM.T×Nat
def OS.put:(s:OS)→s.T→Option aS
 | .box t ks,x=>some (.box t (Oy ks x))
 | .row t e g,xs=>some (.row t e g xs)
 | .eP,x=>some (.eP x.1 x.2)
 | .loop k r st ks,x=>some (.loop k r st (Oy ks x))
 | .map,x=>some (.map x)
 | .cL,x=>some (.cL x)
 | .gone,_=>none
 | .aO t ti q,xs=>some (.aO t ti q xs .own)
 | .zf t ti q,x=>some (.aO t ti q x.1 (.iI x.2))
def Q3 (t:TypeId)(ks:List SK):Option aS→Option (XT ks)
 | some (.box t' cs)=>cond (al t' t) (D1 ks cs) none
 | _=>none
def Qg (t:TypeId)(e:Ty)(g:Nat):Option aS→Option (List e.T)
 | some (.row t' e' g' xs)=>cond (al t' t&&al g' g) (gx (e:=e') (e':=e) xs) none
 | _=>none
def E6:Option aS→Option (ByteArray×Nat)
 | some (.eP s pos)=>some (s,pos)
 | _=>none
def getLoop (k r:Nat)(st:KO)(ks:List SK):Option aS→Option (XT ks)
 | some (.loop k' r' st' ts)=>cond (al k' k&&al r' r&&Xs st' st) (D1 ks ts) none
 | _=>none
def Nx:Option aS→Option (List (Int×Int))
 | some (.map es)=>some es
 | _=>none
def Jg:Option aS→Option (List ((Int×(Int×Int))×Int))
 | some (.cL es)=>some es
 | _=>none
def J5:Option aS→Option Unit
 | none=>some ()
 | _=>none
def JR (t ti q:Nat):Option aS→Option (List cM.T)
 | some (.aO t' ti' q' xs .own)=>cond (al t' t&&al ti' ti&&al q' q) (some xs) none
 | _=>none
def D7 (t ti q:Nat):Option aS→Option (List cM.T×Nat)
 | some (.aO t' ti' q' xs (.iI m))=>cond (al t' t&&al ti' ti&&al q' q) (some (xs,m)) none
 | _=>none
def OS.get:(s:OS)→Option aS→Option s.T
 | .box t ks,o=>Q3 t ks o
 | .row t e g,o=>Qg t e g o
 | .eP,o=>E6 o
 | .loop k r st ks,o=>getLoop k r st ks o
 | .map,o=>Nx o
 | .cL,o=>Jg o
 | .gone,o=>J5 o
 | .aO t ti q,o=>JR t ti q o
 | .zf t ti q,o=>D7 t ti q o
theorem dI {α:Type}{c:Bool}{a:Option α}{b:α}(h:cond c a none=some b):c=true∧a=some b:=by
 cases c<;>simp_all
theorem OS.A8:∀ (s:OS) (o:Option aS) (x:s.T),s.get o=some x→o=s.put x
 | .box t ks,o,x,h=>by
  simp only[OS.get] at h
  unfold Q3 at h
  split at h
  ·obtain⟨h1,h2⟩:=dI h
   rw[ae h1,qh _ _ _ h2];rfl
  ·simp at h
 | .row t e g,o,x,h=>by
  simp only[OS.get] at h
  unfold Qg at h
  split at h
  ·obtain⟨h1,h2⟩:=dI h
   simp only[be] at h1
   obtain⟨he,e1⟩:=b9 h2
   subst he;subst e1
   rw[ae h1.1,ae h1.2];rfl
  ·simp at h
 | .eP,o,x,h=>by
  simp only[OS.get] at h
  unfold E6 at h
  split at h
  ·cases h;rfl
  ·simp at h
 | .map,o,x,h=>by
  simp only[OS.get] at h
  unfold Nx at h
  split at h
  ·cases h;rfl
  ·simp at h
 | .cL,o,x,h=>by
  simp only[OS.get] at h
  unfold Jg at h
  split at h
  ·cases h;rfl
  ·simp at h
 | .loop k r st ks,o,x,h=>by
  simp only[OS.get] at h
  unfold getLoop at h
  split at h
  ·obtain⟨h1,h2⟩:=dI h
   simp only[be] at h1
   rw[ae h1.1.1,ae h1.1.2,Sf h1.2,qh _ _ _ h2];rfl
  ·simp at h
 | .gone,o,x,h=>by
  simp only[OS.get] at h
  unfold J5 at h
  split at h
  ·rfl
  ·simp at h
 | .aO t ti q,o,x,h=>by
  simp only[OS.get] at h
  unfold JR at h
  split at h
  ·obtain⟨h1,h2⟩:=dI h
   simp only[be] at h1
   cases h2
   rw[ae h1.1.1,ae h1.1.2,ae h1.2];rfl
  ·simp at h
 | .zf t ti q,o,x,h=>by
  simp only[OS.get] at h
  unfold D7 at h
  split at h
  ·obtain⟨h1,h2⟩:=dI h
   simp only[be] at h1
   cases h2
   rw[ae h1.1.1,ae h1.1.2,ae h1.2];rfl
  ·simp at h
@[reducible] def OT:List (Nat×OS)→Type
 | []=>Unit
 | s::ss=>s.2.T×OT ss
def RQ:(l:List (Nat×OS))→OT l→List (Nat×Option aS)
 | [],_=>[]
 | s::ss,x=>(s.1,s.2.put x.1)::RQ ss x.2
def sP (f:Nat→Option aS):(l:List (Nat×OS))→Option (OT l)
 | []=>some ()
 | s::ss=>match s.2.get (f s.1),sP f ss with
  | some x,some y=>some (x,y)
  | _,_=>none
theorem Dq (f:Nat→Option aS):∀ (l:List (Nat×OS)) (x:OT l),sP f l=some x→(l.map (·.1)).map (fun i=>(i,f i))=RQ l x
 | [],x,h=>rfl
 | s::ss,x,h=>by
  simp only[sP] at h
  split at h
  ·rename_i y z h1 h2
   cases h
   simp only[cd,RQ]
   rw[OS.A8 s.2 _ y h1,Dq f ss z h2]
  ·simp at h
@[reducible] def RT:List iM→Type
 | []=>Unit
 | r::rs=>List r.e.T×RT rs
def uA:(l:List iM)→RT l→List (Nat×Option aS)
 | [],_=>[]
 | r::rs,x=>(r.id,some (.row r.te r.e 0 x.1))::uA rs x.2
def Xt (σ:St)(r:iM):Option (List r.e.T×Option Nat):=
 match σ.qQ r.at' with
 | .lit (.slice none 0 0)=>some ([],none)
 | .sl a g=>match σ.heap a with
  | some (.row te e g' xs)=>cond (al g g'&&al te r.te) (match gx (e:=e) (e':=r.e) xs with
   | some ys=>some (ys,some a)
   | none=>none) none
  | _=>none
 | _=>none
def qY (σ:St):(l:List iM)→Option (RT l×List (Option Nat))
 | []=>some ((),[])
 | r::rs=>match Xt σ r,qY σ rs with
  | some (x,s),some (y,ss)=>some ((x,y),s::ss)
  | _,_=>none
theorem H6 {σ:St}{r:iM}{x:List r.e.T}{s:Option Nat}(h:Xt σ r=some (x,s)):Ez σ r=some ⟨r.id,s,r.te,r.e,x⟩:=by
 unfold Xt at h
 unfold Ez
 split at h
 ·rename_i hx;cases h;simp only[hx]
 ·rename_i a g hx
  simp only[hx]
  split at h
  ·rename_i te e g' xs hH
   simp only[hH]
   cases hb:(al g g'&&al te r.te) with
   | false=>rw[hb] at h;simp at h
   | true=>
    rw[hb] at h
    simp only[cond_true] at h ⊢
    split at h
    ·rename_i ys hc;cases h;simp only[hc]
    ·simp at h
  ·simp at h
 ·simp at h
theorem qe {σ:St}:∀ {l:List iM} {x:RT l} {ss:List (Option Nat)},qY σ l=some (x,ss) →
  ∃ ls,EY σ l=some ls∧ls.map (fun s=>(s.id,some (aS.row s.te s.e 0 s.xs)))=uA l x∧ls.map (·.id)=l.map (·.id)∧Src.list ls=ss.filterMap id
 | [],x,ss,h=>by simp only[qY,ba,Prod.mk.injEq] at h;obtain⟨_,rfl⟩:=h;exact⟨[],rfl,rfl,rfl,rfl⟩
 | r::rs,x,ss,h=>by
  simp only[qY] at h
  split at h
  ·rename_i y s z ss' h1 h2
   cases h
   obtain⟨ls,k1,k2,k3,k4⟩:=qe h2
   refine⟨⟨r.id,s,r.te,r.e,y⟩::ls,?_,?_,?_,?_⟩
   ·simp only[EY,H6 h1,k1]
   ·simp only[cd,k2,uA]
   ·simp only[cd,k3]
   ·unfold Src.list at k4 ⊢
    cases s with
    | none=>simp only[List.filterMap_cons,k4,id]
    | some a=>simp only[List.filterMap_cons,k4,id]
  ·simp at h
structure aj where
 nt:Nat
 keep:List (Nat×SK)
 od:List (Nat×OS)
 own:List (Nat×OS)
 rows:List iM
def aj.hint (s:aj):Hint:=⟨s.keep.map (·.1),s.own.map (·.1),s.rows⟩
@[reducible] def aj.X (s:aj):Type:=XT (s.keep.map (·.2))×OT (s.od++s.own)×RT s.rows
def aj.ids (s:aj):List Nat:=(s.od++s.own).map (·.1)
def Uq:List Nat→List AV→List (Nat×AV)
 | t::ts,a::as=>(t,a)::Uq ts as
 | _,_=>[]
def aj.FB (s:aj)(x:s.X):St:=
 ⟨s.nt,ZC (Eh s.rows++Uq (s.keep.map (·.1)) (Oy _ x.1)),I7 (uA _ x.2.2++RQ _ x.2.1),s.ids++s.rows.map (·.id)⟩
def lV:List Nat→List Nat→Bool
 | [],[]=>true
 | a::as,b::bs=>al a b&&lV as bs
 | _,_=>false
theorem fH:∀ {as bs:List Nat},lV as bs=true→as=bs
 | [],[],_=>rfl
 | [],_::_,h=>by simp[lV] at h
 | _::_,[],h=>by simp[lV] at h
 | a::as,b::bs,h=>by
  simp only[lV,be] at h
  rw[ae h.1,fH h.2]
def aj.fits (s:aj)(σ:St)(ss:List (Option Nat)):Bool:=
 al σ.nt s.nt&&distinct (ss.filterMap id)&&distinct (s.rows.map (·.id))&&s.rows.all (fun r=>!mem s.ids r.id)&&(ss.filterMap id).all (fun a=>!mem s.ids a)
def aj.read (s:aj)(σ:St):Option s.X:=
 match D1 (s.keep.map (·.2)) ((s.keep.map (·.1)).map fun t=>clean s.ids (σ.val (.tmp t))),sP (fun i=>(σ.heap i).map (nH s.rows s.ids i)) (s.od++s.own),qY σ s.rows with
 | some x,some y,some (z,ss)=>cond (s.fits σ ss) (some (x,y,z)) none
 | _,_,_=>none
theorem Fk (f:Nat→AV):∀ (l:List Nat),l.map (fun t=>(t,f t))=Uq l (l.map f)
 | []=>rfl
 | t::l=>by simp only[cd,Uq,Fk f l]
theorem aj.sy {s:aj}{σ:St}{x:s.X}(h:s.read σ=some x):head (s.od.map (·.1)) s.hint σ=some (s.FB x):=by
 unfold aj.read at h
 split at h
 ·rename_i y z r ss h1 h2 h3
  obtain⟨hf,rfl⟩:=ai h
  unfold aj.fits at hf
  simp only[be] at hf
  obtain⟨⟨⟨⟨f1,f2⟩,f3⟩,f4⟩,f5⟩:=hf
  obtain⟨ls,k1,k2,k3,k4⟩:=qe h3
  have hL:s.od.map (·.1)++s.hint.ids=s.ids:=by simp[aj.hint,aj.ids]
  have g1:=qh _ _ _ h1
  have g2:=Dq _ _ _ h2
  unfold head
  simp only[hL]
  have hs:EY σ s.hint.rows=some ls:=k1
  rw[hs]
  have e1:ls.all (fun p=>!mem s.ids p.id)=true:=by
   rw[List.all_eq_true] at f4 ⊢
   intro p hp
   have:p.id∈s.rows.map (·.id):=by rw[← k3];exact List.mem_map.2 ⟨p,hp,rfl⟩
   obtain⟨q,hq,e⟩:=List.mem_map.1 this
   rw[← e];exact f4 q hq
  simp only[k3,k4,f2,f3,e1,f5,Bool.and_self,Bool.and_true,cond_true]
  rw[ae f1]
  simp only[aj.FB,ba,St.mk.injEq,true_and]
  refine⟨?_,?_,trivial⟩
  ·congr 1
   show Eh s.rows++(s.keep.map (·.1)).map (fun t=>(t,clean s.ids (σ.val (.tmp t))))=_
   rw[Fk (fun t=>clean s.ids (σ.val (.tmp t))),g1]
  ·rw[k2]
   congr 2
 ·simp at h
def Le {α:Type}(a b:Option α):Prop:=∀ r,a=some r→b=some r
theorem Le.refl {α:Type}(a:Option α):Le a a:=fun _ h=>h
theorem Le.of_eq {α:Type}{a b:Option α}(h:a=b):Le a b:=h ▸ Le.refl a
theorem Le.none {α:Type}(b:Option α):Le Option.none b:=fun _ h=>by simp at h
theorem Le.trans {α:Type}{a b c:Option α}(h:Le a b)(k:Le b c):Le a c:=fun r x=>k r (h r x)
theorem Le.bind {α β:Type}{a:Option α}{f g:α→Option β}(h:∀ x,Le (f x) (g x)):Le (a.bind f) (a.bind g):=by
 cases a with
 | none=>exact Le.none _
 | some x=>exact h x
inductive R3 (α β γ:Type) where
 | next (x:α)
 | out (y:β)
 | ret (y:γ)
def iter {α β γ:Type}:Nat→(α→Option (R3 α β γ))→α→Option (Sum β γ)
 | 0,_,_=>none
 | n+1,f,x=>match f x with
  | some (.next x')=>iter n f x'
  | some (.out y)=>some (.inl y)
  | some (.ret y)=>some (.inr y)
  | none=>none
structure aK where
 n:Nat
 k:Nat
 shape:aj
 OE:Nat
 out:aj
 ret:aj
 step:shape.X→Option (R3 shape.X out.X ret.X)
 rnd:Bool:=false
 lab:Option Nat:=none
 sel:Option (Nat×Int):=none
 fD:List (Nat×Nat×Nat):=[]
def aK.rf (s:aK):Option Nat:=cond s.rnd none (some s.k)
def TZ:Option Nat→Option Nat→Bool
 | none,none=>true
 | some a,some b=>al a b
 | _,_=>false
theorem uD {a b:Option Nat}(h:TZ a b=true):a=b:=by
 cases a<;>cases b<;>simp only[TZ,aw] at h<;>first|rfl|rw[ae h]
def aK.od (s:aK):List Nat:=s.shape.od.map (·.1)
def aK.lh (s:aK):qE:=⟨s.shape.hint,some s.out.hint,some s.ret.hint,s.fD⟩
def aK.fits (s:aK)(n k:Nat)(od:List Nat)(rf lab:Option Nat):Bool:=
 TZ s.lab lab&&TZ s.rf rf&&al s.n n&&al s.k k&&lV s.od od&&lV (s.out.od.map (·.1)) od&&lV (s.ret.od.map (·.1)) od
def aK.Vn (s:aK)(σ:St):Bool:=
 match s.sel with
 | none=>true
 | some (t,i)=>match σ.tmps t with
  | .lit (.int _ j)=>decide (j=i)
  | _=>false
abbrev oS:=Nat→Nat→St→Option aK
def sumOf (Sm:oS)(base:Nat)(x:Code)(σ:St):Option aK:=
 match bK x with
 | some r=>Sm base r σ
 | none=>none
def aV (Sm:oS):Hints:=fun base r σ=>match Sm base r σ with
 | some s=>some s.lh
 | none=>none
def abH:Code→Code→List Code
 | .label _,y=>[y]
 | _,_=>[]
def aL:Code→List Code
 | .seq x y=>abH x y++(aL x++aL y)
 | .scope x=>aL x
 | .cond _ x y=>aL x++aL y
 | .block _ x=>aL x
 | .loop x=>x::aL x
 | .rangeFunc _ _ x y=>aL x++aL y
 | _=>[]
def St.KQ (σ:St)(d:Nat)(v:AV):St:=⟨σ.nt,aP σ.tmps d v,σ.heap,σ.ids⟩
section
variable {R:Type}
def nZ (σ:St)(H:Heap)(L:List Nat)(dst:Option Tmp)(v:AV)(k:St→Option R):Option R:=
 match dst with
 | none=>k ⟨σ.nt,σ.tmps,H,L⟩
 | some d=>cond (ol d σ.nt) (k ⟨σ.nt,aP σ.tmps d v,H,L⟩) none
def oK (σ:St)(id:Nat)(dst:Option Tmp)(e:Ix)(k:St→List Nat→Option R):Option R:=
 cond (e.new && !(bn σ.heap e.sets&&eY id e.sets)) none (nZ σ (bc σ.heap e.sets) σ.ids dst e.v fun σ'=>k σ' (cond e.new (e.sets.map (·.1)) []))
def jw (σ:St)(x:Operand)(k:St→Bool→Option R)(skip:Option R):Option R:=
 match σ.val x with
 | .lit (.bool c)=>match x with
  | .tmp d=>cond c (k (σ.KQ d (.lit (.bool true))) true) (k (σ.KQ d (.lit (.bool false))) false)
  | _=>cond c (k σ true) (k σ false)
 | .lit (.tuple _)=>skip
 | _=>none
abbrev fO (R:Type):=Nat→Callee→List AV→Heap→List Nat→(AV→Heap→List Nat→Option R)→Option R
def uF (u:b5)(Hh:Heap)(i g:Nat)(part:Option Nat)(rest:List AV)(k:aS→AV→Option R):Option R:=
 match Hh i with
 | some (.row te e g' xs)=>match gx (e:=e) (e':=u.e) (match part with
   | none=>xs
   | some b=>xs.take b) with
  | some zs=>match cy (cond u.e.flat (fun q=>cond (al q i) none (Hh q)) (fun _=>none)) u.ps rest with
   | some x=>(u.f zs x).bind fun ys=>cond (al g g'&&al te u.te&&u.e.notNil) (match u.keep with
      | true=>cond (al (dj ys) (dj zs)&&part.isNone) (k (.row te u.e g ys) (.lit (.tuple #[]))) none
      | false=>k (.row te u.e (g+1) ys) (.sl i (g+1))) none
   | none=>none
  | none=>none
 | _=>none
def XE (u:b5)(Hh:Heap)(i:Nat)(zs:List Int)(k:aS→AV→Option R):Option R:=
 match u with
 | ⟨te,.nil,[.row (.int .u8)],true,f⟩=>match Hh i with
  | some (.aO t ti q xs (.iI m))=>(f [] (zs,())).bind fun _=>cond (al te ti) (cond (decide (m<xs.length)) (k (.aO t ti q (xs.set m ((rd cM xs m).1,(zs,(rd cM xs m).2.2))) (.late m)) (.cH i q m 0 zs.length)) none) none
  | _=>none
 | _=>none
theorem Tf (u:b5)(Hh:Heap)(i:Nat)(zs:List Int)(k:aS→AV→Option R):XE u Hh i zs k=match oH u Hh i zs with
  | some (o,v)=>k o v
  | none=>none:=by
 unfold XE oH
 split
 ·rename_i u' te f
  dsimp only
  cases Hh i with
  | none=>rfl
  | some o=>
   cases o with
   | aO t ti q xs st=>
    cases st with
    | iI m=>
     dsimp only
     cases f [] (zs,()) with
     | none=>rfl
     | some r=>
      simp only[ap]
      cases al te ti with
      | false=>rfl
      | true=>
       simp only[cond_true]
       cases decide (m<xs.length)<;>rfl
    | _=>rfl
   | _=>rfl
 ·rename_i u' hn
  split
  ·rename_i h
   split at h
   ·exact absurd rfl (hn _ _)
   ·cases h
  ·rfl
def KK (u:b5)(Hh:Heap)(as:List AV)(k:Nat→aS→AV→Option R):Option R:=
 match as with
 | [.Ks i zs]=>XE u Hh i zs (k i)
 | .sl i g::rest=>uF u Hh i g none rest (k i)
 | .sub i g a b::rest=>cond (al a 0) (uF u Hh i g (some b) rest (k i)) none
 | _=>none
theorem xP (u:b5)(Hh:Heap)(i g:Nat)(part:Option Nat)(rest:List AV)(k:aS→AV→Option R):uF u Hh i g part rest k=match jd u Hh i g part rest with
  | some (o,v)=>k o v
  | none=>none:=by
 unfold uF jd
 generalize cy (cond u.e.flat (fun q=>cond (al q i) none (Hh q)) (fun _=>none)) u.ps rest=d
 cases Hh i with
 | none=>rfl
 | some o=>
  cases o with
  | row te e g' xs=>
   simp only
   generalize gx (e:=e) (e':=u.e) (match part with
    | none=>xs
    | some b=>xs.take b)=q
   cases q with
   | none=>rfl
   | some zs=>
    cases d with
    | none=>rfl
    | some x=>
     simp only
     cases u.f zs x with
     | none=>rfl
     | some ys=>
      simp only[ap]
      cases (al g g'&&al te u.te&&u.e.notNil) with
      | false=>rfl
      | true=>
       simp only[cond_true]
       cases u.keep with
       | true=>simp only;cases (al (dj ys) (dj zs)&&part.isNone)<;>rfl
       | false=>rfl
  | _=>rfl
theorem SS (u:b5)(Hh:Heap)(as:List AV)(k:Nat→aS→AV→Option R):KK u Hh as k=match jm u Hh as with
  | some (i,o,v)=>k i o v
  | none=>none:=by
 cases as with
 | nil=>rfl
 | cons x rest=>
  cases x with
  | Ks i zs=>
   cases rest with
   | nil=>
    simp only[KK,jm]
    rw[Tf]
    cases oH u Hh i zs<;>rfl
   | cons _ _=>rfl
  | sl i g=>
   simp only[KK,jm]
   rw[xP]
   cases jd u Hh i g none rest<;>rfl
  | sub i g a b=>
   simp only[KK,jm]
   rw[xP]
   cases al a 0 with
   | false=>rfl
   | true=>simp only[cond_true];cases jd u Hh i g (some b) rest<;>rfl
  | _=>rfl
def Jd (kp:AV→Heap→List Nat→Option R)(k:AV→Heap→List Nat→Option R):AV→Heap→List Nat→Option R
 | .fE x=>fun H L=>kp x H L
 | v=>fun H L=>k v H L
def Qr (P:Program)(t:TypeId)(a b:AV):Option (Nat×Nat×Nat×Nat×Int):=
 match a,b with
 | .ptr j off,.lit (.int _ i)=>match P.underlying t with
  | some (.array n el)=>match P.info? el with
   | some inf=>some (j,off,n,inf.size,i)
   | none=>none
  | _=>none
 | _,_=>none
def yT (i:Int):Nat→Nat→(Nat→Option R)→Option R
 | _,0,_=>none
 | m,n+1,K=>cond (decide (i=(m:Int))) (K m) (yT i (m+1) n K)
theorem px {i:Int}{r:R}:∀ (n m:Nat) (K:Nat→Option R),yT i m n K=some r→∃ q,q<m+n∧i=(q:Int)∧K q=some r
 | 0,m,K,h=>by simp[yT] at h
 | n+1,m,K,h=>by
  simp only[yT] at h
  by_cases hi:i=(m:Int)
  ·rw[decide_eq_true hi] at h
   exact⟨m,by omega,hi,h⟩
  ·rw[decide_eq_false hi] at h
   obtain⟨q,h1,h2⟩:=px n (m+1) K h
   exact⟨q,by omega,h2⟩
def OU (P:Program)(C:Cons)(G:fO R)(Hh:Heap)(id:Nat)(o:Oper)(σ:St)(kp:AV→Heap→List Nat→Option R)(k:St→List Nat→Option R):Option R:=
 cond (mO C id o) (match mX P id o σ.val with
  | some (c,v)=>cond c (nZ σ σ.heap σ.ids o.dst v fun σ'=>k σ' []) none
  | none=>none) (match sem P Hh id o σ.val with
  | some (.val c v)=>cond c (nZ σ σ.heap σ.ids o.dst v fun σ'=>k σ' []) none
  | some (.new c i ob v)=>cond c (oK σ id o.dst ⟨[(i,ob)],true,v⟩ k) none
  | some (.wr c i ob v)=>cond c (oK σ id o.dst ⟨[(i,ob)],false,v⟩ k) none
  | some (.RB c i ob v u)=>cond c (oK σ id o.dst ⟨[(i,ob)],false,v⟩ k) (oK σ id o.dst ⟨[],false,u⟩ k)
  | some (.call kk as)=>match iH C o kk with
   | some u=>KK u Hh as fun i ob v=>oK σ id o.dst ⟨[(i,ob)],false,v⟩ k
   | none=>match sS C kk with
   | some pg=>match CU P o,cy (iA pg Hh) pg.ps as with
    | true,some x=>(pg.f x).bind fun y=>oK σ id o.dst ⟨iG pg.rs y id,true,gw (p7 pg.rs y id)⟩ k
    | _,_=>none
   | none=>G id kk as σ.heap σ.ids (Jd kp fun v H' L'=>nZ σ H' L' o.dst v fun σ'=>k σ' [])
  | none=>none)
def NJ (P:Program)(C:Cons)(G:fO R)(Hh:Heap)(id:Nat)(o:Oper)(σ:St)(kp:AV→Heap→List Nat→Option R)(k:St→List Nat→Option R):Option R:=
 match o.op with
 | .panic x=>match σ.val x with
  | .AJ t v=>kp (.AJ t v) σ.heap σ.ids
  | _=>none
 | .pick c a b=>jw σ c (fun σ t=>nZ σ σ.heap σ.ids o.dst (cond t (σ.val a) (σ.val b)) fun σ'=>k σ' []) none
 | .indexAddr t x y=>match Qr P t (σ.val x) (σ.val y) with
  | some (j,off,n,sz,i)=>yT i 0 n fun m=>nZ σ σ.heap σ.ids o.dst (.ptr j (off+m * sz)) fun σ'=>k σ' []
  | none=>OU P C G Hh id o σ kp k
 | _=>OU P C G Hh id o σ kp k
def UL (P:Program)(C:Cons)(G:fO R)(ops:Array Oper)(hide:Heap→Heap)(id i:Nat)(σ:St)(kp:AV→Heap→List Nat→Option R)(k:St→List Nat→Option R):Option R:=
 match ops[i]? with
 | none=>k σ []
 | some o=>match o.guard with
  | none=>NJ P C G (hide σ.heap) id o σ kp k
  | some (j,b)=>match ops[j]? with
   | some g=>match g.dst with
    | some d=>jw σ (.tmp d) (fun σ c=>cond (c == b) (NJ P C G (hide σ.heap) id o σ kp k) (nZ σ σ.heap σ.ids o.dst (.lit undef) fun σ'=>k σ' [])) (nZ σ σ.heap σ.ids o.dst (.lit undef) fun σ'=>k σ' [])
    | none=>nZ σ σ.heap σ.ids o.dst (.lit undef) fun σ'=>k σ' []
   | none=>nZ σ σ.heap σ.ids o.dst (.lit undef) fun σ'=>k σ' []
def Sb (P:Program)(C:Cons)(G:fO R)(ops:Array Oper)(base:Nat):List Nat→St→(Ex→St→Option R)→Option R
 | [],σ,k=>k .dS σ
 | i::l,σ,k=>UL P C G ops (fun H=>H) (base+i * 16) i σ (fun x H' L'=>k (.fE x) ⟨σ.nt,σ.tmps,H',L'⟩) fun σ' L=>Sb P C G ops base l (σ'.ay L) k
def Vm (P:Program)(C:Cons)(ops:Array Oper)(m:List Nat)(W:List (Option Nat))(base:Nat):List Nat→List Nat→St→(St→Option R)→Option R
 | [],L,σ,k=>k (σ.ay L)
 | i::l,L,σ,k=>cond (lK P C ops m W i σ) (UL P C (fun _ _ _ _ _ _=>none) ops (b6 base ops.size (m.getD i 0) (pS m W ops.size i)) (base+i * 16) i σ (fun _ _ _=>none) fun σ' L'=>Vm P C ops m W base l (L++L') σ' k) none
def OZ (P:Program)(C:Cons)(ops:Array Oper)(base:Nat)(σ:St)(k:St→Option R):Option R:=
 cond (bO P C ops (aB ops)) (Vm P C ops (aB ops) (pp P C ops (aB ops) base σ) base (da ops.size) [] σ k) none
def VA (ops:Array Oper):Nat→Nat→Nat→Option Nat
 | 0,_,_=>none
 | n+1,b,t=>match uT t b ops.toList 0 with
  | some (y,o)=>match o.op with
   | .move (.tmp t')=>VA ops n y t'
   | _=>none
  | none=>some t
def VG (P:Program)(ops:Array Oper):List Oper→Nat→Option (Nat×Nat)
 | [],_=>none
 | o::l,b=>match (match o.op with
  | .indexAddr t _ (.tmp d)=>match P.underlying t with
   | some (.array n _)=>match VA ops 9 b d with
    | some d'=>some (d',n)
    | none=>none
   | _=>none
  | _=>none) with
  | some r=>some r
  | none=>VG P ops l (b+1)
def Kb (P:Program)(C:Cons)(G:fO R)(ops:Array Oper)(base z:Nat)(σ:St)(k:Ex→St→Option R):Option R:=
 UL P C G ops (fun H=>H) (base+z * 16) z σ (fun x H' L'=>k (.fE x) ⟨σ.nt,σ.tmps,H',L'⟩) fun σ' L=>k .dS (σ'.ay L)
def Ia (P:Program)(C:Cons)(G:fO R)(ops:Array Oper)(base:Nat)(σ:St)(k:Ex→St→Option R):Option R:=
 match wL C ops (aB ops) with
 | none=>OZ P C ops base σ (k .dS)
 | some z=>cond (bO P C ops (aB ops)) (Vm P C ops (aB ops) (pp P C ops (aB ops) base σ) base (da z) [] σ fun σ'=>Kb P C G ops base z σ' k) none
def Xc (P:Program)(C:Cons)(ops:Array Oper)(m:List Nat)(W:List (Option Nat))(base z:Nat):List Nat→List Nat→St→(St→Option R)→Option R
 | [],L,σ,k=>k (σ.ay L)
 | i::l,L,σ,k=>cond (lK P C ops m W i σ) (UL P C (fun _ _ _ _ _ _=>none) ops (b6 base ops.size (m.getD i 0) (pS m W ops.size i)) (base+i * 16) i σ (fun _ _ _=>none) fun σ' L'=>
  cond (sJ m z i) (cond (uM ops i σ σ') (Xc P C ops m W base z l L σ k) none) (Xc P C ops m W base z l (L++L') σ' k)) none
def XC (P:Program)(C:Cons)(G:fO R)(ops:Array Oper)(base z:Nat)(σ:St)(k:Ex→St→Option R):Option R:=
 cond (bO P C ops (aB ops)) (Vm P C ops (aB ops) (pp P C ops (aB ops) base σ) base (eu (aB ops) z ops.size) [] σ fun σ1=>
  UL P C G ops (fun H=>H) (base+z * 16) z σ1 (fun x H' L'=>k (.fE x) ⟨σ1.nt,yK ops (aB ops) z σ1,H',L'⟩) fun σ2 L=>
   Xc P C ops (aB ops) (pp P C ops (aB ops) base σ) base z (yy (aB ops) z ops.size) [] (σ2.ay L) (k .dS)) none
def Qc (P:Program)(C:Cons)(G:fO R)(ops:Array Oper)(base z z2:Nat)(σ:St)(k:Ex→St→Option R):Option R:=
 cond (bO P C ops (aB ops)) (Vm P C ops (aB ops) (pp P C ops (aB ops) base σ) base (eu (aB ops) z ops.size) [] σ fun σ1=>
  UL P C G ops (fun H=>H) (base+z * 16) z σ1 (fun x H' L'=>k (.fE x) ⟨σ1.nt,yK ops (aB ops) z σ1,H',L'⟩) fun σ2 L=>
   Xc P C ops (aB ops) (pp P C ops (aB ops) base σ) base z (mc (aB ops) z ops.size z2) [] (σ2.ay L) fun σ3=>Kb P C G ops base z2 σ3 k) none
def Bi (P:Program)(C:Cons)(G:fO R)(ops:Array Oper)(base:Nat)(σ:St)(k:Ex→St→Option R):Option R:=
 match QL C ops (aB ops) with
 | some (z,z2)=>Qc P C G ops base z z2 σ k
 | none=>match NQ C ops (aB ops) with
  | some z=>XC P C G ops base z σ k
  | none=>Ia P C G ops base σ k
def wP (P:Program)(C:Cons)(G:fO R)(ops:Array Oper)(base:Nat)(σ:St)(k:Ex→St→Option R):Option R:=
 match Jr P ops σ ops.toList 0 with
 | some j=>Bi P C G ops base σ fun e σ'=>k e (σ.align j σ')
 | none=>Bi P C G ops base σ k
def N7 (P:Program)(C:Cons)(G:fO R)(ops:Array Oper)(base:Nat)(σ:St)(k:Ex→St→Option R):Option R:=
 match VG P ops ops.toList 0 with
 | some (d,n)=>match σ.tmps d with
  | .lit (.int kk i)=>yT i 0 n fun m=>wP P C G ops base (σ.KQ d (.lit (.int kk (m:Int)))) k
  | _=>wP P C G ops base σ k
 | none=>wP P C G ops base σ k
def DA:Nat→(St→(Ex→St→Option R)→Option R)→St→(Ex→St→Option R)→Option R
 | 0,_,_,_=>none
 | n+1,f,σ,k=>f σ fun e σ'=>match e with
  | .dS=>DA n f σ' k
  | .fE _=>none
  | e=>k e σ'
def B0 (σ:St)(i:Nat)(H:Heap)(L:List Nat)(k:Ex→St→Option R):Option R:=
 match H i with
 | some (.loop kk r .ready ts)=>k .dS ⟨σ.nt,σ.tmps,aP H i (some (.loop kk r .over ts)),L⟩
 | some (.loop kk r (.done j) ts)=>k j.ex ⟨σ.nt,σ.tmps,aP H i (some (.loop kk r .over ts)),L⟩
 | _=>none
def HU (P:Program)(G:fO R)(base:Nat)(rf:Option Nat)(g:Operand)(body:Code)(σ:St)(k:Ex→St→Option R):Option R:=
 match rf,σ.val g,bK body with
 | some fid,.fn (.func kk) first caps,some r=>match dB P fid r with
  | some x=>match Rw σ base fid r x with
   | some (σ1,i)=>cond (jv P kk) (G (i+1) (.fn kk) (first++[.iK i]++caps) σ1.heap σ1.ids (Jd (fun _ _ _=>none) fun _ H L=>B0 σ i H L k)) none
   | none=>none
  | none=>none
 | _,_,_=>none
def I4 (i k r:Nat)(e:Ex)(σ:St)(K:AV→Heap→List Nat→Option R):Option R:=
 match xa i k r e σ with
 | some (v,H,L)=>K v H L
 | none=>none
def yH (l:Nat)(k:Ex→St→Option R):Ex→St→Option R:=fun e σ=>match e with
 | .dS=>k (.exit Bw) σ
 | .goto i=>cond (al i l) (k .dS σ) none
 | .exit i=>cond (al i Bw) none (k (.exit i) σ)
 | .ret=>k .ret σ
 | .fE _=>none
def u5 (k:Ex→St→Option R):Ex→St→Option R:=fun e σ=>match e with
 | .exit i=>cond (al i Bw) (k .dS σ) (k (.exit i) σ)
 | .ret=>k .ret σ
 | _=>none
def cD (P:Program)(C:Cons)(Sm:oS)(G:fO R)(n fid lf base:Nat)(od:List Nat)(rf:Option Nat):Bool→Code→St→(Ex→St→Option R)→Option R
 | _,.skip,σ,k=>k .dS σ
 | _,.region id ops draw,σ,k=>
  cond draw (N7 P C G ops (oe base id) σ k) (Sb P C G ops (oe base id) (da ops.size) σ k)
 | false,.seq x y,σ,k=>cD P C Sm G n fid lf base od rf false x σ fun e σ'=>match e with
  | .dS=>cD P C Sm G n fid lf base od rf false y σ' k
  | e=>k e σ'
 | true,.seq x y,σ,k=>match qB x with
  | some l=>match sumOf Sm base y σ with
   | some s=>cond (s.fits n fid od rf (some l)) (match s.shape.read σ with
    | some z=>(iter lf s.step z).bind fun r=>match r with
     | .inl y=>u5 k (.exit s.OE) (s.out.FB y)
     | .inr y=>k .ret (s.ret.FB y)
    | none=>none) none
   | none=>DA lf (fun σ k'=>cD P C Sm G n fid lf base od rf false y σ (yH l k')) σ (u5 k)
  | none=>cD P C Sm G n fid lf base od rf false x σ fun e σ'=>match e with
   | .dS=>cD P C Sm G n fid lf base od rf true y σ' k
   | .goto _=>none
   | e=>k e σ'
 | _,.cond c x y,σ,k=>jw σ c (fun σ' b=>cond b (cD P C Sm G n fid lf base od rf false x σ' k) (cD P C Sm G n fid lf base od rf false y σ' k)) none
 | _,.block id x,σ,k=>cD P C Sm G n fid lf base od rf false x σ fun e σ'=>match e with
  | .exit i=>cond (al i id) (k .dS σ') (k (.exit i) σ')
  | e=>k e σ'
 | _,.loop x,σ,k=>match sumOf Sm base x σ with
  | some s=>cond (s.fits n fid od rf none) (match s.shape.read (σ.fD s.fD) with
   | some z=>(iter lf s.step z).bind fun r=>match r with
    | .inl y=>k (.exit s.OE) (s.out.FB y)
    | .inr y=>k .ret (s.ret.FB y)
   | none=>none) none
  | none=>DA lf (cD P C Sm G n fid lf base od rf false x) σ k
 | _,.exit id,σ,k=>k (.exit id) σ
 | _,.label _,σ,k=>k .dS σ
 | _,.ret,σ,k=>k .ret σ
 | _,.rangeFunc g _ _ body,σ,k=>HU P G base rf g body σ k
 | _,.scope x,σ,k=>cond (iY x) (cD P C Sm G n fid lf base od rf true x σ fun e σ'=>match e with
   | .goto _=>none
   | e=>k e σ') none
 | _,.goto l,σ,k=>k (.goto l) σ
 | _,_,_,_=>none
def Da (P:Program)(rs:List ResultVar)(σ:St)(k:AV→Heap→List Nat→Option R):Option R:=
 match eU P σ rs with
 | some vs=>k (gw vs) σ.heap σ.ids
 | none=>none
end
def X6 (i k r:Nat){R:Type}(asn body:St→(Ex→St→Option R)→Option R)(σ:St)(K:AV→Heap→List Nat→Option R):Option R:=
 asn σ fun e σ1=>match e with
  | .dS=>match qu i k r σ1 with
   | some σ2=>body σ2 fun e σ3=>I4 i k r e σ3 K
   | none=>none
  | _=>none
def qC (P:Program)(C:Cons)(Sm:oS)(lf:Nat){R:Type}:Nat→fO R
 | 0=>fun _ _ _ _ _ _=>none
 | n+1=>fun base c as H L K=>match c with
  | .fn k=>match P.funcs[k]? with
   | some fn=>match fn.body with
    | some c=>cond (dq as.length fn.ntmps) (cD P C Sm (qC P C Sm lf n) n k lf (Nat.succ base * 4294967296) L (some k) false c ⟨fn.ntmps,fy as,H,L⟩ fun e σ=>match e with
     | .dS=>Da P fn.results.toList σ K
     | .ret=>Da P fn.results.toList σ K
     | .fE v=>K (.fE v) σ.heap σ.ids
     | _=>none) none
    | none=>none
   | none=>none
  | .iK i=>match vU P i as H L with
   | some (k,r,x,σ)=>X6 i k r (cD P C Sm (qC P C Sm lf n) n k lf (Nat.succ base * 4294967296) L none false x.2.1) (cD P C Sm (qC P C Sm lf n) n k lf (Nat.succ base * 4294967296) L none false x.2.2) σ K
   | none=>none
def Ud (P:Program)(C:Cons)(Sm:oS)(lf n k:Nat)(ps:List Ty)(rs:List eG)(x:dQ ps):Option (zu rs):=
 qC P C Sm lf n 0 (.fn k) (cJ ps x) (fun _=>none) [] fun v H L=>iC rs (some (v,H,L))
def aK.jg (s:aK):Ex→St→Option (R3 s.shape.X s.out.X s.ret.X)
 | .dS,σ=>match s.shape.read σ with
  | some x=>some (.next x)
  | none=>none
 | .exit i,σ=>cond (al i s.OE) (match s.out.read σ with
  | some y=>some (.out y)
  | none=>none) none
 | .ret,σ=>match s.ret.read σ with
  | some y=>some (.ret y)
  | none=>none
 | _,_=>none
def aK.Ay (s:aK):Ex→St→Option (R3 s.shape.X s.out.X s.ret.X):=
 match s.lab with
 | none=>s.jg
 | some l=>yH l s.jg
def ic (P:Program)(C:Cons)(Sm:oS)(lf:Nat):Prop:=
 ∀ base r σ s,Sm base r σ=some s→∀ fn c x,P.funcs[s.k]? = some fn→fn.body=some c→x∈aL c→bK x=some r →
  ∀ z,Le (s.step z) (cD P C Sm (qC P C Sm lf s.n) s.n s.k lf base s.od s.rf false x (s.shape.FB z) s.Ay)
theorem Pu {α:Type}(f:Nat→α)(i:Nat)(v:α)(h:f i=v):aP f i v=f:=by
 funext n
 by_cases e:n=i
 ·subst e;rw[au,h]
 ·rw[ax _ _ e]
theorem si {σ:St}{d:Nat}{v:AV}(h:σ.tmps d=v):σ.KQ d v=σ:=by
 unfold St.KQ;rw[Pu _ _ _ h]
section
variable {R:Type}{P:Program}{C:Cons}
theorem lu (σ:St)(H:Heap)(L:List Nat)(dst:Option Tmp)(v:AV)(k:St→Option R):nZ σ H L dst v k=((⟨σ.nt,σ.tmps,H,L⟩:St).put dst v).bind k:=by
 cases dst with
 | none=>rfl
 | some d=>
  simp only[nZ,St.put]
  cases ol d σ.nt<;>rfl
theorem Bm (σ:St)(id:Nat)(dst:Option Tmp)(e:Ix)(k:St→List Nat→Option R) :
  oK σ id dst e k=(σ.ED id dst e).bind fun σ'=>k σ' (cond e.new (e.sets.map (·.1)) []):=by
 unfold oK St.ED
 cases (e.new && !(bn σ.heap e.sets&&eY id e.sets)) with
 | true=>rfl
 | false=>simp only[cond_false];exact lu _ _ _ _ _ _
theorem oU {σ:St}{x:Operand}{c:Bool}(h:σ.val x = .lit (.bool c))(k:St→Bool→Option R)(skip:Option R):jw σ x k skip=k σ c:=by
 unfold jw
 rw[h]
 cases x with
 | tmp d=>
  have hd:σ.tmps d = .lit (.bool c):=by
   simp only[St.val] at h
   cases hl:ol d σ.nt with
   | true=>rw[hl] at h;exact h
   | false=>rw[hl] at h;simp at h
  cases c
  ·simp only[cond_false];rw[si hd]
  ·simp only[cond_true];rw[si hd]
 | const v=>cases c<;>rfl
 | global g=>cases c<;>rfl
 | func f=>cases c<;>rfl
def iP (F:jy)(G:fO R):Prop:=∀ base k as H L (K:AV→Heap→List Nat→Option R),Le (G base k as H L K) ((F base k as H L).bind fun p=>K p.1 p.2.1 p.2.2)
def eN (P:Program)(C:Cons)(F:jy)(Hh:Heap)(id:Nat)(o:Oper)(σ:St):Option (Sum (AV×Heap×List Nat) (St×List Nat)):=
 match bF P C Hh id o σ.val with
 | some e=>(σ.ED id o.dst e).map fun σ'=>.inr (σ',cond e.new (e.sets.map (·.1)) [])
 | none=>match eM P C F Hh id o σ.val σ.heap σ.ids with
  | some (.fE x,H',L')=>some (.inl (x,H',L'))
  | some (v,H',L')=>((⟨σ.nt,σ.tmps,H',L'⟩:St).put o.dst v).map fun σ'=>.inr (σ',[])
  | none=>none
def Gv (P:Program)(C:Cons)(F:jy)(Hh:Heap)(id:Nat)(o:Oper)(σ:St):Option (Sum (AV×Heap×List Nat) (St×List Nat)):=
 match o.op with
 | .panic x=>match σ.val x with
  | .AJ t v=>some (.inl (.AJ t v,σ.heap,σ.ids))
  | _=>none
 | _=>eN P C F Hh id o σ
def lX (kp:AV→Heap→List Nat→Option R)(k:St→List Nat→Option R):Sum (AV×Heap×List Nat) (St×List Nat)→Option R
 | .inl p=>kp p.1 p.2.1 p.2.2
 | .inr p=>k p.1 p.2
theorem gM {α β γ δ:Type}(a:Option α)(f:α→β)(k:α→β→Option γ)(J:Sum δ (α×β)→Option γ)(hJ:∀ p,J (.inr p)=k p.1 p.2):((a.map fun x=>.inr (x,f x)).bind J)=a.bind fun x=>k x (f x):=by
 cases a with
 | none=>rfl
 | some x=>exact hJ _
theorem Jb {F:jy}{G:fO R}(hG:iP F G)(Hh:Heap)(id:Nat)(o:Oper)(σ:St)(kp:AV→Heap→List Nat→Option R)(k:St→List Nat→Option R) :
  Le (OU P C G Hh id o σ kp k) ((eN P C F Hh id o σ).bind (lX kp k)):=by
 have effE:∀ e,bF P C Hh id o σ.val=some e→Le (oK σ id o.dst e k) ((eN P C F Hh id o σ).bind (lX kp k)):=by
  intro e he
  unfold eN
  rw[he]
  refine Le.of_eq ?_
  rw[Bm]
  exact (gM (σ.ED id o.dst e) (fun _=>cond e.new (e.sets.map (·.1)) []) k (lX kp k) fun _=>rfl).symm
 cases hz:mO C id o with
 | true=>
  unfold OU
  rw[hz]
  simp only[cond_true]
  cases hv:mX P id o σ.val with
  | none=>exact Le.none _
  | some p=>
   obtain⟨c,v⟩:=p
   cases c with
   | false=>exact Le.none _
   | true=>
    have he:bF P C Hh id o σ.val=some ⟨[],false,v⟩:=by unfold bF;rw[hz,hv];rfl
    exact (Le.of_eq (by rw[Bm];exact lu σ σ.heap σ.ids o.dst v fun σ'=>k σ' [])).trans (effE _ he)
 | false=>
 have e0:bF P C Hh id o σ.val=bI P C Hh id o σ.val:=by unfold bF;rw[hz];rfl
 rw[e0] at effE
 have gen:∀ (s:Option Out),sem P Hh id o σ.val=s→Le (match s with
   | some (.val c v)=>cond c (nZ σ σ.heap σ.ids o.dst v fun σ'=>k σ' []) none
   | some (.new c i ob v)=>cond c (oK σ id o.dst ⟨[(i,ob)],true,v⟩ k) none
   | some (.wr c i ob v)=>cond c (oK σ id o.dst ⟨[(i,ob)],false,v⟩ k) none
   | some (.RB c i ob v u)=>cond c (oK σ id o.dst ⟨[(i,ob)],false,v⟩ k) (oK σ id o.dst ⟨[],false,u⟩ k)
   | some (.call kk as)=>match iH C o kk with
    | some u=>KK u Hh as fun i ob v=>oK σ id o.dst ⟨[(i,ob)],false,v⟩ k
    | none=>match sS C kk with
    | some pg=>match CU P o,cy (iA pg Hh) pg.ps as with
     | true,some x=>(pg.f x).bind fun y=>oK σ id o.dst ⟨iG pg.rs y id,true,gw (p7 pg.rs y id)⟩ k
     | _,_=>none
    | none=>G id kk as σ.heap σ.ids (Jd kp fun v H' L'=>nZ σ H' L' o.dst v fun σ'=>k σ' [])
   | none=>none) ((eN P C F Hh id o σ).bind (lX kp k)):=by
  intro s hs
  cases s with
  | none=>exact Le.none _
  | some out=>
   cases out with
   | val c v=>
    cases c with
    | true=>
     have he:bI P C Hh id o σ.val=some ⟨[],false,v⟩:=by unfold bI;rw[hs];rfl
     exact (Le.of_eq (by rw[Bm];exact lu σ σ.heap σ.ids o.dst v fun σ'=>k σ' [])).trans (effE _ he)
    | false=>exact Le.none _
   | new c i ob v=>
    cases c with
    | true=>
     have he:bI P C Hh id o σ.val=some ⟨[(i,ob)],true,v⟩:=by unfold bI;rw[hs];rfl
     exact effE _ he
    | false=>exact Le.none _
   | RB c i ob v u=>
    cases c with
    | true=>
     have he:bI P C Hh id o σ.val=some ⟨[(i,ob)],false,v⟩:=by unfold bI;rw[hs];rfl
     exact effE _ he
    | false=>
     have he:bI P C Hh id o σ.val=some ⟨[],false,u⟩:=by unfold bI;rw[hs];rfl
     exact effE _ he
   | wr c i ob v=>
    cases c with
    | true=>
     have he:bI P C Hh id o σ.val=some ⟨[(i,ob)],false,v⟩:=by unfold bI;rw[hs];rfl
     exact effE _ he
    | false=>exact Le.none _
   | call kk as=>
    cases hu:iH C o kk with
    | some u=>
     simp only[hu]
     rw[SS]
     cases ho:jm u Hh as with
     | none=>exact Le.none _
     | some q=>
      obtain⟨i,ob,v⟩:=q
      simp only
      have he:bI P C Hh id o σ.val=some ⟨[(i,ob)],false,v⟩:=by unfold bI;rw[hs];simp only[hu,ho]
      exact effE _ he
    | none=>
    simp only[hu]
    cases hc:sS C kk with
    | none=>
     have he:bI P C Hh id o σ.val=none:=by unfold bI;rw[hs];simp only[hu,hc];split<;>simp_all
     have hi:eM P C F Hh id o σ.val σ.heap σ.ids=F id kk as σ.heap σ.ids:=by unfold eM;rw[hs];simp only[hc]
     unfold eN
     rw[e0,he,hi]
     simp only[hc]
     refine (hG _ _ _ _ _ _).trans (Le.of_eq ?_)
     cases F id kk as σ.heap σ.ids with
     | none=>rfl
     | some p=>
      obtain⟨v,H',L'⟩:=p
      cases v with
      | fE x=>rfl
      | _=>
       simp only[ap,Jd,lu]
       exact (gM _ (fun _=>[]) k (lX kp k) fun _=>rfl).symm
    | some pg=>
     have he:bI P C Hh id o σ.val=match CU P o with
      | true=>vl pg Hh id as
      | false=>none:=by unfold bI;rw[hs];simp only[hu,hc];cases CU P o<;>rfl
     simp only[hc]
     cases hr:CU P o with
     | false=>exact Le.none _
     | true=>
      rw[hr] at he
      cases hd:cy (iA pg Hh) pg.ps as with
      | none=>exact Le.none _
      | some x=>
       cases hf:pg.f x with
       | none=>simp only[hf];exact Le.none _
       | some y=>
        simp only[vl,hd,hf] at he
        simp only[hf]
        exact effE _ he
 unfold OU
 rw[hz]
 exact gen _ rfl
theorem SL {F:jy}{G:fO R}(hG:iP F G)(Hh:Heap)(id:Nat)(o:Oper)(σ:St)(kp:AV→Heap→List Nat→Option R)(k:St→List Nat→Option R) :
  Le (NJ P C G Hh id o σ kp k) ((Gv P C F Hh id o σ).bind (lX kp k)):=by
 unfold NJ
 have other:(∀ x,o.op ≠ .panic x)→Gv P C F Hh id o σ=eN P C F Hh id o σ:=by
  intro h
  unfold Gv
  split
  ·rename_i y hop;exact absurd hop (h y)
  ·rfl
 split
 ·rename_i x hop
  unfold Gv
  simp only[hop]
  cases σ.val x with
  | AJ t v=>exact Le.refl _
  | _=>exact Le.none _
 ·rename_i c a b hop
  obtain⟨dst,op,ty,pos,af,gd⟩:=o
  simp only at hop
  subst hop
  have hX:Gv P C F Hh id ⟨dst,.pick c a b,ty,pos,af,gd⟩ σ=eN P C F Hh id ⟨dst,.pick c a b,ty,pos,af,gd⟩ σ:=rfl
  rw[hX]
  cases hv:σ.val c with
  | lit x=>
   cases x with
   | bool t=>
    rw[oU hv]
    have he:bF P C Hh id ⟨dst,.pick c a b,ty,pos,af,gd⟩ σ.val=some ⟨[],false,cond t (σ.val a) (σ.val b)⟩:=by
     simp only[bF,bI,mO,Bool.and_false,cond_false,sem,hv];rfl
    unfold eN
    rw[he]
    refine Le.of_eq ?_
    rw[lu]
    exact (gM _ (fun _=>[]) k (lX kp k) fun _=>rfl).symm
   | _=>simp only[jw,hv];exact Le.none _
  | _=>simp only[jw,hv];exact Le.none _
 ·rename_i t x y hop
  rw[other (by rw[hop];simp)]
  split
  ·rename_i j off n sz i hfk
   intro r hr
   obtain⟨q,h1,h2,h3⟩:=px n 0 _ hr
   unfold Qr at hfk
   split at hfk
   case h_2=>simp at hfk
   rename_i j' off' kk i' hx hy
   split at hfk
   case h_2=>simp at hfk
   rename_i n' el ht
   split at hfk
   case h_2=>simp at hfk
   rename_i inf hinf
   cases hfk
   have hq:(decide (0≤i)&&decide (i<(n:Int)))=true:=by
    rw[h2];simp;omega
   have ht2:i.toNat=q:=by rw[h2];simp
   have hs:sem P Hh id o σ.val=some (.val true (.ptr j (off+q * inf.size))):=by
    unfold sem
    rw[hop]
    simp only[hx,hy,Eu,ht,hinf,hq,ht2]
   have hz:mO C id o=false:=by unfold mO;rw[hop];simp
   have he:bF P C Hh id o σ.val=some ⟨[],false,.ptr j (off+q * inf.size)⟩:=by unfold bF bI;rw[hz,hs];rfl
   unfold eN
   rw[he]
   rw[lu] at h3
   exact (gM _ (fun _=>[]) k (lX kp k) fun _=>rfl).trans h3
  ·exact Jb hG Hh id o σ kp k
 ·rename_i h1 h2 h3
  rw[other fun y hy=>h1 y hy]
  exact Jb hG Hh id o σ kp k
def J8 (P:Program)(C:Cons)(F:jy)(ops:Array Oper)(hide:Heap→Heap)(id i:Nat)(σ:St)(kp:AV→Heap→List Nat→Option R)(k:St→List Nat→Option R):Option R:=
 match fC P C F ops hide id i σ with
 | some (x,H',L')=>kp x H' L'
 | none=>(gq P C F ops hide id i σ).bind fun σ'=>k σ' (eB P C ops (hide σ.heap) id i σ)
theorem Tp {F:jy}{ops:Array Oper}{hide:Heap→Heap}{id i:Nat}{o:Oper}{σ:St}(ho:ops[i]? = some o)(hw:want ops σ o=some true)(kp:AV→Heap→List Nat→Option R)(k:St→List Nat→Option R) :
  (Gv P C F (hide σ.heap) id o σ).bind (lX kp k)=J8 P C F ops hide id i σ kp k:=by
 unfold J8 fC gq eB Gv
 simp only[ho,hw]
 cases hop:o.op with
 | panic x=>
  simp only
  cases hv:σ.val x with
  | AJ t v=>rfl
  | _=>
   have hs:sem P (hide σ.heap) id o σ.val=none:=by unfold sem;rw[hop]
   have hz:mO C id o=false:=by unfold mO;rw[hop];simp
   have h1:bF P C (hide σ.heap) id o σ.val=none:=by unfold bF bI;rw[hz,hs];rfl
   have h2:eM P C F (hide σ.heap) id o σ.val σ.heap σ.ids=none:=by unfold eM;rw[hs]
   simp only[h1,h2]
   rfl
 | _=>
  simp only[eN]
  cases he:bF P C (hide σ.heap) id o σ.val with
  | some e=>exact gM _ (fun _=>cond e.new (e.sets.map (·.1)) []) k (lX kp k) fun _=>rfl
  | none=>
   simp only
   cases hi:eM P C F (hide σ.heap) id o σ.val σ.heap σ.ids with
   | none=>rfl
   | some p=>
    obtain⟨v,H',L'⟩:=p
    cases v with
    | fE x=>rfl
    | _=>exact gM _ (fun _=>[]) k (lX kp k) fun _=>rfl
theorem XX {F:jy}{ops:Array Oper}{hide:Heap→Heap}{id i:Nat}{o:Oper}{σ:St}(ho:ops[i]? = some o)(hw:want ops σ o=some false)(kp:AV→Heap→List Nat→Option R)(k:St→List Nat→Option R) :
  (nZ σ σ.heap σ.ids o.dst (.lit undef) fun σ'=>k σ' [])=J8 P C F ops hide id i σ kp k:=by
 unfold J8 fC gq eB
 simp only[ho,hw]
 exact lu _ _ _ _ _ _
theorem su {F:jy}{G:fO R}(hG:iP F G)(ops:Array Oper)(hide:Heap→Heap)(id i:Nat)(σ:St)(kp:AV→Heap→List Nat→Option R)(k:St→List Nat→Option R) :
  Le (UL P C G ops hide id i σ kp k) (J8 P C F ops hide id i σ kp k):=by
 unfold UL
 cases ho:ops[i]? with
 | none=>unfold J8 fC gq eB;simp only[ho];exact Le.refl _
 | some o=>
  simp only
  have yes:want ops σ o=some true→Le (NJ P C G (hide σ.heap) id o σ kp k) (J8 P C F ops hide id i σ kp k):=fun hw=>
   (SL hG _ _ _ _ _ _).trans (Le.of_eq (Tp ho hw kp k))
  have noo:want ops σ o=some false→Le (nZ σ σ.heap σ.ids o.dst (.lit undef) fun σ'=>k σ' []) (J8 P C F ops hide id i σ kp k):=fun hw=>
   Le.of_eq (XX ho hw kp k)
  cases hg:o.guard with
  | none=>
   exact yes (by unfold want;rw[hg])
  | some p=>
   obtain⟨j,b⟩:=p
   simp only
   cases hj:ops[j]? with
   | none=>exact noo (by unfold want;simp only[hg,hj])
   | some g=>
    simp only
    cases hd:g.dst with
    | none=>exact noo (by unfold want;simp only[hg,hj,hd])
    | some d=>
     simp only
     cases hv:σ.val (.tmp d) with
     | lit x=>
      cases x with
      | bool c=>
       rw[oU hv]
       have hw:want ops σ o=some (c == b):=by unfold want;simp only[hg,hj,hd,hv]
       cases hcb:c == b with
       | true=>exact yes (by rw[hw,hcb])
       | false=>exact noo (by rw[hw,hcb])
      | tuple vs=>
       have hw:want ops σ o=some false:=by unfold want;simp only[hg,hj,hd,hv]
       have:∀ kk z,jw (R:=R) σ (.tmp d) kk z=z:=by intro kk z;unfold jw;rw[hv]
       rw[this];exact noo hw
      | _=>simp only[jw,hv];exact Le.none _
     | _=>simp only[jw,hv];exact Le.none _
theorem J9 {F:jy}{G:fO R}(hG:iP F G)(ops:Array Oper)(base:Nat):∀ (l:List Nat) (σ:St) (k:Ex→St→Option R),Le (Sb P C G ops base l σ k) ((oo P C F ops base l σ).bind fun p=>k p.1 p.2)
 | [],σ,k=>Le.refl _
 | i::l,σ,k=>by
  simp only[Sb,oo]
  refine (su hG _ _ _ _ _ _ _).trans ?_
  unfold J8
  cases fC P C F ops (fun H=>H) (base+i * 16) i σ with
  | some p=>exact Le.refl _
  | none=>
   simp only
   cases gq P C F ops (fun H=>H) (base+i * 16) i σ with
   | none=>exact Le.none _
   | some σ'=>exact J9 hG ops base l _ k
theorem sL (ops:Array Oper)(m:List Nat)(W:List (Option Nat))(base:Nat):∀ (l L:List Nat) (σ:St) (k:St→Option R),Le (Vm P C ops m W base l L σ k) ((dM P C ops m W base l σ).bind fun σ'=>k (σ'.ay (L++fw P C ops m W base l σ)))
 | [],L,σ,k=>by simp only[Vm,dM,fw,bi,ap];exact Le.refl _
 | i::l,L,σ,k=>by
  simp only[Vm,dM,xQ,fw]
  cases lK P C ops m W i σ with
  | false=>exact Le.none _
  | true=>
  simp only[cond_true]
  refine (su (F:=eX) (fun _ _ _ _ _ _=>Le.none _) _ _ _ _ _ _ _).trans ?_
  unfold J8
  split
  ·exact Le.none _
  cases gq P C eX ops (b6 base ops.size (m.getD i 0) (pS m W ops.size i)) (base+i * 16) i σ with
  | none=>exact Le.none _
  | some σ'=>
   refine (sL ops m W base l _ σ' k).trans (Le.of_eq ?_)
   simp only[dd]
theorem Q5 (ops:Array Oper)(base:Nat)(σ:St)(k:St→Option R):Le (OZ P C ops base σ k) ((tP P C ops base σ).bind k):=by
 unfold OZ tP
 cases bO P C ops (aB ops) with
 | false=>exact Le.none _
 | true=>
  refine (sL ops (aB ops) (pp P C ops (aB ops) base σ) base (da ops.size) [] σ k).trans (Le.of_eq ?_)
  simp only[bj,cond_true]
  cases dM P C ops (aB ops) (pp P C ops (aB ops) base σ) base (da ops.size) σ<;>rfl
theorem EC {F:jy}{G:fO R}(hG:iP F G)(ops:Array Oper)(base z:Nat)(σ:St)(k:Ex→St→Option R):Le (Kb P C G ops base z σ k) ((nc P C F ops base z σ).bind fun p=>k p.1 p.2):=by
 unfold Kb nc
 refine (su hG _ _ _ _ _ _ _).trans ?_
 unfold J8
 cases fC P C F ops (fun H=>H) (base+z * 16) z σ with
 | some p=>exact Le.refl _
 | none=>
  simp only
  cases gq P C F ops (fun H=>H) (base+z * 16) z σ with
  | none=>exact Le.none _
  | some σ'=>exact Le.refl _
theorem La {F:jy}{G:fO R}(hG:iP F G)(ops:Array Oper)(base:Nat)(σ:St)(k:Ex→St→Option R):Le (Ia P C G ops base σ k) ((o9 P C F ops base σ).bind fun p=>k p.1 p.2):=by
 unfold Ia o9
 cases wL C ops (aB ops) with
 | none=>
  simp only
  refine (Q5 _ _ _ _).trans (Le.of_eq ?_)
  cases tP P C ops base σ<;>rfl
 | some z=>
  simp only
  cases bO P C ops (aB ops) with
  | false=>exact Le.none _
  | true=>
   simp only[cond_true]
   refine (sL ops (aB ops) (pp P C ops (aB ops) base σ) base (da z) [] σ _).trans ?_
   cases dM P C ops (aB ops) (pp P C ops (aB ops) base σ) base (da z) σ with
   | none=>exact Le.none _
   | some σ1=>
    simp only[bj,ap]
    exact EC hG _ _ _ _ _
theorem CO (ops:Array Oper)(m:List Nat)(W:List (Option Nat))(base z:Nat):∀ (l L:List Nat) (σ:St) (k:St→Option R),Le (Xc P C ops m W base z l L σ k) ((sA P C ops m W base z l σ).bind fun σ'=>k (σ'.ay (L++jI P C ops m W base z l σ)))
 | [],L,σ,k=>by simp only[Xc,sA,jI,bi,ap];exact Le.refl _
 | i::l,L,σ,k=>by
  have h0:=sL (R:=R) (P:=P) (C:=C) ops m W base [i] [] σ
  simp only[Xc,sA,jI]
  unfold xQ
  cases lK P C ops m W i σ with
  | false=>exact Le.none _
  | true=>
   simp only[cond_true]
   refine (su (F:=eX) (fun _ _ _ _ _ _=>Le.none _) _ _ _ _ _ _ _).trans ?_
   unfold J8
   cases hp:fC P C eX ops (b6 base ops.size (m.getD i 0) (pS m W ops.size i)) (base+i * 16) i σ with
   | some p=>exact Le.none _
   | none=>
    simp only
    cases hop:gq P C eX ops (b6 base ops.size (m.getD i 0) (pS m W ops.size i)) (base+i * 16) i σ with
    | none=>exact Le.none _
    | some σ'=>
     simp only[ap]
     cases sJ m z i with
     | true=>
      simp only[cond_true]
      cases uM ops i σ σ' with
      | false=>exact Le.none _
      | true=>exact CO ops m W base z l L σ k
     | false=>
      simp only[cond_false]
      rw[← dd]
      exact CO ops m W base z l _ σ' k
theorem TU {F:jy}{G:fO R}(hG:iP F G)(ops:Array Oper)(base z:Nat)(σ:St)(k:Ex→St→Option R):Le (XC P C G ops base z σ k) ((E7 P C F ops base z σ).bind fun p=>k p.1 p.2):=by
 unfold XC E7
 cases bO P C ops (aB ops) with
 | false=>exact Le.none _
 | true=>
  simp only[cond_true]
  refine (sL ops (aB ops) (pp P C ops (aB ops) base σ) base (eu (aB ops) z ops.size) [] σ _).trans ?_
  cases dM P C ops (aB ops) (pp P C ops (aB ops) base σ) base (eu (aB ops) z ops.size) σ with
  | none=>exact Le.none _
  | some σ1=>
   simp only[bj,ap]
   unfold wW
   refine (su hG _ _ _ _ _ _ _).trans ?_
   unfold J8
   split
   ·rename_i p hp
    rw[hp];exact Le.refl _
   ·rename_i hp
    rw[hp]
    simp only
    cases gq P C F ops (fun H=>H) (base+z * 16) z (σ1.ay (fw P C ops (aB ops) (pp P C ops (aB ops) base σ) base (eu (aB ops) z ops.size) σ)) with
    | none=>exact Le.none _
    | some σ2=>
     simp only[ap]
     refine (CO ops (aB ops) _ base z _ _ _ _).trans ?_
     simp only[bj]
     split
     ·rename_i h;rw[h];exact Le.refl _
     ·rename_i h;rw[h];exact Le.none _
theorem NY {F:jy}{G:fO R}(hG:iP F G)(ops:Array Oper)(base z z2:Nat)(σ:St)(k:Ex→St→Option R):Le (Qc P C G ops base z z2 σ k) ((wk P C F ops base z z2 σ).bind fun p=>k p.1 p.2):=by
 unfold Qc wk
 cases bO P C ops (aB ops) with
 | false=>exact Le.none _
 | true=>
  simp only[cond_true]
  refine (sL ops (aB ops) (pp P C ops (aB ops) base σ) base (eu (aB ops) z ops.size) [] σ _).trans ?_
  cases dM P C ops (aB ops) (pp P C ops (aB ops) base σ) base (eu (aB ops) z ops.size) σ with
  | none=>exact Le.none _
  | some σ1=>
   simp only[bj,ap]
   unfold qm
   refine (su hG _ _ _ _ _ _ _).trans ?_
   unfold J8
   split
   ·rename_i p hp
    rw[hp];exact Le.refl _
   ·rename_i hp
    rw[hp]
    simp only
    cases gq P C F ops (fun H=>H) (base+z * 16) z (σ1.ay (fw P C ops (aB ops) (pp P C ops (aB ops) base σ) base (eu (aB ops) z ops.size) σ)) with
    | none=>exact Le.none _
    | some σ2=>
     simp only[ap]
     refine (CO ops (aB ops) _ base z _ _ _ _).trans ?_
     simp only[bj]
     split
     ·rename_i h;rw[h];exact EC hG _ _ _ _ _
     ·rename_i h;rw[h];exact Le.none _
theorem zA {F:jy}{G:fO R}(hG:iP F G)(ops:Array Oper)(base:Nat)(σ:St)(k:Ex→St→Option R):Le (Bi P C G ops base σ k) ((gF P C F ops base σ).bind fun p=>k p.1 p.2):=by
 unfold Bi gF
 cases QL C ops (aB ops) with
 | some p=>exact NY hG _ _ _ _ _ _
 | none=>
  simp only
  cases NQ C ops (aB ops) with
  | some z=>exact TU hG _ _ _ _ _
  | none=>exact La hG _ _ _ _
theorem sE {F:jy}{G:fO R}(hG:iP F G)(ops:Array Oper)(base:Nat)(σ:St)(k:Ex→St→Option R):Le (wP P C G ops base σ k) ((iN P C F ops base σ).bind fun p=>k p.1 p.2):=by
 unfold wP iN
 cases Jr P ops σ ops.toList 0 with
 | some j=>
  simp only
  refine (zA hG _ _ _ _).trans (Le.of_eq ?_)
  cases gF P C F ops base σ<;>rfl
 | none=>exact zA hG _ _ _ _
theorem NS {F:jy}{G:fO R}(hG:iP F G)(ops:Array Oper)(base:Nat)(σ:St)(k:Ex→St→Option R):Le (N7 P C G ops base σ k) ((iN P C F ops base σ).bind fun p=>k p.1 p.2):=by
 unfold N7
 split
 ·split
  ·rename_i d n _ _ kk i hd
   intro r hr
   obtain⟨q,h1,h2,h3⟩:=px n 0 _ hr
   have:σ.KQ d (.lit (.int kk (q:Int)))=σ:=si (by rw[hd,h2])
   rw[this] at h3
   exact sE hG ops base σ k r h3
  ·exact sE hG ops base σ k
 ·exact sE hG ops base σ k
theorem wg {f:St→Option (Ex×St)}{g:St→(Ex→St→Option R)→Option R}(h:∀ σ k,Le (g σ k) ((f σ).bind fun p=>k p.1 p.2)) :
  ∀ (n:Nat) (σ:St) (k:Ex→St→Option R),Le (DA n g σ k) ((cj n f σ).bind fun p=>k p.1 p.2)
 | 0,σ,k=>Le.refl _
 | n+1,σ,k=>by
  simp only[DA,cj]
  refine (h _ _).trans ?_
  cases f σ with
  | none=>exact Le.none _
  | some p=>
   obtain⟨e,σ'⟩:=p
   cases e with
   | dS=>exact wg h n σ' k
   | fE v=>exact Le.none _
   | _=>exact Le.refl _
def aK.fin (s:aK):Sum s.out.X s.ret.X→Ex×St
 | .inl y=>(.exit s.OE,s.out.FB y)
 | .inr y=>(.ret,s.ret.FB y)
theorem Iy {s:aK}{od:List Nat}(h1:s.od=od)(h2:s.out.od.map (·.1)=od)(h3:s.ret.od.map (·.1)=od){f:St→Option (Ex×St)}
  (hf:∀ z,Le (s.step z) ((f (s.shape.FB z)).bind fun p=>s.jg p.1 p.2)):∀ (n:Nat) (σ:St) (z:s.shape.X),s.shape.read σ=some z →
  Le ((iter n s.step z).map s.fin) (mP od (some s.lh) (cj n (cQ od (some s.lh) f) σ))
 | 0,σ,z,_=>Le.none _
 | n+1,σ,z,hr=>by
  have hh:=aj.sy hr
  have hod:s.shape.od.map (·.1)=od:=h1
  rw[hod] at hh
  have hR:cQ od (some s.lh) f σ=f (s.shape.FB z):=by
   simp only[cQ,aK.lh,hh]
  simp only[iter,cj,hR]
  cases hs:s.step z with
  | none=>exact Le.none _
  | some r=>
   have:=hf z r hs
   cases hfe:f (s.shape.FB z) with
   | none=>rw[hfe] at this;simp at this
   | some p=>
    obtain⟨e,σ'⟩:=p
    rw[hfe] at this
    simp only[ap] at this
    cases e with
    | dS=>
     simp only[aK.jg] at this
     split at this
     ·rename_i x hx
      cases this
      exact Iy h1 h2 h3 hf n σ' x hx
     ·simp at this
    | fE v=>simp[aK.jg] at this
    | exit i=>
     simp only[aK.jg] at this
     obtain⟨hi,this⟩:=dI this
     split at this
     ·rename_i y hy
      cases this
      have hy':=aj.sy hy
      rw[h2] at hy'
      intro q hq
      simp only[mP,aK.lh,hy']
      simp only[cf,aK.fin,ba] at hq
      rw[← hq,ae hi]
     ·simp at this
    | ret=>
     simp only[aK.jg] at this
     split at this
     ·rename_i y hy
      cases this
      have hy':=aj.sy hy
      rw[h3] at hy'
      intro q hq
      simp only[mP,aK.lh,hy']
      simp only[cf,aK.fin,ba] at hq
      rw[← hq]
     ·simp at this
    | goto l=>simp[aK.jg] at this
end
section
variable {P:Program}{C:Cons}{Sm:oS}{lf:Nat}
theorem xE {base:Nat}{x:Code}{σ:St}:hintOf (aV Sm) base x σ=(sumOf Sm base x σ).map aK.lh:=by
 unfold hintOf sumOf aV
 cases bK x with
 | none=>rfl
 | some r=>simp only;cases Sm base r σ<;>rfl
theorem F9 {R:Type}(σ:St)(i:Nat)(H:Heap)(L:List Nat)(k:Ex→St→Option R):B0 σ i H L k=(mW σ i H L).bind fun p=>k p.1 p.2:=by
 unfold B0 mW
 split<;>simp_all
theorem KT {R:Type}{F:jy}{G:fO R}(hG:iP F G)(base:Nat)(rf:Option Nat)(g:Operand)(body:Code)(σ:St)(k:Ex→St→Option R) :
  Le (HU P G base rf g body σ k) ((gC P F base rf g body σ).bind fun p=>k p.1 p.2):=by
 unfold HU gC
 split
 ·rename_i fid kk first caps r hg hr
  simp only[hg,hr]
  cases dB P fid r with
  | none=>exact Le.none _
  | some x=>
   simp only
   cases Rw σ base fid r x with
   | none=>exact Le.none _
   | some p=>
    obtain⟨σ1,i⟩:=p
    simp only
    cases jv P kk with
    | false=>exact Le.none _
    | true=>
     simp only[cond_true]
     refine (hG _ _ _ _ _ _).trans ?_
     cases F (i+1) (.fn kk) (first++[.iK i]++caps) σ1.heap σ1.ids with
     | none=>exact Le.none _
     | some q=>
      obtain⟨v,H,L⟩:=q
      cases v with
      | fE x=>exact Le.none _
      | _=>exact Le.of_eq (F9 _ _ _ _ _)
 ·exact Le.none _
theorem bJ:∀ (c:Code) (x:cE),x∈aY c→(∀ z∈aL x.2.1,z∈aL c)∧∀ z∈aL x.2.2,z∈aL c
 | .seq a b,x,h=>by
  simp only[aY,dk] at h
  rcases h with h|h
  ·obtain⟨h1,h2⟩:=bJ a x h
   exact⟨fun z hz=>by simp[aL,h1 z hz],fun z hz=>by simp[aL,h2 z hz]⟩
  ·obtain⟨h1,h2⟩:=bJ b x h
   exact⟨fun z hz=>by simp[aL,h1 z hz],fun z hz=>by simp[aL,h2 z hz]⟩
 | .scope a,x,h=>by
  obtain⟨h1,h2⟩:=bJ a x h
  exact⟨fun z hz=>h1 z hz,fun z hz=>h2 z hz⟩
 | .cond _ a b,x,h=>by
  simp only[aY,dk] at h
  rcases h with h|h
  ·obtain⟨h1,h2⟩:=bJ a x h
   exact⟨fun z hz=>by simp[aL,h1 z hz],fun z hz=>by simp[aL,h2 z hz]⟩
  ·obtain⟨h1,h2⟩:=bJ b x h
   exact⟨fun z hz=>by simp[aL,h1 z hz],fun z hz=>by simp[aL,h2 z hz]⟩
 | .block _ a,x,h=>by
  obtain⟨h1,h2⟩:=bJ a x h
  exact⟨fun z hz=>h1 z hz,fun z hz=>h2 z hz⟩
 | .loop a,x,h=>by
  obtain⟨h1,h2⟩:=bJ a x h
  exact⟨fun z hz=>by simp[aL,h1 z hz],fun z hz=>by simp[aL,h2 z hz]⟩
 | .rangeFunc _ _ a b,x,h=>by
  simp only[aY,List.mem_singleton] at h
  subst h
  exact⟨fun z hz=>by simp[aL,hz],fun z hz=>by simp[aL,hz]⟩
 | .skip,x,h=>by simp[aY] at h
 | .region _ _ _,x,h=>by simp[aY] at h
 | .exit _,x,h=>by simp[aY] at h
 | .label _,x,h=>by simp[aY] at h
 | .ret,x,h=>by simp[aY] at h
 | .goto _,x,h=>by simp[aY] at h
 | .refuse _,x,h=>by simp[aY] at h
theorem Dz {r:Nat}:∀ {l:List cE} {y:cE},vG r l=some y→y∈l
 | [],y,h=>by simp[vG] at h
 | z::l,y,h=>by
  simp only[vG] at h
  cases hz:cE.is z r with
  | true=>
   rw[hz] at h
   simp only[cond_true] at h
   cases hb:(l.any fun y=>cE.is y r) with
   | true=>rw[hb] at h;simp at h
   | false=>rw[hb] at h;simp only[cond_false,ba] at h;simp[h]
  | false=>rw[hz] at h;exact List.mem_cons_of_mem _ (Dz h)
theorem HN {k r:Nat}{x:cE}(h:dB P k r=some x):∃ fn c,P.funcs[k]? = some fn∧fn.body=some c∧x∈aY c:=by
 unfold dB at h
 split at h
 ·rename_i fn hfn
  split at h
  ·rename_i c hc;exact⟨fn,c,hfn,hc,Dz h⟩
  ·simp at h
 ·simp at h
theorem PR {i:Nat}{as:List AV}{H:Heap}{L:List Nat}{k r:Nat}{x:cE}{σ:St}(h:vU P i as H L=some (k,r,x,σ)):dB P k r=some x:=by
 unfold vU at h
 split at h
 ·split at h
  ·rename_i hx
   obtain⟨_,e⟩:=ai h
   cases e
   exact hx
  ·simp at h
 ·simp at h
theorem S8 {R:Type}{i k r:Nat}{asn body:St→(Ex→St→Option R)→Option R}{asn' body':St→Option (Ex×St)}(h1:∀ σ K,Le (asn σ K) ((asn' σ).bind fun p=>K p.1 p.2))
  (h2:∀ σ K,Le (body σ K) ((body' σ).bind fun p=>K p.1 p.2)) (σ:St) (K:AV→Heap→List Nat→Option R) :
  Le (X6 i k r asn body σ K) ((yB i k r asn' body' σ).bind fun p=>K p.1 p.2.1 p.2.2):=by
 unfold X6 yB
 refine (h1 _ _).trans ?_
 cases asn' σ with
 | none=>exact Le.none _
 | some p=>
  obtain⟨e,σ1⟩:=p
  cases e with
  | dS=>
   simp only[ap]
   cases qu i k r σ1 with
   | none=>exact Le.none _
   | some σ2=>
    simp only
    refine (h2 _ _).trans ?_
    cases body' σ2 with
    | none=>exact Le.none _
    | some q=>
     obtain⟨e,σ3⟩:=q
     simp only[ap,I4]
     cases xa i k r e σ3<;>exact Le.refl _
  | _=>exact Le.none _
theorem bV (hr:ic P C Sm lf){n fid base:Nat}{od:List Nat}{rf:Option Nat}(hG:∀ {R:Type},iP (R:=R) (bA P C (aV Sm) lf n) (qC P C Sm lf n))
  {fn:Func} {c0:Code} (hfn:P.funcs[fid]? = some fn) (hc0:fn.body=some c0) :
  ∀ {R:Type} (sc:Bool) (c:Code) (σ:St) (k:Ex→St→Option R),(∀ x∈aL c,x∈aL c0) →
   Le (cD P C Sm (qC P C Sm lf n) n fid lf base od rf sc c σ k) ((aC P C (aV Sm) (bA P C (aV Sm) lf n) lf base od rf sc c σ).bind fun p=>k p.1 p.2)
 | R,sc,.skip,σ,k,_=>Le.refl _
 | R,sc,.region id ops draw,σ,k,_=>by
  simp only[cD,aC]
  cases draw with
  | true=>
   simp only[cond_true]
   exact NS hG _ _ _ _
  | false=>
   simp only[cond_false]
   exact J9 hG _ _ _ _ _
 | R,false,.seq x y,σ,k,hl=>by
  simp only[cD,aC]
  refine (bV hr hG hfn hc0 false x σ _ (fun z hz=>hl z (by simp[aL,hz]))).trans ?_
  cases aC P C (aV Sm) (bA P C (aV Sm) lf n) lf base od rf false x σ with
  | none=>exact Le.none _
  | some p=>
   obtain⟨e,σ'⟩:=p
   cases e with
   | dS=>exact bV hr hG hfn hc0 false y σ' k (fun z hz=>hl z (by simp[aL,hz]))
   | _=>exact Le.refl _
 | R,true,.seq x y,σ,k,hl=>by
  simp only[cD,aC]
  cases hx:qB x with
  | none=>
   simp only
   refine (bV hr hG hfn hc0 false x σ _ (fun z hz=>hl z (by simp[aL,hz]))).trans ?_
   cases aC P C (aV Sm) (bA P C (aV Sm) lf n) lf base od rf false x σ with
   | none=>exact Le.none _
   | some p=>
    obtain⟨e,σ'⟩:=p
    cases e with
    | dS=>exact bV hr hG hfn hc0 true y σ' k (fun z hz=>hl z (by simp[aL,hz]))
    | goto l=>exact Le.none _
    | _=>exact Le.refl _
  | some l=>
   simp only
   have hxe:=wA hx
   subst hxe
   have fl:∀ {R:Type} (σ:St) (k:Ex→St→Option R),Le (cD P C Sm (qC P C Sm lf n) n fid lf base od rf false y σ (yH l k)) ((iO l (aC P C (aV Sm) (bA P C (aV Sm) lf n) lf base od rf false y σ)).bind fun p=>k p.1 p.2):=by
    intro R σ k
    refine (bV hr hG hfn hc0 false y σ _ (fun z hz=>hl z (by simp[aL,hz]))).trans ?_
    cases aC P C (aV Sm) (bA P C (aV Sm) lf n) lf base od rf false y σ with
    | none=>exact Le.none _
    | some p=>
     obtain⟨e,σ'⟩:=p
     cases e with
     | dS=>exact Le.refl _
     | goto i=>simp only[ap,yH,iO,ix];cases al i l<;>exact Le.refl _
     | exit i=>simp only[ap,yH,iO,ix];cases al i Bw<;>exact Le.refl _
     | ret=>exact Le.refl _
     | fE v=>exact Le.none _
   have un:∀ (r:Option (Ex×St)),Le (r.bind fun p=>u5 k p.1 p.2) ((vh r).bind fun p=>k p.1 p.2):=by
    intro r
    cases r with
    | none=>exact Le.none _
    | some p=>
     obtain⟨e,σ'⟩:=p
     cases e with
     | exit i=>simp only[ap,u5,vh,Mw];cases al i Bw<;>exact Le.refl _
     | ret=>exact Le.refl _
     | _=>exact Le.none _
   rw[xE]
   cases hs:sumOf Sm base y σ with
   | none=>
    simp only[Option.map_none]
    have e1:∀ r,mP od none r=r:=by intro r;unfold mP;split<;>rfl
    rw[e1]
    refine Le.trans ?_ (un _)
    exact wg (g:=fun σ k'=>cD P C Sm (qC P C Sm lf n) n fid lf base od rf false y σ (yH l k')) (fun σ k=>fl σ k) lf σ _
   | some s=>
    simp only[cf]
    cases hfit:s.fits n fid od rf (some l) with
    | false=>exact Le.none _
    | true=>
     simp only[cond_true]
     unfold aK.fits at hfit
     simp only[be] at hfit
     obtain⟨⟨⟨⟨⟨⟨oc,f0⟩,f1⟩,f2⟩,f3⟩,f4⟩,f5⟩:=hfit
     have oc:=uD oc
     have f0:=uD f0
     have f1:=ae f1
     have f2:=ae f2
     have f3:=fH f3
     have f4:=fH f4
     have f5:=fH f5
     cases hz:s.shape.read σ with
     | none=>exact Le.none _
     | some z=>
      simp only
      have hround:∀ z,Le (s.step z) ((iO l (aC P C (aV Sm) (bA P C (aV Sm) lf n) lf base od rf false y (s.shape.FB z))).bind fun p=>s.jg p.1 p.2):=by
       intro z
       unfold sumOf at hs
       cases hfr:bK y with
       | none=>rw[hfr] at hs;simp at hs
       | some r=>
        rw[hfr] at hs
        have:=hr base r σ s hs fn c0 y (by rw[f2];exact hfn) hc0 (hl y (by simp[aL,abH])) hfr z
        rw[f0,f1,f2,f3] at this
        unfold aK.Ay at this
        rw[oc] at this
        exact this.trans (fl _ _)
      have:=Iy (f:=fun σ=>iO l (aC P C (aV Sm) (bA P C (aV Sm) lf n) lf base od rf false y σ)) f3 f4 f5 hround lf σ z hz
      intro q hq
      cases hi:iter lf s.step z with
      | none=>rw[hi] at hq;simp at hq
      | some r=>
       rw[hi] at hq this
       have h2:=this (s.fin r) rfl
       rw[h2]
       cases r with
       | inl y=>exact un (some (.exit s.OE,s.out.FB y)) q hq
       | inr y=>exact hq
 | R,sc,.cond c x y,σ,k,hl=>by
  simp only[cD,aC]
  cases hv:σ.val c with
  | lit v=>
   cases v with
   | bool b=>
    rw[oU hv]
    cases b with
    | true=>exact bV hr hG hfn hc0 false x σ k (fun z hz=>hl z (by simp[aL,hz]))
    | false=>exact bV hr hG hfn hc0 false y σ k (fun z hz=>hl z (by simp[aL,hz]))
   | _=>simp only[jw,hv];exact Le.none _
  | _=>simp only[jw,hv];exact Le.none _
 | R,sc,.block id x,σ,k,hl=>by
  simp only[cD,aC]
  refine (bV hr hG hfn hc0 false x σ _ (fun z hz=>hl z (by simpa [aL] using hz))).trans ?_
  cases aC P C (aV Sm) (bA P C (aV Sm) lf n) lf base od rf false x σ with
  | none=>exact Le.none _
  | some p=>
   obtain⟨e,σ'⟩:=p
   cases e with
   | exit i=>simp only[ap];cases al i id<;>exact Le.refl _
   | _=>exact Le.refl _
 | R,sc,.loop x,σ,k,hl=>by
  simp only[cD,aC]
  rw[xE]
  cases hs:sumOf Sm base x σ with
  | none=>
   simp only[Option.map_none]
   have e1:∀ r,mP od none r=r:=by intro r;unfold mP;split<;>rfl
   rw[e1]
   exact wg (fun σ k=>bV hr hG hfn hc0 false x σ k (fun z hz=>hl z (by simp[aL,hz]))) lf σ k
  | some s=>
   simp only[cf]
   cases hfit:s.fits n fid od rf none with
   | false=>exact Le.none _
   | true=>
    simp only[cond_true]
    unfold aK.fits at hfit
    simp only[be] at hfit
    obtain⟨⟨⟨⟨⟨⟨oc,f0⟩,f1⟩,f2⟩,f3⟩,f4⟩,f5⟩:=hfit
    have oc:=uD oc
    have f0:=uD f0
    have f1:=ae f1
    have f2:=ae f2
    have f3:=fH f3
    have f4:=fH f4
    have f5:=fH f5
    cases hz:s.shape.read (σ.fD s.fD) with
    | none=>exact Le.none _
    | some z=>
     simp only
     have hround:∀ z,Le (s.step z) ((aC P C (aV Sm) (bA P C (aV Sm) lf n) lf base od rf false x (s.shape.FB z)).bind fun p=>s.jg p.1 p.2):=by
      intro z
      unfold sumOf at hs
      cases hfr:bK x with
      | none=>rw[hfr] at hs;simp at hs
      | some r=>
       rw[hfr] at hs
       have:=hr base r σ s hs fn c0 x (by rw[f2];exact hfn) hc0 (hl x (by simp[aL])) hfr z
       rw[f0,f1,f2,f3] at this
       unfold aK.Ay at this
       rw[oc] at this
       exact this.trans (bV hr hG hfn hc0 false x _ _ (fun z hz=>hl z (by simp[aL,hz])))
     have:=Iy f3 f4 f5 hround lf (σ.fD s.fD) z hz
     intro q hq
     cases hi:iter lf s.step z with
     | none=>rw[hi] at hq;simp at hq
     | some r=>
      rw[hi] at hq this
      have h2:=this (s.fin r) rfl
      rw[show GL (some s.lh) σ=σ.fD s.fD from rfl]
      rw[h2]
      cases r<;>exact hq
 | R,sc,.exit id,σ,k,_=>Le.refl _
 | R,sc,.label _,σ,k,_=>Le.refl _
 | R,sc,.ret,σ,k,_=>Le.refl _
 | R,sc,.rangeFunc g ps asn body,σ,k,_=>by simp only[cD,aC];exact KT hG _ _ _ _ _ _
 | R,sc,.scope x,σ,k,hl=>by
  simp only[cD,aC]
  cases iY x with
  | false=>exact Le.none _
  | true=>
   simp only[cond_true]
   refine (bV hr hG hfn hc0 true x σ _ (fun z hz=>hl z (by simpa [aL] using hz))).trans ?_
   cases aC P C (aV Sm) (bA P C (aV Sm) lf n) lf base od rf true x σ with
   | none=>exact Le.none _
   | some p=>
    obtain⟨e,σ'⟩:=p
    cases e with
    | goto l=>exact Le.none _
    | _=>exact Le.refl _
 | R,sc,.goto _,σ,k,_=>Le.refl _
 | R,sc,.refuse _,σ,k,_=>Le.none _
theorem qL (hr:ic P C Sm lf):∀ (n:Nat) {R:Type},iP (R:=R) (bA P C (aV Sm) lf n) (qC P C Sm lf n)
 | 0,R=>fun base k as H L K=>Le.none _
 | n+1,R=>fun base k as H L K=>by
  cases k with
  | fn k=>
   simp only[qC,bA]
   cases hfn:P.funcs[k]? with
   | none=>exact Le.none _
   | some fn=>
    simp only
    cases hb:fn.body with
    | none=>exact Le.none _
    | some c=>
     simp only
     cases dq as.length fn.ntmps with
     | false=>exact Le.none _
     | true=>
      simp only[cond_true]
      refine (bV hr (fun {R}=>qL hr n) hfn hb false c _ _ (fun x hx=>hx)).trans ?_
      cases aC P C (aV Sm) (bA P C (aV Sm) lf n) lf (Nat.succ base * 4294967296) L (some k) false c ⟨fn.ntmps,fy as,H,L⟩ with
      | none=>exact Le.none _
      | some p=>
       obtain⟨e,σ⟩:=p
       cases e with
       | dS=>
        simp only[ap,pY,Da]
        cases eU P σ fn.results.toList<;>exact Le.refl _
       | ret=>
        simp only[ap,pY,Da]
        cases eU P σ fn.results.toList<;>exact Le.refl _
       | fE v=>exact Le.refl _
       | _=>exact Le.none _
  | iK i=>
   simp only[qC,bA]
   cases hin:vU P i as H L with
   | none=>exact Le.none _
   | some p=>
    obtain⟨k,r,x,σ⟩:=p
    simp only
    obtain⟨fn,c,hfn,hc,hx⟩:=HN (PR hin)
    obtain⟨hl1,hl2⟩:=bJ c x hx
    exact S8 (fun σ K=>bV hr (fun {R}=>qL hr n) hfn hc false _ σ K hl1) (fun σ K=>bV hr (fun {R}=>qL hr n) hfn hc false _ σ K hl2) σ K
theorem T3 (hr:ic P C Sm lf){n k:Nat}{ps:List Ty}{rs:List eG}{x:dQ ps}:Le (Ud P C Sm lf n k ps rs x) (top P C (aV Sm) lf n k ps rs x):=by
 unfold Ud top
 refine (qL hr n _ _ _ _ _ _).trans ?_
 cases bA P C (aV Sm) lf n 0 (.fn k) (cJ ps x) (fun _=>none) [] with
 | none=>exact Le.none _
 | some p=>exact Le.refl _
theorem aa [aq](hC:bX P C)(hr:ic P C Sm lf){n k:Nat}{c:aX}
  (h:∀ x,Ud P C Sm lf n k c.ps c.rs x=c.f x):c.OK P k:=
 Iv (Hn:=aV Sm) (lf:=lf) (n:=n) hC fun x y hf=>T3 hr y (by rw[h x];exact hf)
end
section
variable [aq]{P:Program}{C:Cons}{lf:Nat}
def Dd (P:Program)(C:Cons)(Hn:Hints)(lf n k:Nat)(od:List Nat)(as:List AV)(H:Heap)(L:List Nat):Option (AV×Heap×List Nat):=
 match P.funcs[k]? with
 | some fn=>match fn.body with
  | some c=>cond (dq as.length fn.ntmps) (pY P fn.results.toList (aC P C Hn (bA P C Hn lf n) lf 4294967296 od (some k) false c ⟨fn.ntmps,fy as,H,L⟩)) none
  | none=>none
 | none=>none
theorem P8 {Hn:Hints}(hC:bX P C){n k:Nat}{od:List Nat}{as:List AV}{H H' Ho:Heap}{L L':List Nat}{v:AV}(h:Dd P C Hn lf n k od as H L=some (v,H',L'))(hnp:v.ep=false)(hBd:∀ q,H q≠none→q∈L)
  {μ μo:Mu} {S:ar} {B:Nat} {w0 w:World} {us:Array Value} (hod:∀ i,μo i≠none→i∈od) (C0:Carry B μo S Ho μ S H) (R:Rel μ S H B w0 w) (hv:aH μ S H as us.toList) :
  Calls P k us w fun e w'=>∃ u μ' S',e = .returned u∧VR μ' S' H' v u∧Rel μ' S' H' B w0 w'∧(∀ b,S' b≠none→S b≠none∨B≤b)∧(∀ b o,S b=some o→S' b=some o):=by
 have ih:=nk (lf:=lf) (Hn:=Hn) hC n
 unfold Dd at h
 split at h
 case h_2=>simp at h
 rename_i fn hfn
 split at h
 case h_2=>simp at h
 rename_i c hc
 cases hle:dq as.length fn.ntmps with
 | false=>rw[hle] at h;simp at h
 | true=>
  rw[hle] at h
  simp only[cond_true] at h
  have hle:=Nat.le_of_ble_eq_true hle
  have hlen:=aU hv
  simp only[Array.length_toList] at hlen
  refine (iE (r:=none) (n:=0)).1 (callsIn_of_wp_marks hfn hc trivial ?_ rfl)
  have A0:AR S (false,[]) μ S ⟨fn.ntmps,fy as,H,L⟩ { tmps:=us++Array.replicate (fn.ntmps-us.size) undef,defers:=[] }:=by
   refine⟨⟨[],rfl,⟨List.nodup_nil,by simp⟩,fun _=>rfl⟩,by simp;omega,fun t ht=>?_⟩
   have:=qt hv t
   rw[List.getD_eq_getElem?_getD] at this
   rw[Array.getD_eq_getD_getElem?]
   by_cases hlt:t<us.size
   ·rw[Array.getElem?_append_left hlt];simpa using this
   ·rw[Array.getElem?_append_right (by omega),Array.getElem?_replicate]
    have e1:us.toList[t]? = none:=by rw[dp];simp;omega
    rw[e1] at this
    have:t-us.size<fn.ntmps-us.size:=by simp only at ht;omega
    rw[if_pos this];assumption
  have fin:∀ (e:Ex) (σ:St),aC P C Hn (bA P C Hn lf n) lf 4294967296 od (some k) false c ⟨fn.ntmps,fy as,H,L⟩=some (e,σ)→e = .dS∨e = .ret →
    (∃ vs,eU P σ fn.results.toList=some vs∧v=gw vs∧H'=σ.heap) →
    c.wpIn (WF none) 0 P (bodyPostM (WF none) 0 P fn fun e w'=>∃ u μ' S',e = .returned u∧VR μ' S' H' v u∧Rel μ' S' H' B w0 w'∧(∀ b,S' b≠none→S b≠none∨B≤b)∧(∀ b o,S b=some o→S' b=some o)) { tmps:=us++Array.replicate (fn.ntmps-us.size) undef,defers:=[] } w:=by
   rintro e σ he hex ⟨vs,hvs,rfl,rfl⟩
   refine aF (Dt:=(false,[])) (μo:=μo) (So:=S) (Ho:=Ho) (fun _=>⟨rfl,rfl⟩) hC ih hod c (.top hfn hc) _ e σ _ w μ S _ he hBd A0 R C0 fun a' w' μ' S' xe A' R' C' hx=>?_
   have main:LeavesInM (WF none) 0 P fn a'.tmps (fun e w'=>∃ u μ' S',e = .returned u∧VR μ' S' σ.heap (gw vs) u∧Rel μ' S' σ.heap B w0 w'∧(∀ b,S' b≠none→S b≠none∨B≤b)∧(∀ b o,S b=some o→S' b=some o)) a'.defers .returning w':=by
    obtain⟨ms,hms,hmk,_⟩:=A'.defers
    rw[hms]
    refine k9 (by simp) R.pre ms S' w' R' hmk C'.sub (fun D hD=>?_) fun S2 w2 R2 hc2 hs2 hn2=>?_
    ·rcases C'.st D (by rw[(hmk.2 D hD).2];simp) with h|h
     ·exact absurd (hmk.2 D hD).1 h
     ·exact h
    ·have A2:AR S (false,[]) μ' S2 σ { tmps:=a'.tmps,defers:=[] }:=⟨⟨[],rfl,⟨List.nodup_nil,by simp⟩,fun _=>rfl⟩,A'.size,fun t ht=>jA hc2 _ _ (A'.tmp t ht)⟩
     obtain⟨u,k1,k2⟩:=vv A2 R2 hvs
     exact⟨u,k1,u,μ',S2,rfl,k2,R2,fun b hb=>C'.st b (hn2 b hb),hs2⟩
   rcases hex with rfl|rfl
   ·cases (show xe = .normal from hx);exact main
   ·cases (show xe = .ret from hx);exact main
  unfold pY at h
  split at h
  ·rename_i σ he
   split at h
   ·rename_i vs hvs;cases h;exact fin .dS σ he (.inl rfl) ⟨vs,hvs,rfl,rfl⟩
   ·simp at h
  ·rename_i σ he
   split at h
   ·rename_i vs hvs;cases h;exact fin .ret σ he (.inr rfl) ⟨vs,hvs,rfl,rfl⟩
   ·simp at h
  ·cases h;simp[AV.ep] at hnp
  ·simp at h
omit [aq] in
theorem tw {S S':ar}(h:∀ b o,S b=some o→S' b=some o):∀ {ps:List Ty} {x:dQ ps} {vs:List Value},iB S ps x vs→iB S' ps x vs
 | [],_,_,hr=>hr
 | t::ts,x,vs,hr=>by
  obtain⟨v,r,e,h1,h2⟩:=hr
  refine⟨v,r,e,?_,tw h h2⟩
  unfold Mr at h1 ⊢
  split at h1
  ·rename_i ht
   rw[if_pos ht]
   obtain⟨cs,e2,h1⟩:=h1
   exact⟨cs,e2,dD h _ _ _ h1⟩
  ·rename_i ht
   rw[if_neg ht]
   exact dD h _ _ _ h1
def oZ (te:TypeId)(e:Ty)(zs:List e.T):Heap:=aP (fun _=>none) 1 (some (.row te e 0 zs))
def Uh (P:Program)(C:Cons)(Hn:Hints)(lf n k:Nat)(te:TypeId)(e:Ty)(ps:List Ty)(zs:List e.T)(x:dQ ps):Option (zu [.own te e]):=
 iC [.own te e] (Dd P C Hn lf n k [] (.sl 1 0::cJ ps x) (oZ te e zs) [1])
theorem EU {Hn:Hints}(hC:bX P C){n k:Nat}{te:TypeId}{e:Ty}{ps:List Ty}{f:List e.T→dQ ps→Option (List e.T×Unit)}(hfl:e.flat=true)
  (h:∀ zs x y,f zs x=some y→Uh P C Hn lf n k te e ps zs x=some y) :
  (⟨te,e,ps,false,fun zs x=>(f zs x).map (·.1)⟩:b5).OK P k:=by
 refine⟨fun _=>?_,Ja⟩
 intro zs x ys hf S w B v0 cs0 vs hS hG ha hR hown hv0 hB
 simp only at zs x ys hf ha hR hown
 cases hfe:f zs x with
 | none=>rw[hfe] at hf;simp at hf
 | some y=>
 rw[hfe] at hf
 simp only[cf,ba] at hf
 have ht:=h zs x y hfe
 unfold Uh at ht
 cases he:Dd P C Hn lf n k [] (.sl 1 0::cJ ps x) (oZ te e zs) [1] with
 | none=>rw[he] at ht;simp[iC] at ht
 | some p=>
 obtain⟨v,H',L'⟩:=p
 rw[he] at ht
 simp only[iC] at ht
 obtain⟨hnp,ht⟩:=cu ht
 split at ht
 case h_2=>simp at ht
 rename_i y' o hd
 obtain⟨hdis,rfl⟩:=ai ht
 have hdn:=(Bool.and_eq_true_iff.1 hdis).2
 let S1:ar:=fun b=>if v0.ownBlock=some b then none else w.heap[b]?
 have hS1:∀ b o,S b=some o→S1 b=some o:=by
  intro b o hb
  show (if v0.ownBlock=some b then none else w.heap[b]?)=some o
  rw[if_neg (fun hq=>by rw[hv0 b hq] at hb;simp at hb)]
  exact hS b o hb
 have hS1w:∀ b o,S1 b=some o→w.heap[b]? = some o:=by
  intro b o hb
  have hb:(if v0.ownBlock=some b then none else w.heap[b]?)=some o:=hb
  split at hb
  ·simp at hb
  ·exact hb
 have hS1v:∀ b,v0.ownBlock=some b→S1 b=none:=by
  intro b hb
  show (if v0.ownBlock=some b then none else w.heap[b]?)=none
  rw[if_pos hb]
 obtain⟨l,hv0e,hl,hno,hO⟩:=jt (μ:=aP (fun _=>none) 1 (some ⟨v0.ownBlock,0,aT⟩)) (H:=oZ te e zs) (g:=0) (ng hfl hR:gY S1 e zs cs0) hS1v hown
 have hO':og (aP (fun _=>none) 1 (some l)) S1 (oZ te e zs) w B l (.row te e 0 zs):=hO
 have R0:Rel (aP (fun _=>none) 1 (some l)) S1 (oZ te e zs) B w w:=by
  refine⟨Below.refl _ _,hB,hS1w,fun i=>?_,fun i ob hi=>?_,fun i j li lj b hij hi hj hb=>?_,fun i li hi=>?_,aq.mono S S1 hS1 hG⟩
  ·by_cases e1:i=1
   ·subst e1;simp[oZ,au]
   ·unfold oZ;rw[ax _ _ e1,ax _ _ e1];rfl
  ·by_cases e1:i=1
   ·subst e1
    unfold oZ at hi
    rw[au] at hi
    cases hi
    exact⟨l,au _ _ _,hO'⟩
   ·unfold oZ at hi;rw[ax _ _ e1] at hi;simp at hi
  ·by_cases e1:i=1
   ·subst e1
    rw[ax _ _ (Ne.symm hij)] at hj
    simp at hj
   ·rw[ax _ _ e1] at hi;simp at hi
  ·by_cases e1:i=1
   ·subst e1;rw[au] at hi;cases hi;exact .inl hno
   ·rw[ax _ _ e1] at hi;simp at hi
 have hargs:aH (aP (fun _=>none) 1 (some l)) S1 (oZ te e zs) (.sl 1 0::cJ ps x) (v0::vs).toArray.toList:=by
  have ha1:iB S1 ps x vs:=tw hS1 ha
  simp only[aH]
  refine⟨v0,vs,by simp,?_,mg ha1⟩
  simp only[VR]
  refine⟨⟨_,_,_,hv0e⟩,l,au _ _ _,fun t e' gc xs hH=>?_⟩
  unfold oZ at hH
  rw[au] at hH
  injection hH with hH
  injection hH with q1 q2 q3 q4
  subst q1 q2 q3
  cases q4
  exact⟨Nat.le_refl _,fun _=>hv0e⟩
 have C0:Carry B (fun _=>none) S1 (fun _=>none) (aP (fun _=>none) 1 (some l)) S1 (oZ te e zs):=Carry.of (Ext.new rfl)
 refine Calls.mono (P8 (μo:=fun _=>none) (Ho:=fun _=>none) (od:=[]) hC he hnp (fun q hq=>?_) (fun i hi=>absurd rfl hi) C0 R0 hargs) ?_
 ·by_cases e1:q=1
  ·subst e1;simp
  ·unfold oZ at hq;rw[ax _ _ e1] at hq;simp at hq
 rintro ex w' ⟨u,μ',S',rfl,k1,R',hst,hsub⟩
 have hparts:∃ us,aH μ' S' H' (v.parts [eG.own te e].length) us∧us=[u]:=by
  refine⟨[u],?_,rfl⟩
  have one:aH μ' S' H' [v] [u]:=by simp only[aH];exact⟨u,[],rfl,k1,rfl⟩
  cases v<;>exact one
 obtain⟨us,hus,rfl⟩:=hparts
 obtain⟨os,q1,q2,q3,q4⟩:=rL (S':=S') (Hv:=fun _=>none) R' (fun b o h=>h) dP.no (fun i o h=>by simp[rY,eG.qx] at h) hus hd hdn
 obtain⟨v1,r1,o1,o2,e1,e2,d1,d2⟩:=q1
 obtain⟨rfl,rfl⟩:=d2
 cases e1
 unfold lz at d1
 simp only[eG.isAgg,aw,if_false] at d1
 obtain⟨l2,c1,c2⟩:=d1
 subst c2
 cases c1
 subst hf
 have hOK:=(q3 ⟨l2,.row te e y'.1⟩ (by rw[e2];simp)).2
 have hOb:og μ' S' H' w' B l2 (.row te e 0 y'.1):=hOK
 obtain⟨cs,g1,g2⟩:=lZ hOb
 have hblk:∀ b,l2.blk=some b→S' b=none:=by
  intro b hb
  rcases hOK.2 with h3|⟨b',cs',f1,_,f2,_⟩
  ·rw[h3.1] at hb;simp at hb
  ·rw[f1] at hb;cases hb;exact f2
 refine⟨_,cs,rfl,fun h=>by simp at h,ng hfl g1,g2,fun b hb=>?_,R'.below.os,R'.below.tape,R'.below.output,R'.below.size,fun b hb hne=>?_⟩
 ·rw[nu] at hb
  rcases Nat.lt_or_ge b w.heap.size with hlt|hge
  ·by_cases hq:v0.ownBlock=some b
   ·exact .inl hq
   ·exfalso
    have h1:S1 b=some w.heap[b]:=by
     show (if v0.ownBlock=some b then none else w.heap[b]?)=_
     rw[if_neg hq];simp[hlt]
    have h2:=hsub b _ h1
    rw[hblk b hb] at h2
    simp at h2
  ·exact .inr hge
 ·have h1:S1 b=some w.heap[b]:=by
   show (if v0.ownBlock=some b then none else w.heap[b]?)=_
   rw[if_neg (fun hq=>hne hq.symm)];simp[hb]
  rw[R'.st b _ (hsub b _ h1)]
  simp[hb]
def JQ (P:Program)(C:Cons)(Sm:oS)(lf n k:Nat)(te:TypeId)(e:Ty)(ps:List Ty)(zs:List e.T)(x:dQ ps):Option (zu [.own te e]):=
 match P.funcs[k]? with
 | some fn=>match fn.body with
  | some c=>cond (dq (AV.sl 1 0::cJ ps x).length fn.ntmps) (cD P C Sm (qC P C Sm lf n) n k lf 4294967296 [] (some k) false c ⟨fn.ntmps,fy (.sl 1 0::cJ ps x),oZ te e zs,[1]⟩ fun e' σ=>match e' with
   | .dS=>Da P fn.results.toList σ fun v H L=>iC [.own te e] (some (v,H,L))
   | .ret=>Da P fn.results.toList σ fun v H L=>iC [.own te e] (some (v,H,L))
   | _=>none) none
  | none=>none
 | none=>none
omit [aq] in
theorem PD {Sm:oS}(hr:ic P C Sm lf){n k:Nat}{te:TypeId}{e:Ty}{ps:List Ty}{zs:List e.T}{x:dQ ps}:Le (JQ P C Sm lf n k te e ps zs x) (Uh P C (aV Sm) lf n k te e ps zs x):=by
 unfold JQ Uh Dd
 cases hfn:P.funcs[k]? with
 | none=>exact Le.none _
 | some fn=>
  simp only
  cases hb:fn.body with
  | none=>exact Le.none _
  | some c=>
   simp only
   cases dq (AV.sl 1 0::cJ ps x).length fn.ntmps with
   | false=>exact Le.none _
   | true=>
    simp only[cond_true]
    refine (bV hr (fun {R}=>qL hr n) hfn hb false c _ _ (fun x hx=>hx)).trans ?_
    cases aC P C (aV Sm) (bA P C (aV Sm) lf n) lf 4294967296 [] (some k) false c ⟨fn.ntmps,fy (.sl 1 0::cJ ps x),oZ te e zs,[1]⟩ with
    | none=>exact Le.none _
    | some p=>
     obtain⟨e1,σ⟩:=p
     cases e1 with
     | dS=>
      simp only[ap,pY,Da]
      cases eU P σ fn.results.toList<;>exact Le.refl _
     | ret=>
      simp only[ap,pY,Da]
      cases eU P σ fn.results.toList<;>exact Le.refl _
     | _=>exact Le.none _
theorem Ad {Sm:oS}(hC:bX P C)(hr:ic P C Sm lf){n k:Nat}{te:TypeId}{e:Ty}{ps:List Ty}{f:List e.T→dQ ps→Option (List e.T×Unit)}(hfl:e.flat=true)
  (h:∀ zs x,JQ P C Sm lf n k te e ps zs x=f zs x):(⟨te,e,ps,false,fun zs x=>(f zs x).map (·.1)⟩:b5).OK P k:=
 EU (Hn:=aV Sm) (lf:=lf) (n:=n) hC hfl fun zs x y hf=>PD hr y (by rw[h zs x];exact hf)
end
abbrev az:Nat:=18446744073709551616
def qp {α:Type}:List (Nat×α)→Nat→Option α
 | [],_=>none
 | p::l,k=>cond (al k p.1) (some p.2) (qp l k)
def C6 [aq](P:Program):List (Nat×aX)→Prop
 | []=>True
 | p::l=>p.2.OK P p.1∧C6 P l
def NO [aq](P:Program):List (Nat×b5)→Prop
 | []=>True
 | p::l=>p.2.OK P p.1∧NO P l
theorem D9 [aq]{P:Program}:∀ {l:List (Nat×aX)},C6 P l→∀ k c,qp l k=some c→c.OK P k
 | [],_,k,c,h=>by simp[qp] at h
 | p::l,ha,k,c,h=>by
  simp only[qp] at h
  cases hb:al k p.1 with
  | true=>
   rw[hb] at h
   simp only[cond_true,ba] at h
   subst h
   rw[ae hb]
   exact ha.1
  | false=>rw[hb] at h;exact D9 ha.2 k c h
theorem Fb [aq]{P:Program}:∀ {l:List (Nat×b5)},NO P l→∀ k c,qp l k=some c→c.OK P k
 | [],_,k,c,h=>by simp[qp] at h
 | p::l,ha,k,c,h=>by
  simp only[qp] at h
  cases hb:al k p.1 with
  | true=>
   rw[hb] at h
   simp only[cond_true,ba] at h
   subst h
   rw[ae hb]
   exact ha.1
  | false=>rw[hb] at h;exact Fb ha.2 k c h
def Oq (l:List (Nat×aX))(u:List (Nat×b5))(z:List Nat:=[]):Cons:=⟨qp l,qp u,z⟩
class Ng [aq] (P:Program):Prop where
 ok:∀ k r,aq.fX k r=dB P k r
theorem an [aq]{P:Program}[Ng P]{l:List (Nat×aX)}{u:List (Nat×b5)}{z:List Nat}(h:C6 P l)(h':NO P u):bX P (Oq l u z):=
 ⟨fun k c=>D9 h k c,fun k c=>Fb h' k c,Ng.ok⟩
def nV (P:Program)(k r:Nat):List Code:=match P.funcs[k]? with
 | some fn=>match fn.body with
  | some c=>(aL c).filter fun x=>match bK x with
   | some q=>al q r
   | none=>false
  | none=>[]
 | none=>[]
def hdC (l:List Code):Code:=match l with
 | x::_=>x
 | []=>.skip
def pZ:List (Nat×Nat×aK)→oS
 | [],_,_,_=>none
 | p::l,b,r,σ=>cond (al b p.1&&al r p.2.1&&p.2.2.Vn σ) (some p.2.2) (pZ l b r σ)
def Round (P:Program)(C:Cons)(Sm:oS)(lf b r:Nat)(s:aK):Prop:=
 (nV P s.k r).length=1∧∀ z,cD P C Sm (qC P C Sm lf s.n) s.n s.k lf b s.od s.rf false (hdC (nV P s.k r)) (s.shape.FB z) s.Ay=s.step z
def WW (P:Program)(C:Cons)(Sm:oS)(lf:Nat):List (Nat×Nat×aK)→Prop
 | []=>True
 | p::l=>Round P C Sm lf p.1 p.2.1 p.2.2∧WW P C Sm lf l
theorem tO {P:Program}{C:Cons}{Sm:oS}{lf:Nat}:∀ {l:List (Nat×Nat×aK)},WW P C Sm lf l→∀ b r σ s,pZ l b r σ=some s→Round P C Sm lf b r s
 | [],_,b,r,σ,s,h=>by simp[pZ] at h
 | p::l,ha,b,r,σ,s,h=>by
  simp only[pZ] at h
  cases hb:(al b p.1&&al r p.2.1&&p.2.2.Vn σ) with
  | true=>
   rw[hb] at h
   simp only[cond_true,ba] at h
   subst h
   simp only[be] at hb
   rw[ae hb.1.1,ae hb.1.2]
   exact ha.1
  | false=>rw[hb] at h;exact tO ha.2 b r σ s h
theorem ak {P:Program}{C:Cons}{lf:Nat}{l:List (Nat×Nat×aK)}(h:WW P C (pZ l) lf l):ic P C (pZ l) lf:=by
 intro b r σ s hs fn c x hfn hc hx hr z
 obtain⟨h1,h2⟩:=tO h b r σ s hs
 have hmem:x∈nV P s.k r:=by
  unfold nV
  simp only[hfn,hc]
  exact List.mem_filter.2 ⟨hx,by simp only[hr,Nat.beq_refl]⟩
 have hd:hdC (nV P s.k r)=x:=by
  match ht:nV P s.k r,h1 with
  | [y],_=>rw[ht] at hmem;simp at hmem;rw[hmem];rfl
 have:=h2 z
 rw[hd] at this
 exact Le.of_eq this.symm
theorem aX.OK.of [aq]{P:Program}{k:Nat}{c:aX}(h:c.OK P k){g:dQ c.ps→Option (zu c.rs)}(hg:∀ x y,g x=some y→c.f x=some y):(⟨c.ps,c.rs,g⟩:aX).OK P k:=
 fun x y hx=>h x y (hg x y hx)
def Wf:(t:Ty)→t.T→Prop
 | .int k,x=>(Lit.int k x).wf=true
 | .bool,_=>True
 | .str,x=>x.size≤maxLen
 | .row e,xs=>dj xs≤maxLen∧∀ x∈xs,Wf e x
 | .pair a b,x=>Wf a x.1∧Wf b x.2
 | .one a,x=>Wf a x
 | .CQ _,_=>True
 | .nil,_=>True
def CF:(ps:List Ty)→dQ ps→Prop
 | [],_=>True
 | t::ts,x=>Wf t x.1∧CF ts x.2
section
variable {P:Program}{H:Type}{enc:TypeId×Value→H}
theorem yh (hl:laidOutB P=true){W W':World}(hb:Below W.heap.size W W'):∀ {ts:List TypeId} {vs:List Value} {ds:List (DataW H)} {ps:List MemPlace},
  (∀ t∈ts,P.readableRec t=true∧t<P.types.size)→bm enc P W 0 (fun _=>true) true ts vs ds ps→(∀ x∈ps,x.block<W.heap.size)→∀ sp:Nat→Bool,(∀ x∈ps,sp x.block=true) →
  bm enc P W' 0 sp true ts vs ds ps
 | [],[],[],ps,_,h,_,sp,_=>h
 | t::ts,v::vs,d::ds,ps,hr,h,hlt,sp,hsp=>by
  obtain⟨p,q,h1,h2,rfl⟩:=h
  refine⟨p,q,?_,yh hl hb (fun t ht=>hr t (by simp[ht])) h2 (fun x hx=>hlt x (by simp[hx])) sp (fun x hx=>hsp x (by simp[hx])),rfl⟩
  exact WideElems.Trod_stays hl (hr t (by simp)).1 (hr t (by simp)).2 h1 (fun x hx=>hb.same (hlt x (by simp[hx]))) (fun x hx=>hsp x (by simp[hx]))
 | [],[],_::_,_,_,h,_,_,_=>by cases h
 | [],_::_,_,_,_,h,_,_,_=>by cases h
 | _::_,[],_,_,_,h,_,_,_=>by cases h
 | _::_,_::_,[],_,_,h,_,_,_=>by cases h
def sizes (P:Program)(fs:List Field):Nat:=(fs.map fun f=>P.cellsOf f.type).sum
theorem Es {S:ar}{n:Nat}{cs:List Value}:∀ (fs:List Field) (o:Nat),(∀ (j:Nat) f,fs[j]? = some f→f.offset=o+sizes P (fs.take j))→cs.length=o+sizes P fs →
  (∀ f∈fs,∀ ty,nv P n f.type=some ty→∃ x,Rd S ty x ((cs.drop f.offset).take (P.cellsOf f.type))∧Wf ty x)→∀ ty,cC (fs.map fun f=>nv P n f.type)=some ty→∃ x,Rd S ty x (cs.drop o)∧Wf ty x
 | [],o,ho,hl,hf,ty,h=>by simp[cC] at h
 | [f],o,ho,hl,hf,ty,h=>by
  simp only[cd,List.map_nil] at h
  cases ht:nv P n f.type with
  | none=>rw[ht] at h;simp[cC] at h
  | some a=>
   rw[ht] at h
   simp only[cC,ba] at h
   subst h
   obtain⟨x,h1,h2⟩:=hf f (by simp) a ht
   have h0:f.offset=o:=by simpa [sizes] using ho 0 f rfl
   rw[h0,List.take_of_length_le (by simp[sizes] at hl;simp;omega)] at h1
   exact⟨x,h1,h2⟩
 | f::g::fs,o,ho,hl,hf,ty,h=>by
  simp only[cd] at h
  cases ht:nv P n f.type with
  | none=>rw[ht] at h;simp[cC] at h
  | some a=>
   rw[ht] at h
   simp only[cC] at h
   split at h
   case h_2=>simp at h
   rename_i b hb
   cases h
   obtain⟨x,h1,h2⟩:=hf f (by simp) a ht
   have h0:f.offset=o:=by simpa [sizes] using ho 0 f rfl
   obtain⟨y,k1,k2⟩:=Es (S:=S) (cs:=cs) (g::fs) (o+P.cellsOf f.type) (fun j q hj=>by
    have:=ho (j+1) q (by simpa using hj)
    rw[this];simp[sizes];omega) (by simp[sizes] at hl ⊢;omega) (fun q hq=>hf q (by simp at hq ⊢;exact .inr hq)) b (by simpa using hb)
   refine⟨(x,y),⟨_,_,?_,h1,k1⟩,h2,k2⟩
   rw[h0,← List.drop_drop,List.take_append_drop]
theorem p9 {α β:Type}{f:α→Option β}:∀ {l:List α} {r:List β},l.mapM f=some r→r.length=l.length∧∀ (i:Nat) (a:α),l[i]? = some a→∃ b,r[i]? = some b∧f a=some b
 | [],r,h=>by
  simp only[List.mapM_nil,Option.pure_def,ba] at h
  subst h
  exact⟨rfl,fun i a h=>by simp at h⟩
 | x::l,r,h=>by
  simp only[List.mapM_cons,Option.bind_eq_bind,cn,Option.pure_def,ba] at h
  obtain⟨b,hb,r',hr',rfl⟩:=h
  obtain⟨h1,h2⟩:=p9 hr'
  refine⟨by simp[h1],fun i a hi=>?_⟩
  cases i with
  | zero=>simp at hi;subst hi;exact⟨b,rfl,hb⟩
  | succ i=>exact h2 i a (by simpa using hi)
theorem LH {w:World}{base n:Nat}{a:Addr}{c:List Value}(h:w.cells? base a n=some c):c.length=n∧∀ (m:Nat) v,c[m]? = some v→cellS (oa w) (a.add m)=some v:=by
 unfold World.cells? at h
 split at h
 ·obtain⟨h1,h2⟩:=p9 h
  rw[List.length_range] at h1
  refine⟨h1,fun m v hm=>?_⟩
  have hlt:m<n:=by rw[← h1];exact (List.getElem?_eq_some_iff.1 hm).1
  obtain⟨b,k1,k2⟩:=h2 m m (by simp[hlt])
  rw[hm] at k1
  cases k1
  exact k2
 ·simp at h
theorem Ki {β:Type}{R:Nat→β→Prop}:∀ (n:Nat),(∀ i,i<n→∃ b,R i b)→∃ l:List β,l.length=n∧∀ (i:Nat) b,l[i]? = some b→R i b
 | 0,_=>⟨[],rfl,fun i b h=>by simp at h⟩
 | n+1,h=>by
  obtain⟨l,h1,h2⟩:=Ki n (fun i hi=>h i (by omega))
  obtain⟨b,hb⟩:=h n (Nat.lt_succ_self n)
  refine⟨l++[b],by simp[h1],fun i c hi=>?_⟩
  by_cases hin:i<l.length
  ·rw[List.getElem?_append_left hin] at hi;exact h2 i c hi
  ·rw[List.getElem?_append_right (by omega)] at hi
   have:i-l.length=0:=by
    rcases Nat.eq_zero_or_pos (i-l.length) with h|h
    ·exact h
    ·rw[dp (by simp;omega)] at hi;simp at hi
   rw[this] at hi
   simp at hi
   subst hi
   rwa [show i=n by omega]
theorem Cm (hl:laidOutB P=true){w:World}{sp:Nat→Bool}{held:Bool}:∀ (n fuel:Nat) (t:TypeId) (cs:List Value) (d:DataW H) (ps:List MemPlace) (ty:Ty),t<P.types.size →
  db enc P w 0 sp held fuel t cs=some (d,ps)→nv P n t=some ty→∃ x:ty.T,Rd (oa w) ty x cs∧Wf ty x
 | 0,fuel,t,cs,d,ps,ty,ht,h,hty=>by simp[nv] at hty
 | n+1,0,t,cs,d,ps,ty,ht,h,hty=>by simp[db] at h
 | n+1,fuel+1,t,cs,d,ps,ty,ht,h,hty=>by
  simp only[nv] at hty
  split at hty
  ·rename_i k hu
   cases hty
   unfold db at h
   rw[hu] at h
   split at h<;>simp only[reduceCtorEq,ba,TypeDesc.int.injEq] at *
   rename_i k' n' hk
   subst hk
   split at h
   ·rename_i hc
    obtain⟨rfl,hw⟩:=hc
    exact⟨n',rfl,hw⟩
   ·simp at h
  ·rename_i hu
   cases hty
   unfold db at h
   rw[hu] at h
   split at h<;>simp only[reduceCtorEq,ba] at *
   rename_i b _
   exact⟨b,rfl,trivial⟩
  ·rename_i hu
   cases hty
   unfold db at h
   rw[hu] at h
   split at h<;>simp only[reduceCtorEq,ba] at *
   rename_i s _
   split at h
   ·rename_i hc;exact⟨s,rfl,hc⟩
   ·simp at h
  ·rename_i e hu
   split at hty
   case h_2=>simp at hty
   rename_i a hte
   cases hty
   have he:=kid_slice hl ht hu
   unfold db at h
   rw[hu] at h
   split at h<;>simp only[reduceCtorEq,ba,TypeDesc.slice.injEq] at *
   ·exact⟨[],⟨none,0,rfl,⟨Nat.le_refl _,fun _=>rfl⟩,fun j x hj=>by simp at hj⟩,by simp[Wf]⟩
   ·rename_i e' ad len cap hee
    cases hee
    split at h
    case isFalse=>simp at h
    rename_i hb
    obtain⟨_,hlc,hcm⟩:=hb
    rw[cn] at h
    obtain⟨elems,hel,_⟩:=h
    obtain⟨g1,g2⟩:=p9 hel
    rw[List.length_range] at g1
    have each:∀ i,i<len→∃ x:a.T,(∃ c,Rd (oa w) a x c∧∀ m v,c[m]? = some v→cellS (oa w) (ad.add (i * a.size+m))=some v)∧Wf a x:=by
     intro i hi
     obtain⟨b,k1,k2⟩:=g2 i i (by simp[hi])
     rw[cn] at k2
     obtain⟨c,q1,q2⟩:=k2
     obtain⟨r1,r2⟩:=LH q1
     obtain⟨x,z1,z2⟩:=Cm hl n fuel e c b.1 b.2 a he q2 hte
     have size:P.cellsOf e=a.size:=by rw[← r1];exact b7 _ _ _ z1
     refine⟨x,⟨c,z1,fun m v hm=>?_⟩,z2⟩
     have:=r2 m v hm
     rw[add_add,size] at this
     exact this
    obtain⟨xs,l1,l2⟩:=Ki len each
    refine⟨xs,⟨some ad,cap,by rw[l1],⟨by omega,fun h=>by simp at h⟩,fun j x hj=>?_⟩,⟨by rw[l1];omega,fun x hx=>?_⟩⟩
    ·obtain⟨⟨c,m1,m2⟩,_⟩:=l2 j x hj
     exact⟨ad,c,rfl,m1,m2⟩
    ·obtain⟨j,hj⟩:=List.getElem?_of_mem hx
     exact (l2 j x hj).2
  ·rename_i fs hu
   obtain⟨s1,s2,s3⟩:=kid_struct hl ht hu
   unfold db at h
   rw[hu] at h
   simp only at h
   split at h
   case isFalse=>simp at h
   rename_i hlen
   rw[Option.map_eq_some_iff] at h
   obtain⟨l,hm,_⟩:=h
   obtain⟨g1,g2⟩:=p9 hm
   have each:∀ f∈fs.toList,∀ ty,nv P n f.type=some ty→∃ x,Rd (oa w) ty x ((cs.drop f.offset).take (P.cellsOf f.type))∧Wf ty x:=by
    intro f hf ty hty
    obtain⟨j,hj⟩:=List.getElem?_of_mem hf
    obtain⟨b,k1,k2⟩:=g2 j f hj
    exact Cm hl n fuel f.type _ b.1 b.2 ty (s1 f hf) k2 hty
   have chain:=Es (S:=oa w) (cs:=cs) fs.toList 0 (fun j f hj=>by rw[s3 j f hj];simp[sizes]) (by rw[hlen,s2];simp[sizes]) each
   rw[List.drop_zero] at chain
   unfold uz at hty
   split at hty
   ·rename_i a hfs
    cases hty
    have:∃ f,fs.toList=[f]:=by
     cases hfl:fs.toList with
     | nil=>rw[hfl] at hfs;simp at hfs
     | cons f r=>cases r with
      | nil=>exact⟨f,rfl⟩
      | cons g r=>rw[hfl] at hfs;simp at hfs
    obtain⟨x,h1,h2⟩:=chain a (by rw[hfs];simp[cC])
    exact⟨x,h1,h2⟩
   ·exact chain ty hty
  ·simp at hty
end
open Go Go.RowKit Go.WideShapes
def Ua:List TypeId→List Ty→Program→Prop
 | [],[],_=>True
 | t::ts,T::Ts,P=>nv P 9 t=some T∧Ua ts Ts P
 | _,_,_=>False
section
variable {P:Program}{H:Type}{enc:TypeId×Value→H}
theorem Gf:∀ {l:List (Option Ty)} {ty:Ty},uz l=some ty→ty.isAgg=true:=by
 intro l ty h
 unfold uz at h
 split at h
 ·cases h;rfl
 ·rename_i hne
  match l,h,hne with
  | [],h,_=>simp[cC] at h
  | [none],h,_=>simp[cC] at h
  | [some a],h,hne=>exact absurd rfl (hne a)
  | none::_::_,h,_=>simp[cC] at h
  | some a::b::r,h,_=>
   simp only[cC] at h
   split at h
   ·cases h;rfl
   ·simp at h
theorem Ii {W:World}{base n:Nat}{t:TypeId}{ty:Ty}{v:Value}(h:nv P n t=some ty)(hv:dt P W .any base t v) :
  (ty.isAgg=true→∃ cs,v = .agg cs)∧(ty.isAgg=false→v.cells.toList=[v]):=by
 cases n with
 | zero=>simp[nv] at h
 | succ n=>
  simp only[nv] at h
  split at h
  ·rename_i k hu
   cases h
   obtain⟨n,rfl⟩:=okWide_int hu hv
   exact⟨fun h=>by simp[Ty.isAgg] at h,fun _=>rfl⟩
  ·rename_i hu
   cases h
   obtain⟨n,rfl⟩:=okWide_bool hu hv
   exact⟨fun h=>by simp[Ty.isAgg] at h,fun _=>rfl⟩
  ·rename_i hu
   cases h
   obtain⟨n,rfl⟩:=okWide_string hu hv
   exact⟨fun h=>by simp[Ty.isAgg] at h,fun _=>rfl⟩
  ·rename_i e hu
   split at h
   ·cases h
    obtain⟨a,l,c,rfl⟩:=okWide_slice hu hv
    exact⟨fun h=>by simp[Ty.isAgg] at h,fun _=>rfl⟩
   ·simp at h
  ·rename_i fs hu
   obtain⟨cs,rfl,_⟩:=okWide_struct hu hv
   exact⟨fun _=>⟨cs,rfl⟩,fun h0=>by rw[Gf h] at h0;simp at h0⟩
  ·simp at h
theorem Kt (hl:laidOutB P=true){W:World}{base:Nat}:∀ {ts:List TypeId} {Ts:List Ty} {vs:List Value} {ds:List (DataW H)} {ps:List MemPlace},
  bm enc P W 0 (fun _=>true) true ts vs ds ps→(∀ (j:Nat) t v,ts[j]? = some t→vs[j]? = some v→dt P W .any base t v) →
  (∀ t∈ts,t<P.types.size)→Ua ts Ts P→∃ x:dQ Ts,iB (oa W) Ts x vs∧CF Ts x
 | [],[],[],[],ps,h,_,_,_=>⟨(),rfl,trivial⟩
 | t::ts,T::Ts,v::vs,d::ds,ps,h,hv,ht,hd=>by
  obtain⟨p,q,⟨fuel,h1⟩,h2,rfl⟩:=h
  obtain⟨y,k1,k2⟩:=Kt hl h2 (fun j t v=>hv (j+1) t v) (fun t h=>ht t (by simp[h])) hd.2
  obtain⟨x,m1,m2⟩:=Cm hl 9 fuel t _ d p T (ht t (by simp)) h1 hd.1
  obtain⟨s1,s2⟩:=Ii hd.1 (hv 0 t v rfl rfl)
  refine⟨(x,y),⟨v,vs,rfl,?_,k1⟩,m2,k2⟩
  unfold Mr
  cases ha:T.isAgg with
  | true=>
   obtain⟨cs,rfl⟩:=s1 ha
   exact⟨cs,rfl,m1⟩
  | false=>
   rw[s2 ha] at m1
   exact m1
 | [],[],_::_,_,_,h,_,_,_=>by cases h
 | [],[],[],_::_,_,h,_,_,_=>by cases h
 | _::_,_::_,[],_,_,h,_,_,_=>by cases h
 | _::_,_::_,_::_,[],_,h,_,_,_=>by cases h
 | [],_::_,_,_,_,_,_,_,hd=>by cases hd
 | _::_,[],_,_,_,_,_,_,hd=>by cases hd
theorem pz {W:World}{sp:Nat→Bool}{held:Bool}:∀ {ts:List TypeId} {vs:List Value} {ds:List (DataW H)} {ps:List MemPlace},
  bm enc P W 0 sp held ts vs ds ps→∀ x∈ps,x.block<W.heap.size
 | [],[],[],ps,h,x,hx=>by cases h;simp at hx
 | t::ts,v::vs,d::ds,ps,h,x,hx=>by
  obtain⟨p,q,⟨m,hm⟩,h2,rfl⟩:=h
  rcases dk.1 hx with hx|hx
  ·exact DataW.trod_lt m _ _ _ hm x hx
  ·exact pz h2 x hx
 | [],[],_::_,_,h,_,_=>by cases h
 | [],_::_,_,_,h,_,_=>by cases h
 | _::_,[],_,_,h,_,_=>by cases h
 | _::_,_::_,[],_,h,_,_=>by cases h
theorem KY [aq]{k:FuncId}{Ts:List Ty}{f:dQ Ts→Option (zu [.val .bool])}{W:World}{base:Nat}{ts:List TypeId}{args:Array Value}{ds:List (DataW H)}{ps:List MemPlace}
  (hl:laidOutB P=true) (hc:(aX.mk Ts [.val .bool] f).OK P k) (hg:aq.pre (oa W))
  (h:bm enc P W 0 (fun _=>true) true ts args.toList ds ps) (hv:∀ (j:Nat) t v,ts[j]? = some t→args.toList[j]? = some v→dt P W .any base t v)
  (ht:∀ t∈ts,P.readableRec t=true∧t<P.types.size) (hd:Ua ts Ts P) (hp:∀ x:dQ Ts,CF Ts x→f x=some (true,())) :
  Calls P k args W fun e W'=>e = .returned (.bool true)∧Below W.heap.size W W'∧bm enc P W' 0 (fun b=>decide (b<W.heap.size)) true ts args.toList ds ps:=by
 obtain⟨x,h1,h2⟩:=Kt hl h hv (fun t h=>(ht t h).2) hd
 have:=hc x (true,()) (hp x h2) (oa W) W args.toList (fun b o h=>h) hg h1
 rw[Array.toArray_toList] at this
 refine this.mono ?_
 rintro e W' ⟨us,S',os,rfl,hb,_,_,_,hres,_⟩
 obtain⟨v,r,o,p,rfl,_,hv',hr'⟩:=hres
 obtain⟨rfl,_⟩:=hr'
 refine⟨?_,hb,yh hl hb ht h (pz h) _ (fun x hx=>decide_eq_true (pz h x hx))⟩
 unfold lz at hv'
 simp only[eG.isAgg,Ty.isAgg,aw,if_false,Mq,Rd] at hv'
 obtain⟨h,_⟩:=hv'
 cases h
 rfl
end
open Go Go.RowKit Go.WideShapes Go.ChangeShapes
theorem Eg {H:Type}{enc:TypeId×Value→H}{P:Program}{W:World}{b:Nat}{sp:Nat→Bool}{held:Bool}:∀ {ts:List TypeId} {vs:List Value} {ds:List (DataW H)} {ps:List MemPlace},
  bm enc P W b sp held ts vs ds ps→ds.length=ts.length
 | [],[],[],_,_=>rfl
 | _::ts,_::vs,_::ds,_,h=>by obtain⟨p,q,_,h2,_⟩:=h;simp[Eg h2]
 | [],[],_::_,_,h=>by cases h
 | [],_::_,_,_,h=>by cases h
 | _::_,[],_,_,h=>by cases h
 | _::_,_::_,[],_,h=>by cases h
theorem DV [aq]{H:Type}{enc:TypeId×Value→H}{C:Checked}{os:Os}{k:FuncId}{fn:Func}{s:ChangeSpec}{Ts:List Ty}{F:dQ Ts→Option (zu [.val .bool])}{ts:List TypeId}{tb:TypeId}
  (own:ownKnob C.prog.godebug=none) (started:os.Started) (noInit:C.prog.inits.idxOf? k=none) (hfn:C.prog.funcs[k]? = some fn)
  (witness:∃ (w:World) (tape:Tape) (i:Input),w.os=os∧(w.forCall tape i).Shaped C.prog∧i.vars=[]∧Input.okWide C.prog (w.forCall tape i) .any w.heap.size k i ∧
   s.pre6 enc C.prog fn [] false (w.forCall tape i).memory i.args∧({}:Assume).holds C.prog (lone (Frame.enter C.prog k i.args .normal) [] (w.forCall tape i)))
  (hg:∀ (W:World),W.ShapedOpen C.prog→aq.pre (oa W))
  (hl:laidOutB C.prog=true) (hc:(aX.mk Ts [.val .bool] F).OK C.prog k)
  (hps:fn.params=ts.toArray) (hrs:fn.resultTypes = #[tb]) (hb:C.prog.underlying tb=some .bool)
  (ht:∀ t∈ts,C.prog.readableRec t=true∧t<C.prog.types.size) (hd:Ua ts Ts C.prog)
  (hv:s.vars=[]) (hs:∀ ds:List (DataW H),ds.length=ts.length→s.fn H ds={ results:=[.lit (.bool true)],args:=ds })
  (hp:∀ x:dQ Ts,CF Ts x→F x=some (true,())) :
  ReturnsInHanded {} C os k .any (s.pre6 enc C.prog fn [] false) (s.post enc C.prog fn false true false false):=by
 refine returnsInHanded_of_calls own started noInit witness ?_
 intro w tape i _ hsh _ hok hpre hholds
 obtain⟨_,_,_,fn',hfn',_,_,_,_,hval⟩:=hok
 have e:fn'=fn:=Option.some.inj (hfn'.symm.trans hfn)
 subst e
 obtain⟨⟨ds,gs,before,hw,_⟩,_⟩:=hpre
 have hw':=DataW.Whole.of_heap (w':=w.forCall tape i) (by rfl) hw
 have hW:=hw'
 obtain⟨p,q,hA,hV,rfl,_,_⟩:=hw'
 rw[hv] at hV
 obtain⟨rfl,rfl⟩:=trodVars_none hV
 have hpl:fn'.params.toList=ts:=by rw[hps]
 rw[hpl] at hA
 have hlen:=Eg hA
 refine (KY (enc:=enc) hl hc (hg _ hsh) hA (fun j t v h1 h2=>hval j t v (by rw[hps];simpa using h1) (by simpa using h2)) ht hd hp).mono ?_
 rintro e W' ⟨rfl,bel,back⟩
 refine ChangeSpec.post_blind ?_
 refine⟨ds,[],_,[],p,[],hW,?_,?_,?_,bel.frame _,fun h=>by cases h⟩
 ·rw[bi,hs ds hlen,hrs];exact trodAll_mk1 (shut_bool hb true)
 ·rw[bi,hs ds hlen,hpl];exact back
 ·rw[bi,hs ds hlen,hv];rfl
section
variable [aq]{P:Program}{C:Cons}{Sm:oS}{lf:Nat}{w w0:World}{μ:Mu}{S:ar}{H:Heap}{B:Nat}
end
end Go.Sy
