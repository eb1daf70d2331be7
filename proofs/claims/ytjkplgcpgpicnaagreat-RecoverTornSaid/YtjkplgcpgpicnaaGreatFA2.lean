/- Sym6, Sym7, Sym8, Sym8b. -/
import Derived.Test.YtjkplgcpgpicnaaGreatFA
namespace Go.Sy
open Go Go.RowKit
set_option linter.unusedSimpArgs false
set_option linter.unusedVariables false
section
variable [aq]{P:Program}{w w0:World}{μ:Mu}{S:ar}{H Hh:Heap}{B:Nat}
theorem tE (sub:∀ i o,Hh i=some o→H i=some o)(R:Rel μ S H B w0 w){t ty:TypeId}{x:AV}{v:Value}{out:Out}(hx:VR μ S H x v)(h:Jg P Hh t x=some out) :
  bP P w w0 μ S H B (do pure (.value (← Builtin.len_ #[t] ty #[v]))) out:=by
 unfold Jg at h
 split at h
 ·simp only[VR] at hx;subst hx
  split at h
  ·rename_i ht;cases h
   exact aE R (by simp[Builtin.len_,aO ht,goInt];rfl) (by simp only[Out.res,VR])
  ·simp at h
 ·rename_i e xs
  simp only[VR,Rd] at hx
  obtain⟨ao,cap,e1,h2,h3⟩:=hx
  cases e1
  split at h
  ·rename_i _ ht;cases h
   exact aE R (by simp[Builtin.len_,aO ht,goInt];rfl) (by simp only[Out.res,VR])
  ·simp at h
 ·rename_i j g
  split at h
  ·rename_i _ _ t' e g' xs ht hH
   obtain⟨hg,rfl⟩:=ai h
   have hgg:=Nat.eq_of_beq_eq_true hg
   simp only[VR] at hx
   obtain⟨_,l,hm,h2⟩:=hx
   have hv:=(h2 _ _ _ _ (sub _ _ hH)).2 hgg
   subst hv
   exact aE R (by simp[Builtin.len_,aO ht,goInt];rfl) (by simp only[Out.res,VR])
  ·simp at h
 ·simp only[VR] at hx;subst hx
  split at h
  ·rename_i _ ht;cases h
   exact aE R (by simp[Builtin.len_,aO ht,goInt];rfl) (by simp only[Out.res,VR])
  ·simp at h
 ·simp at h
omit [aq] in
theorem tG {ρa:Operand→AV}{ρ:Operand→Value}(hρ:∀ x,VR μ S H (ρa x) (ρ x)):∀ (l:List Operand),aH μ S H (l.map ρa) (l.map ρ)
 | []=>by simp[aH]
 | x::l=>by simp only[List.map_cons,aH];exact⟨ρ x,_,rfl,hρ x,tG hρ l⟩
def IM (P:Program)(μ:Mu)(w:World):Callee→Array Value→Result Next→Prop
 | .fn k,us,r=>r = .ok (.enter k us) w
 | .ja i,us,r=>∃ b c,μ i=some ⟨some b,c,aV⟩∧r=(Instr.yield b us).run P w
omit [aq] in
theorem K4 {f:AV}{fv:Value}{args:List AV}{vs:List Value}{k:Callee}{as:List AV}{ty:TypeId}(hf:VR μ S H f fv)(ha:aH μ S H args vs)
  (h:xP P f args=some (.call k as)) :
  ∃ us:Array Value,IM P μ w k us ((do let d ← Deferred.ofValue fv vs.toArray;invoke d.target d.args:Sem Next).run P w)∧aH μ S H as us.toList:=by
 unfold xP at h
 split at h
 ·rename_i k' first caps
  split at h
  ·rename_i fn hfn
   split at h
   ·rename_i b hb
    cases hn:fn.name == "runtime.NumGoroutine" with
    | true=>rw[hn] at h;simp at h
    | false=>
     rw[hn] at h
     simp only[cond_false,Option.some.injEq,Out.call.injEq] at h
     obtain⟨rfl,rfl⟩:=h
     simp only[VR] at hf
     obtain⟨x,y,rfl,h1,h2⟩:=hf
     refine⟨x++vs.toArray++y,?_,?_⟩
     ·show _=_
      simp only[Deferred.ofValue,Sem.run_bind,Sem.run_pure,Result.andThen_ok,invoke,callFunc,run_program,hfn,hn,Bool.false_eq_true,if_false,hb,Option.isNone_some]
     ·simp only[Array.toList_append]
      exact cg (cg h1 ha) h2
   ·simp at h
  ·simp at h
 ·simp only[Option.some.injEq,Out.call.injEq] at h
  obtain⟨rfl,rfl⟩:=h
  simp only[VR] at hf
  obtain⟨b,c,h1,_,rfl⟩:=hf
  refine⟨vs.toArray,⟨b,c,h1,?_⟩,by simpa using ha⟩
  simp[Deferred.ofValue,invoke]
 ·simp at h
theorem tX (sub:∀ i o,Hh i=some o→H i=some o)(R:Rel μ S H B w0 w){ρa:Operand→AV}{ρ:Operand→Value}(hρ:∀ x,VR μ S H (ρa x) (ρ x))
  {id:Nat} {o:Oper} {out:Out} (h:sem P Hh id o ρa=some out) (hk:out.ok=true) (hf:out.fresh H=true) :
  bP P w w0 μ S H B (execOp ρ o) out:=by
 obtain⟨dst,op,ty,pos,af,gd⟩:=o
 unfold sem at h
 cases op<;>simp only[reduceCtorEq] at h
 case move x=>cases h;exact⟨_,_,w,μ,rfl,.inl rfl,R,Ext.refl,hρ x⟩
 case assign x=>cases h;exact⟨_,_,w,μ,rfl,.inl rfl,R,Ext.refl,hρ x⟩
 case pick c a b=>
  split at h
  ·rename_i t hc
   cases h
   have hcv:=hρ c
   rw[hc] at hcv
   simp only[VR] at hcv
   refine⟨.value (if t then ρ a else ρ b),_,w,μ,?_,.inl rfl,R,Ext.refl,?_⟩
   ·simp only[execOp,hcv,asBool,Sem.run_bind,Sem.run_pure,Result.andThen_ok]
   ·cases t
    ·exact hρ b
    ·exact hρ a
  ·simp at h
 case alloc t=>exact Jm R h hf
 case box t x=>exact PD R (hρ x) h hf
 case load t a=>exact OW sub R (hρ a) h hk
 case store t a x=>exact JT sub R (hρ a) (hρ x) h hk
 case fieldAddr s x f=>exact JB sub R (hρ x) h
 case field s x f=>exact Mc R (hρ x) h
 case nilCheck x=>exact Qn sub R (hρ x) h
 case binOp op t x y yt=>exact PU R (hρ x) (hρ y) h hk
 case unOp op t x=>exact VG R (hρ x) h
 case makeInterface t x=>exact Q9 R (hρ x) h
 case typeAssert x s t ok=>exact FL R (hρ x) h
 case convert s d x=>
  have hx:=hρ x
  split at h
  ·rename_i v hv
   rw[hv] at hx
   exact O9 R hx h
  ·exact PW sub R hx h
 case build t parts=>
  have e:parts.map (fun (i,x)=>(i,ρ x))=(parts.toList.map fun p=>(p.1,ρ p.2)).toArray:=by apply Array.ext';simp
  have:=Iu R hρ h
  rw[← e] at this
  exact this
 case buildSlice t n parts=>
  have e:parts.map (fun (i,x)=>(i,ρ x))=(parts.toList.map fun p=>(p.1,ρ p.2)).toArray:=by apply Array.ext';simp
  have:=uZ R hρ h hf
  rw[← e] at this
  exact this
 case makeSlice t l c=>exact NF R (hρ l) (hρ c) h hk hf
 case slice t x lo hi mx=>exact Fp sub R hρ h hk
 case range t x=>exact JL R (hρ x) h hf
 case next x s=>exact Ma sub R (hρ x) h
 case extract t i=>exact RN R (hρ t) h
 case index t x i=>exact Ix R (hρ x) (hρ i) h hk
 case makeMap t r=>
  cases r with
  | none=>exact Dn R h hf
  | some _=>simp at h
 case mapEntry t m k=>exact Be sub R (hρ m) (hρ k) h
 case mapUpdate t m k x=>exact wF sub R (hρ m) (hρ k) (hρ x) h
 case entryStore t m s x=>exact uW sub R (hρ m) (hρ s) (hρ x) h hk
 case lookup t x k ok=>exact FF sub R (hρ x) (hρ k) h
 case indexAddr t x i=>exact RA sub R (hρ x) (hρ i) h hk
 case makeFunc fn first caps=>
  cases h
  refine⟨.value (.func fn (first.map ρ) (caps.map ρ)),_,w,μ,rfl,.inl rfl,R,Ext.refl,?_⟩
  simp only[Out.res,Out.heap,VR]
  exact⟨_,_,rfl,by simpa using tG hρ first.toList,by simpa using tG hρ caps.toList⟩
 case call c=>
  obtain⟨callee,args,argTypes⟩:=c
  simp only at h
  split at h
  ·split at h
   ·rename_i t x ht hx
    have e1:argTypes = #[t]:=by apply Array.ext';simpa using ht
    have e2:args = #[x]:=by apply Array.ext';simpa using hx
    subst e1 e2
    obtain⟨n,u,w',μ',k1,k2⟩:=Oz (ty:=ty) (tE:=fun hx h=>tE sub R hx h) sub R (hρ x) h
    refine⟨n,u,w',μ',?_,k2⟩
    rw[← k1]
    have e:(#[x]:Array Operand).map ρ = #[ρ x]:=by simp
    simp only[execOp,resolve,e,Sem.run_bind,Sem.run_pure,Result.andThen_ok,invoke,builtin]
   ·simp at h
  ·split at h
   ·rename_i t x ht hx
    have e1:argTypes = #[t]:=by apply Array.ext';simpa using ht
    have e2:args = #[x]:=by apply Array.ext';simpa using hx
    subst e1 e2
    obtain⟨n,u,w',μ',k1,k2⟩:=Iz (P:=P) (ty:=ty) sub R (hρ x) h
    refine⟨n,u,w',μ',?_,k2⟩
    rw[← k1]
    have e:(#[x]:Array Operand).map ρ = #[ρ x]:=by simp
    simp only[execOp,resolve,e,Sem.run_bind,Sem.run_pure,Result.andThen_ok,invoke,builtin]
   ·simp at h
  ·split at h
   ·rename_i t u x y ht hx
    obtain⟨htu,h2⟩:=az h
    have htu:=Nat.eq_of_beq_eq_true htu
    subst htu
    have e1:argTypes = #[t,t]:=by apply Array.ext';simpa using ht
    have e2:args = #[x,y]:=by apply Array.ext';simpa using hx
    subst e1 e2
    obtain⟨n,u,w',μ',k1,k2⟩:=Dg (P:=P) (ty:=ty) sub R (hρ x) (hρ y) h2 hk hf
    refine⟨n,u,w',μ',?_,k2⟩
    rw[← k1]
    have e:(#[x,y]:Array Operand).map ρ = #[ρ x,ρ y]:=by simp
    simp only[execOp,resolve,e,Sem.run_bind,Sem.run_pure,Result.andThen_ok,invoke,builtin]
   ·simp at h
  ·split at h
   ·rename_i x y hx
    have e2:args = #[x,y]:=by apply Array.ext';simpa using hx
    subst e2
    have hx:=hρ x
    have hy:=hρ y
    unfold PJ at h
    split at h
    ·rename_i k a k' b ha hb
     rw[ha] at hx
     rw[hb] at hy
     simp only[VR] at hx hy
     obtain⟨hk',rfl⟩:=ai h
     refine⟨.value (.int k (sS a b)),_,w,μ,?_,.inl rfl,R,Ext.refl,by simp only[Out.res,VR]⟩
     have e:(#[x,y]:Array Operand).map ρ = #[ρ x,ρ y]:=by simp
     simp only[execOp,resolve,e,hx,hy,Sem.run_bind,Sem.run_pure,Result.andThen_ok,invoke,builtin,Builtin.min_,List.foldlM_cons,List.foldlM_nil,Builtin.min2]
     by_cases hlt:b<a<;>simp[sS,hlt]
    ·simp at h
   ·simp at h
  ·split at h
   ·rename_i x y hx
    have e2:args = #[x,y]:=by apply Array.ext';simpa using hx
    subst e2
    have hx:=hρ x
    have hy:=hρ y
    unfold Pt at h
    split at h
    ·rename_i k a k' b ha hb
     rw[ha] at hx
     rw[hb] at hy
     simp only[VR] at hx hy
     obtain⟨hk',rfl⟩:=ai h
     refine⟨.value (.int k (mxI a b)),_,w,μ,?_,.inl rfl,R,Ext.refl,by simp only[Out.res,VR]⟩
     have e:(#[x,y]:Array Operand).map ρ = #[ρ x,ρ y]:=by simp
     simp only[execOp,resolve,e,hx,hy,Sem.run_bind,Sem.run_pure,Result.andThen_ok,invoke,builtin,Builtin.max_,List.foldlM_cons,List.foldlM_nil,Builtin.max2]
     by_cases hlt:a<b<;>simp[mxI,hlt]
    ·simp at h
   ·simp at h
  ·unfold xP at h
   split at h
   ·split at h
    ·split at h
     ·rename_i fn _ _ _ _
      cases hn:fn.name == "runtime.NumGoroutine" with
      | true=>rw[hn] at h;simp at h
      | false=>rw[hn] at h;simp only[cond_false,Option.some.injEq] at h;subst h;simp[Out.ok] at hk
     ·simp at h
    ·simp at h
   ·simp only[Option.some.injEq] at h;subst h;simp[Out.ok] at hk
   ·simp at h
  ·simp at h
omit [aq] in
theorem oZ {id t n:Nat}{parts:List (Nat×AV)}{k:Callee}{as:List AV}{Q:Prop}(h:dZ P id t n parts=some (.call k as)):Q:=by
 unfold dZ at h
 split at h
 case h_2=>simp at h
 split at h
 case h_3=>simp at h
 case h_1=>
  split at h
  case h_2=>simp at h
  split at h
  case h_2=>simp at h
  have h:=(az h).2
  split at h
  case h_2=>simp at h
  split at h<;>simp at h
 case h_2=>
  split at h
  case h_2=>simp at h
  split at h
  case h_2=>simp at h
  have h:=(az h).2
  split at h<;>simp at h
omit [aq] in
theorem wz {id t:Nat}{s x:AV}{k:Callee}{as:List AV}{Q:Prop}(h:iy P Hh id t s x=some (.call k as)):Q:=by
 unfold iy at h
 split at h
 case h_2=>simp at h
 split at h
 case h_2=>simp at h
 split at h
 case h_2=>simp at h
 split at h
 case h_2=>simp at h
 have h:=(az h).2
 (repeat' split at h)<;>first|(simp at h;done)|(have:=(ai h).2;simp at this)
omit [aq] in
theorem AQ {t:TypeId}{a:AV}{k:Callee}{as:List AV}{Q:Prop}(h:jZ P Hh t a=some (.call k as)):Q:=by
 unfold jZ at h
 split at h
 ·(repeat' split at h)<;>simp at h
 ·split at h
  ·have h:=(az h).2
   split at h<;>simp at h
  ·simp at h
 ·simp at h
omit [aq] in
theorem wj {t:TypeId}{a x:AV}{k:Callee}{as:List AV}{Q:Prop}(h:kF P Hh t a x=some (.call k as)):Q:=by
 unfold kF at h
 (repeat' split at h)<;>first|(simp at h;done)|(have:=(ai h).2;simp at this)
omit [aq] in
theorem DO {t i q m a b:Nat}{lo hi mx:Option AV}{k:Callee}{as:List AV}{Q:Prop}(h:vg P Hh t i q m a b lo hi mx=some (.call k as)):Q:=by
 unfold vg at h
 (repeat' split at h)<;>first|(simp at h;done)|(have:=(ai h).2;simp at this)
omit [aq] in
theorem BC {t i q m a b:Nat}{hi:AV}{k:Callee}{as:List AV}{Q:Prop}(h:vF P Hh t i q m a b hi=some (.call k as)):Q:=by
 unfold vF at h
 (repeat' split at h)<;>first|(simp at h;done)|(have:=(ai h).2;simp at this)
omit [aq] in
theorem um {t i q m a b:Nat}{x:AV}{k:Callee}{as:List AV}{Q:Prop}(h:gX P Hh t i q m a b x=some (.call k as)):Q:=by
 unfold gX at h
 (repeat' split at h)<;>first|(simp at h;done)|(have:=(ai h).2;simp at this)
omit [aq] in
theorem uM {id t:Nat}{s x:AV}{k:Callee}{as:List AV}{Q:Prop}(h:fN P Hh id t s x=some (.call k as)):Q:=by
 unfold fN at h
 split at h
 case h_3=>exact wz h
 case h_2=>exact um h
 (repeat' split at h)<;>first|(simp at h;done)|(have:=(ai h).2;simp at this)
omit [aq] in
theorem qx {ρa:Operand→AV}{ρ:Operand→Value}(hρ:∀ x,VR μ S H (ρa x) (ρ x))
  {id:Nat} {o:Oper} {k:Callee} {as:List AV} (h:sem P Hh id o ρa=some (.call k as)) :
  ∃ us:Array Value,IM P μ w k us ((execOp ρ o).run P w)∧aH μ S H as us.toList:=by
 obtain⟨dst,op,ty,pos,af,gd⟩:=o
 unfold sem at h
 cases op<;>simp only[reduceCtorEq,Option.some.injEq] at h
 case pick c a b=>split at h<;>simp at h
 case alloc t=>unfold ve at h;(repeat' split at h)<;>simp at h
 case box t x=>unfold O8 at h;(repeat' split at h)<;>simp at h
 case load t a=>
  unfold xC at h;(repeat' split at h)<;>first|(simp at h;done)|exact AQ h|skip
  all_goals (rename_i g _ _ _ _ _ _ _;have:=(ai h).2;simp at this)
 case store t a x=>
  unfold nH at h;(repeat' split at h)<;>first|(simp at h;done)|exact wj h|(have:=(ai h).2;simp at this)
 case build t parts=>exact absurd h (by unfold u6;(repeat' split)<;>simp)
 case buildSlice t n parts=>exact oZ h
 case makeSlice t l c=>unfold Ci at h;(repeat' split at h)<;>first|(simp at h;done)|(have:=(ai h).2;simp at this)
 case slice t x lo hi mx=>
  unfold pK JH py qX at h
  (repeat' split at h)<;>first|(simp at h;done)|exact BC h|exact DO h|(have:=(ai h).2;simp at this)
 case range t x=>unfold vI at h;(repeat' split at h)<;>simp at h
 case next x s=>unfold Df at h;(repeat' split at h)<;>simp at h
 case fieldAddr s x f=>
  unfold nK at h
  split at h
  ·split at h
   ·split at h
    ·rename_i ti _
     cases h0:Nat.beq ti.size 0<;>rw[h0] at h<;>simp at h
     split at h<;>first|(simp at h;done)|skip
     all_goals (split at h<;>first|(simp at h;done)|(have:=(ai h).2;simp at this))
    ·simp at h
   ·simp at h
  ·simp at h
 case field s x f=>unfold wH at h;(repeat' split at h)<;>simp at h
 case nilCheck x=>unfold I1 at h;(repeat' split at h)<;>first|(simp at h;done)|(have:=(ai h).2;simp at this)
 case binOp op t x y yt=>
  unfold Jr at h;split at h
  ·split at h<;>simp at h
  ·have h:=(cq h).2
   (repeat' split at h)<;>simp at h
  ·(repeat' split at h)<;>simp at h
  ·simp at h
 case unOp op t x=>unfold W4 at h;(repeat' split at h)<;>simp at h
 case makeInterface t x=>unfold Mr at h;have:=(ai h).2;simp at this
 case typeAssert x s t ok=>unfold oW at h;(repeat' split at h)<;>first|(simp at h;done)|(have:=(ai h).2;simp at this)
 case convert s d x=>
  split at h
  ·unfold Ck at h;(repeat' split at h)<;>simp at h
  ·unfold IK at h;(repeat' split at h)<;>simp at h
 case extract t i=>unfold IU at h;(repeat' split at h)<;>simp at h
 case index t x i=>unfold rI at h;(repeat' split at h)<;>simp at h
 case makeMap t r=>
  unfold pW at h
  (repeat' split at h)<;>first|(simp at h;done)|(have:=(ai h).2;simp at this)
 case mapEntry t m k=>unfold js at h;(repeat' split at h)<;>first|(simp at h;done)|(have:=(ai h).2;simp at this)
 case mapUpdate t m k x=>unfold gD at h;(repeat' split at h)<;>first|(simp at h;done)|(have:=(ai h).2;simp at this)
 case entryStore t m s x=>unfold fR at h;(repeat' split at h)<;>simp at h
 case lookup t x k ok=>unfold pZ at h;(repeat' split at h)<;>first|(simp at h;done)|(have:=(ai h).2;simp at this)
 case indexAddr t x i=>unfold BS WO at h;(repeat' split at h)<;>first|(simp at h;done)|(have:=(ai h).2;simp at this)
 case call c=>
  obtain⟨callee,args,argTypes⟩:=c
  simp only at h
  split at h
  ·split at h
   ·unfold Cq Jg at h;(repeat' split at h)<;>first|(simp at h;done)|(have:=(ai h).2;simp at this)
   ·simp at h
  ·split at h
   ·unfold uB at h;(repeat' split at h)<;>first|(simp at h;done)|(have:=(ai h).2;simp at this)
   ·simp at h
  ·split at h
   ·exact uM (az h).2
   ·simp at h
  ·unfold PJ at h;(repeat' split at h)<;>first|(simp at h;done)|(have:=(ai h).2;simp at this)
  ·unfold Pt at h;(repeat' split at h)<;>first|(simp at h;done)|(have:=(ai h).2;simp at this)
  ·rename_i f
   have:=K4 (w:=w) (ty:=ty) (hρ f) (tG hρ args.toList) h
   obtain⟨us,h1,h2⟩:=this
   refine⟨us,?_,h2⟩
   have e:(args.toList.map ρ).toArray=args.map ρ:=by apply Array.ext';simp
   rw[e] at h1
   exact h1
  ·simp at h
end
@[reducible] def PF:Bool→gv
 | true=>.gF 0
 | false=>.own
inductive dM where
 | val (t:Ty)
 | own (te:TypeId) (e:Ty)
 | pair (a b:dM)
 | one (a:dM)
 | any
 | deep (te ti:TypeId) (ln:Bool)
@[reducible] def dM.T:dM→Type
 | .val t=>t.T
 | .own _ e=>List e.T
 | .pair a b=>a.T×b.T
 | .one a=>a.T
 | .any=>Unit
 | .deep _ _ _=>List FT
@[reducible] def cS:List Ty→Type
 | []=>Unit
 | t::ts=>t.T×cS ts
@[reducible] def xp:List dM→Type
 | []=>Unit
 | t::ts=>t.T×xp ts
def dM.isAgg:dM→Bool
 | .val t=>t.isAgg
 | .own _ _=>false
 | .any=>false
 | .deep _ _ _=>false
 | _=>true
def Ty.flat:Ty→Bool
 | .row _=>false
 | .pair a b=>a.flat&&b.flat
 | .one a=>a.flat
 | _=>true
def dM.flat:dM→Bool
 | .val t=>t.flat
 | .own _ e=>e.flat
 | .any=>true
 | .deep _ _ ln=>!ln
 | .pair a b=>a.flat&&b.flat
 | .one a=>a.flat
def Cc:List dM→Bool
 | []=>true
 | t::ts=>t.flat&&Cc ts
inductive zy where
 | row (te:TypeId) (e:Ty) (xs:List e.T)
 | deep (te ti:TypeId) (ln:Bool) (xs:List FT)
def zy.H:zy→aR
 | .row te e xs=>.row te e 0 xs
 | .deep te ti ln xs=>.aM te ti 0 xs (PF ln)
def zy.flat:zy→Bool
 | .row _ e _=>e.flat
 | .deep _ _ ln _=>!ln
structure fD where
 loc:Lc
 o:zy
def J2 (S:ar)(t:Ty)(x:t.T)(v:Value):Prop:=
 if t.isAgg then ∃ cs,v = .agg cs∧Rd S t x cs.toList else Rd S t x [v]
def gG (S:ar):(ps:List Ty)→cS ps→List Value→Prop
 | [],_,vs=>vs=[]
 | t::ts,x,vs=>∃ v r,vs=v::r∧J2 S t x.1 v∧gG S ts x.2 r
def J0 (S:ar):(t:dM)→t.T→List Value→List fD→Prop
 | .val t,x,cs,os=>Rd S t x cs∧os=[]
 | .own te e,xs,cs,os=>∃ l:Lc,cs=[.slice l.addr (List.length xs) l.cap]∧os=[⟨l,.row te e xs⟩]
 | .pair a b,x,cs,os=>∃ c d o p,cs=c++d∧os=o++p∧J0 S a x.1 c o∧J0 S b x.2 d p
 | .one a,x,cs,os=>J0 S a x cs os
 | .any,_,cs,os=>(∃ v,cs=[v]∧v.oneCell'=true)∧os=[]
 | .deep te ti ln,xs,cs,os=>∃ l:Lc,cs=[.slice l.addr (List.length xs) l.cap]∧os=[⟨l,.deep te ti ln xs⟩]
def jY (S:ar)(t:dM)(x:t.T)(v:Value)(os:List fD):Prop:=
 if t.isAgg then ∃ cs,v = .agg cs∧J0 S t x cs.toList os else J0 S t x [v] os
def Cr (S:ar):(rs:List dM)→xp rs→List Value→List fD→Prop
 | [],_,vs,os=>vs=[]∧os=[]
 | t::ts,x,vs,os=>∃ v r o p,vs=v::r∧os=o++p∧jY S t x.1 v o∧Cr S ts x.2 r p
def fS (S:ar)(w:World)(B:Nat)(o:fD):Prop:=
 match o.o with
 | .row te e xs=>o.loc.cD=aV∧gZ S w B o.loc te e xs
 | .deep te ti ln xs=>cN S w B o.loc te ti xs (PF ln)
def zG (o p:fD):Prop:=∀ b,o.loc.has b→¬ p.loc.has b
def iX:List Value→Value
 | [v]=>v
 | vs=>.tuple vs.toArray
structure aS where
 ps:List Ty
 rs:List dM
 f:cS ps→Option (xp rs)
def aS.OK [aq](P:Program)(k:FuncId)(c:aS):Prop:=
 ∀ x y,c.f x=some y→∀ (S:ar) (w:World) (vs:List Value),(∀ b o,S b=some o→w.heap[b]? = some o)→aq.pre S→gG S c.ps x vs →
  Calls P k vs.toArray w fun e w'=>∃ us S' os,e = .returned (iX us)∧Below w.heap.size w w'∧(∀ b o,S b=some o→S' b=some o) ∧
   (∀ b o,S' b=some o→w'.heap[b]? = some o)∧(∀ b,S' b≠none→S b≠none∨w.heap.size≤b)∧Cr S' c.rs y us os ∧
   (∀ o∈os,fS S' w' w.heap.size o)∧os.Pairwise zG
def Va (H:Heap)(t:Ty)(a:AV):Option t.T:=cond (t.isAgg == a.isAgg) (nW H t a.inside) none
def ct (H:Heap):(ps:List Ty)→List AV→Option (cS ps)
 | [],[]=>some ()
 | t::ts,a::as=>match Va H t a with
  | some x=>match ct H ts as with
   | some y=>some (x,y)
   | none=>none
  | none=>none
 | _,_=>none
section
variable [aq]{P:Program}{w w' w0:World}{μ:Mu}{S S':ar}{H Hh:Heap}{B:Nat}
def nr (w:World):ar:=fun b=>w.heap[b]?
omit [aq] in
theorem jg (hst:∀ b o,S b=some o→S' b=some o){l:Lc}{t:TypeId}{e:Ty}{xs:List e.T}(hne:∀ b,l.blk=some b→S' b=w.heap[b]?)(h2:gZ S w B l t e xs):Rd S' (.row e) xs [.slice l.addr xs.length l.cap]:=by
 refine⟨l.addr,l.cap,rfl,⟨h2.1.1,fun ha=>?_⟩,fun j x hj=>?_⟩
 ·rcases h2.2 with h3|⟨b,cs,e1,_⟩
  ·exact h3.2
  ·simp[Lc.addr,e1] at ha
 rcases h2.2 with h3|⟨b,cs,e1,_,_,h4,_,h6⟩
 ·have hlt:j<xs.length:=by
   rcases Nat.lt_or_ge j xs.length with h|h
   ·exact h
   ·rw[List.getElem?_eq_none h] at hj;simp at hj
  have:=h2.1.1;omega
 ·obtain⟨c,k1,k2⟩:=h6 j x hj
  refine⟨⟨b,0,none⟩,c,by simp[Lc.addr,e1],dn hst _ _ _ k1,fun m v hv=>?_⟩
  rw[aL,Nat.zero_add]
  have hb:S' b=some (.cells cs t (0,0)):=by rw[hne b e1];exact h4
  simp only[cellS,hb,Option.isSome_none,Bool.false_eq_true,if_false]
  exact k2 m v hv
omit [aq] in
theorem qY (hst:∀ b o,S b=some o→S' b=some o){l:Lc}{t ti:TypeId}{xs:List FT}(hne:∀ b,l.has b→S' b=w.heap[b]?)(D:cN S w B l t ti xs .own):Rd S' (.row cH) xs [.slice l.addr xs.length l.cap]:=by
 refine⟨l.addr,l.cap,rfl,⟨D.len.1,fun ha=>?_⟩,fun j x hj=>?_⟩
 ·rcases D.Bf with h3|⟨b,cs,e1,_⟩
  ·exact h3.2
  ·simp[Lc.addr,e1] at ha
 rcases D.Bf with h3|⟨b,cs,e1,_,_,h4,_,h6⟩
 ·have hlt:j<xs.length:=(List.getElem?_eq_some_iff.1 hj).1
  have:=D.len;omega
 ·obtain⟨f0,f2,v,f1,_,f4⟩:=h6 j x hj
  have f4:=f4.1 trivial
  subst f4
  refine⟨⟨b,0,none⟩,[.int .i64 x.1,.slice (l.at j).addr x.2.1.length (l.at j).cap,.int .i64 x.2.2],by simp[Lc.addr,e1],⟨[_],[_,_],rfl,rfl,[_],[_],rfl,jg hst (fun b hb=>hne b (Lc.iT hb)) (D.row j x hj trivial),rfl⟩,fun m v hv=>?_⟩
  rw[aL,Nat.zero_add]
  have hb:S' b=some (.cells cs t (0,0)):=by rw[hne b (.inl e1)];exact h4
  simp only[cellS,hb,Option.isSome_none,Bool.false_eq_true,if_false]
  match m,hv with
  | 0,hv=>cases hv;exact f0
  | 1,hv=>cases hv;exact f1
  | 2,hv=>cases hv;exact f2
omit [aq] in
theorem Rz (hst:∀ b o,S b=some o→w.heap[b]? = some o){l:Lc}{t:TypeId}{e:Ty}{xs:List e.T}(h2:gZ S w B l t e xs):Rd (nr w) (.row e) xs [.slice l.addr xs.length l.cap]:=jg hst (fun _ _=>rfl) h2
omit [aq] in
theorem Np (hst:∀ b o,S b=some o→w.heap[b]? = some o){l:Lc}{t ti:TypeId}{xs:List FT}(D:cN S w B l t ti xs .own):Rd (nr w) (.row cH) xs [.slice l.addr xs.length l.cap]:=qY hst (fun _ _=>rfl) D
theorem UH (R:Rel μ S H B w0 w){i:Nat}{t:TypeId}{e:Ty}{g:Nat}{xs:List e.T}(hi:H i=some (.row t e g xs)){l:Lc}(hm:μ i=some l) :
  Rd (nr w) (.row e) xs [.slice l.addr xs.length l.cap]:=by
 obtain⟨l',h1,h2⟩:=R.obj i _ hi
 have:l'=l:=Option.some.inj (h1.symm.trans hm)
 subst this
 exact Rz R.st h2
theorem RG (R:Rel μ S H B w0 w)(sub:∀ i o,Hh i=some o→H i=some o):dF μ (nr w) Hh:=
 ⟨fun i t e g xs l h hm=>UH R (sub _ _ h) hm,fun i t ti q xs l h hm=>by
  obtain⟨l',h1,h2⟩:=R.obj i _ (sub _ _ h)
  have:l'=l:=Option.some.inj (h1.symm.trans hm)
  subst this
  exact Np R.st h2⟩
omit [aq] in
theorem PL (hS:∀ b o,S b=some o→S' b=some o)
  (hrow:dF μ S' Hh)
  (sub:∀ i o,Hh i=some o→H i=some o) {t:Ty} {a:AV} {v:Value} {x:t.T} (hv:VR μ S H a v) (h:Va Hh t a=some x):J2 S' t x v:=by
 unfold Va at h
 cases hb:(t.isAgg == a.isAgg) with
 | false=>rw[hb] at h;simp at h
 | true=>
  rw[hb] at h
  simp only[cond_true] at h
  have hta:t.isAgg=a.isAgg:=by simpa using hb
  unfold nW at h
  split at h
  ·rename_i y hd
   cases h
   unfold J2
   rw[hta]
   have base:a.isAgg=false→aH μ S H a.inside [v]:=by
    intro ha
    cases a<;>first|(simp[AV.isAgg] at ha;done)|(simp only[AV.inside,aH];exact⟨v,[],rfl,hv,rfl⟩)
   cases ha:a.isAgg with
   | true=>
    rw[if_pos rfl]
    cases a<;>simp only[AV.isAgg,reduceCtorEq] at ha
    simp only[VR] at hv
    obtain⟨vs,rfl,hvs⟩:=hv
    obtain⟨c,u,e1,k1,k2⟩:=oA hS hrow sub t _ vs.toList _ [] hvs hd
    simp only[aH] at k2
    subst k2
    rw[List.append_nil] at e1
    exact⟨vs,rfl,by rw[e1];exact k1⟩
   | false=>
    rw[if_neg (by simp)]
    obtain⟨c,u,e1,k1,k2⟩:=oA hS hrow sub t _ [v] _ [] (base ha) hd
    simp only[aH] at k2
    subst k2
    rw[List.append_nil] at e1
    rw[e1];exact k1
  ·simp at h
omit [aq] in
theorem gS (hS:∀ b o,S b=some o→S' b=some o)
  (hrow:dF μ S' Hh)
  (sub:∀ i o,Hh i=some o→H i=some o):∀ {ps:List Ty} {as:List AV} {vs:List Value} {x:cS ps},aH μ S H as vs→ct Hh ps as=some x→gG S' ps x vs
 | [],[],vs,x,hv,h=>by simp only[aH] at hv;exact hv
 | [],_::_,vs,x,hv,h=>by simp[ct] at h
 | t::ts,[],vs,x,hv,h=>by simp[ct] at h
 | t::ts,a::as,vs,x,hv,h=>by
  simp only[ct] at h
  split at h
  ·rename_i y hy
   split at h
   ·rename_i z hz
    cases h
    simp only[aH] at hv
    obtain⟨v,r,rfl,h1,h2⟩:=hv
    exact⟨v,r,rfl,PL hS hrow sub h1 hy,gS hS hrow sub h2 hz⟩
   ·simp at h
  ·simp at h
end
def sX:dM→Nat
 | .val _=>0
 | .own _ _=>1
 | .pair a b=>sX a+sX b
 | .one a=>sX a
 | .any=>0
 | .deep _ _ _=>1
def wi:(t:dM)→t.T→Nat→List AV
 | .val t,x,_=>enc t x
 | .own _ _,_,i=>[.sl i 0]
 | .pair a b,x,i=>wi a x.1 i++wi b x.2 (i+sX a)
 | .one a,x,i=>wi a x i
 | .any,_,_=>[.Bf]
 | .deep _ _ _,_,i=>[.zW i]
def Gd:(t:dM)→t.T→Nat→List (Nat×aR)
 | .val _,_,_=>[]
 | .own te e,xs,i=>[(i,.row te e 0 xs)]
 | .pair a b,x,i=>Gd a x.1 i++Gd b x.2 (i+sX a)
 | .one a,x,i=>Gd a x i
 | .any,_,_=>[]
 | .deep te ti ln,xs,i=>[(i,.aM te ti 0 xs (PF ln))]
def MK:List AV→AV
 | [a]=>a
 | _=>.an
def Nl (t:dM)(x:t.T)(i:Nat):AV:=cond t.isAgg (.agg (wi t x i)) (MK (wi t x i))
def qi:(rs:List dM)→xp rs→Nat→List AV
 | [],_,_=>[]
 | t::ts,x,i=>Nl t x.1 i::qi ts x.2 (i+sX t)
def gK:(rs:List dM)→xp rs→Nat→List (Nat×aR)
 | [],_,_=>[]
 | t::ts,x,i=>Gd t x.1 i++gK ts x.2 (i+sX t)
def ga:List AV→AV
 | [a]=>a
 | vs=>.uy vs
def aY (H:Heap):List (Nat×aR)→Heap
 | []=>H
 | (i,o)::l=>aY (aN H i (some o)) l
def bc (H:Heap):List (Nat×aR)→Bool
 | []=>true
 | (i,o)::l=>(H i).isNone&&bc (aN H i (some o)) l
def rowsOf:List fD→Nat→List (Nat×aR)
 | [],_=>[]
 | o::os,i=>(i,o.o.H)::rowsOf os (i+1)
structure Carry (B:Nat)(μ:Mu)(S:ar)(H:Heap)(μ':Mu)(S':ar)(H':Heap):Prop where
 vr:∀ a v,VR μ S H a v→VR μ' S' H' a v
 st:∀ b,S' b≠none→S b≠none∨B≤b
 sub:∀ b o,S b=some o→S' b=some o
section
variable [aq]{P:Program}{w w' w0:World}{μ μ':Mu}{S S':ar}{H Hh H':Heap}{B:Nat}
omit [aq] in
theorem Carry.of (h:Ext μ S H μ' S H'):Carry B μ S H μ' S H':=⟨fun a v=>dB h a v,fun _ h=>.inl h,fun _ _ h=>h⟩
omit [aq] in
theorem Carry.refl:Carry B μ S H μ S H:=⟨fun _ _ h=>h,fun _ h=>.inl h,fun _ _ h=>h⟩
omit [aq] in
theorem Carry.trans {μ'':Mu}{S'':ar}{H'':Heap}(h:Carry B μ S H μ' S' H')(k:Carry B μ' S' H' μ'' S'' H''):Carry B μ S H μ'' S'' H'':=
 ⟨fun a v x=>k.vr a v (h.vr a v x),fun b hb=>(k.st b hb).elim (fun x=>h.st b x) .inr,fun b o x=>k.sub b o (h.sub b o x)⟩
omit [aq] in
theorem Carry.list (h:Carry B μ S H μ' S' H'):∀ {as:List AV} {vs:List Value},aH μ S H as vs→aH μ' S' H' as vs
 | [],vs,hr=>by simp only[aH] at hr ⊢;exact hr
 | a::as,vs,hr=>by
  simp only[aH] at hr ⊢
  obtain⟨v,r,h1,h2,h3⟩:=hr
  exact⟨v,r,h1,h.vr a v h2,Carry.list h h3⟩
omit [aq] in
theorem iY:∀ (o p:List fD) (i:Nat),rowsOf (o++p) i=rowsOf o i++rowsOf p (i+o.length)
 | [],p,i=>by simp[rowsOf]
 | a::o,p,i=>by simp[rowsOf,iY o p (i+1),Nat.add_comm,Nat.add_left_comm]
omit [aq] in
theorem mI:∀ (t:dM) (x:t.T) (cs:List Value) (os:List fD) (i:Nat),J0 S t x cs os →
  sX t=os.length∧Gd t x i=rowsOf os i ∧
  ((∀ (j:Nat) (o:fD),os[j]? = some o→μ (i+j)=some o.loc∧H (i+j)=some o.o.H)→aH μ S H (wi t x i) cs)
 | .val t,x,cs,os,i,h=>by
  obtain⟨h1,rfl⟩:=h
  exact⟨rfl,rfl,fun _=>gu t x cs h1⟩
 | .own te e,xs,cs,os,i,h=>by
  obtain⟨l,rfl,rfl⟩:=h
  refine⟨rfl,rfl,fun hj=>?_⟩
  obtain⟨h1,h2⟩:=hj 0 _ rfl
  simp only[Nat.add_zero] at h1 h2
  simp only[wi,aH,VR]
  refine⟨_,[],rfl,⟨⟨_,_,_,rfl⟩,l,h1,fun t1 e1 g1 xs1 hH=>?_⟩,rfl⟩
  rw[h2] at hH
  simp only[zy.H] at hH
  injection hH with hH
  injection hH with k1 k2 k3 k4
  subst k2 k3
  cases k4
  exact⟨Nat.le_refl _,fun _=>rfl⟩
 | .pair a b,x,cs,os,i,h=>by
  obtain⟨c,d,o,p,rfl,rfl,h1,h2⟩:=h
  obtain⟨a1,a2,a3⟩:=mI a x.1 c o i h1
  obtain⟨b1,b2,b3⟩:=mI b x.2 d p (i+sX a) h2
  refine⟨by simp[sX,a1,b1],by rw[Gd,a2,b2,iY,a1],fun hj=>?_⟩
  refine cg (a3 fun j q hq=>hj j q ?_) (b3 fun j q hq=>?_)
  ·rw[List.getElem?_append_left (by
    rcases Nat.lt_or_ge j o.length with h|h
    ·exact h
    ·rw[List.getElem?_eq_none h] at hq;simp at hq)];exact hq
  ·have:=hj (o.length+j) q (by rw[List.getElem?_append_right (by omega)];simpa using hq)
   rw[a1,Nat.add_assoc];exact this
 | .one a,x,cs,os,i,h=>mI a x cs os i h
 | .any,x,cs,os,i,h=>by
  obtain⟨⟨v,rfl,hv⟩,rfl⟩:=h
  exact⟨rfl,rfl,fun _=>by simp only[wi,aH,VR];exact⟨v,[],rfl,hv,rfl⟩⟩
 | .deep te ti ln,xs,cs,os,i,h=>by
  obtain⟨l,rfl,rfl⟩:=h
  refine⟨rfl,rfl,fun hj=>?_⟩
  obtain⟨h1,h2⟩:=hj 0 _ rfl
  simp only[Nat.add_zero] at h1 h2
  simp only[wi,aH,VR]
  refine⟨_,[],rfl,⟨⟨_,_,_,rfl⟩,l,h1,fun t1 ti1 q1 xs1 st1 hH=>?_⟩,rfl⟩
  rw[h2] at hH
  cases hH
  rfl
omit [aq] in
theorem LM {t:dM}{x:t.T}{v:Value}{os:List fD}{i:Nat}(h:jY S t x v os) :
  sX t=os.length∧Gd t x i=rowsOf os i ∧
  ((∀ (j:Nat) (o:fD),os[j]? = some o→μ (i+j)=some o.loc∧H (i+j)=some o.o.H)→VR μ S H (Nl t x i) v):=by
 unfold jY at h
 unfold Nl
 cases ha:t.isAgg with
 | true=>
  rw[ha,if_pos rfl] at h
  obtain⟨cs,rfl,h⟩:=h
  obtain⟨h1,h2,h3⟩:=mI (μ:=μ) (H:=H) t x _ os i h
  exact⟨h1,h2,fun hj=>by simp only[cond_true,VR];exact⟨cs,rfl,h3 hj⟩⟩
 | false=>
  rw[ha,if_neg (by simp)] at h
  obtain⟨h1,h2,h3⟩:=mI (μ:=μ) (H:=H) t x _ os i h
  refine⟨h1,h2,fun hj=>?_⟩
  have:=h3 hj
  simp only[cond_false]
  have hl:=aQ this
  match he:wi t x i,this,hl with
  | [a],this,_=>simp only[aH] at this;obtain⟨_,_,e,k,_⟩:=this;cases e;exact k
  | [],_,hl=>simp at hl
  | _::_::_,_,hl=>simp at hl
omit [aq] in
theorem jl:∀ (rs:List dM) (y:xp rs) (us:List Value) (os:List fD) (i:Nat),Cr S rs y us os →
  gK rs y i=rowsOf os i ∧
  ((∀ (j:Nat) (o:fD),os[j]? = some o→μ (i+j)=some o.loc∧H (i+j)=some o.o.H)→aH μ S H (qi rs y i) us)
 | [],y,us,os,i,h=>by obtain⟨rfl,rfl⟩:=h;exact⟨rfl,fun _=>by simp[qi,aH]⟩
 | t::ts,y,us,os,i,h=>by
  obtain⟨v,r,o,p,rfl,rfl,h1,h2⟩:=h
  obtain⟨a1,a2,a3⟩:=LM (μ:=μ) (H:=H) (i:=i) h1
  obtain⟨b2,b3⟩:=jl ts y.2 r p (i+sX t) h2
  refine⟨by rw[gK,a2,b2,iY,a1],fun hj=>?_⟩
  simp only[qi,aH]
  refine⟨v,r,rfl,a3 fun j q hq=>hj j q ?_,b3 fun j q hq=>?_⟩
  ·rw[List.getElem?_append_left (by
    rcases Nat.lt_or_ge j o.length with h|h
    ·exact h
    ·rw[List.getElem?_eq_none h] at hq;simp at hq)];exact hq
  ·have:=hj (o.length+j) q (by rw[List.getElem?_append_right (by omega)];simpa using hq)
   rw[a1,Nat.add_assoc];exact this
omit [aq] in
theorem vq:∀ {as:List AV} {vs:List Value},aH μ S H as vs→VR μ S H (ga as) (iX vs)
 | [],vs,h=>by simp only[aH] at h;subst h;simp only[ga,iX,VR];exact⟨_,rfl,by simp[aH]⟩
 | [a],vs,h=>by
  simp only[aH] at h
  obtain⟨v,r,rfl,h1,rfl⟩:=h
  exact h1
 | a::b::as,vs,h=>by
  have h':=h
  simp only[aH] at h
  obtain⟨v,r,rfl,h1,u,r',rfl,h2,h3⟩:=h
  simp only[ga,iX,VR]
  exact⟨_,rfl,by simpa using h'⟩
theorem Rel.H6 (R:Rel μ S H B w0 w):Rel μ S H B w0 w.drew:=⟨R.below.drew,R.size,R.st,R.dom,fun i o ho=>by
 obtain⟨l,h1,h2⟩:=R.obj i o ho
 exact⟨l,h1,bA (w:=w) (w':=w.drew) Ext.refl (fun _ _=>rfl) (fun b hb=>(R.Bg h1 hb).2) h2⟩,R.sep,R.cD,R.pre⟩
theorem Rel.grow (R:Rel μ S H B w0 w)(hb:Below w.heap.size w w')(h1:∀ b o,S b=some o→S' b=some o)(h2:∀ b o,S' b=some o→w'.heap[b]? = some o)
  (h3:∀ b,S' b≠none→S b≠none∨w.heap.size≤b):Rel μ S' H B w0 w'∧Ext μ S H μ S' H:=by
 have E:Ext μ S H μ S' H:=⟨fun _ _ h=>.inl h,h1,fun _ t _ g xs _ h=>⟨t,g,xs,h,Nat.le_refl _,fun _=>rfl⟩,fun _ t ti q xs st _ h=>⟨t,ti,q,xs,st,h,Nat.le_refl _,rfl,fun _ _ h=>h⟩⟩
 refine⟨⟨R.below.trans (hb.mono R.size),Nat.le_trans R.size hb.size,h2,R.dom,fun i o ho=>?_,R.sep,R.cD,aq.mono _ _ h1 R.pre⟩,E⟩
 obtain⟨l,k1,k2⟩:=R.obj i o ho
 refine⟨l,k1,bA E (fun b hb'=>hb.block b (R.oD k1 hb')) (fun b hb'=>?_) k2⟩
 cases hs:S' b with
 | none=>rfl
 | some o'=>
  rcases h3 b (by rw[hs];simp) with h|h
  ·exact absurd (R.Bg k1 hb').2 h
  ·have:=R.oD k1 hb';omega
theorem Rel.add (R:Rel μ S H B w0 w){i:Nat}(hi:H i=none)(ho:aR)(l:Lc)(hsep:∀ j lj b,μ j=some lj→l.has b→¬ lj.has b)
  (hO:ni (aN μ i (some l)) S (aN H i (some ho)) w B l ho) (hin:l.cD=aV∨∃ t ti q xs st,ho = .aM t ti q xs st) :
  Rel (aN μ i (some l)) S (aN H i (some ho)) B w0 w∧Ext μ S H (aN μ i (some l)) S (aN H i (some ho)):=by
 have hm:μ i=none:=by
  have:=R.dom i;rw[hi] at this
  cases h:μ i with
  | none=>rfl
  | some _=>rw[h] at this;simp at this
 have E:Ext μ S H (aN μ i (some l)) S (aN H i (some ho)):=Ext.new hm
 refine⟨⟨R.below,R.size,R.st,fun j=>?_,fun j o' hj=>?_,?_,fun j lj hj=>?_,R.pre⟩,E⟩
 ·by_cases e:j=i
  ·subst e;rw[au,au];rfl
  ·rw[ax _ _ e,ax _ _ e];exact R.dom j
 ·by_cases e:j=i
  ·subst e;rw[au] at hj;cases hj;exact⟨l,au _ _ _,hO⟩
  ·rw[ax _ _ e] at hj
   obtain⟨l',h1,h2⟩:=R.obj j o' hj
   exact⟨l',by rw[ax _ _ e];exact h1,bA E (fun _ _=>rfl) (fun b hb=>(R.Bg h1 hb).2) h2⟩
 ·intro j k lj lk b hjk hj hk hb
  by_cases e:j=i
  ·subst e
   rw[au] at hj;cases hj
   rw[ax _ _ (Ne.symm hjk)] at hk
   exact hsep k lk b hk hb
  ·rw[ax _ _ e] at hj
   by_cases e2:k=i
   ·subst e2
    rw[au] at hk;cases hk
    intro hb'
    exact hsep j lj b hj hb' hb
   ·rw[ax _ _ e2] at hk
    exact R.sep j k lj lk b hjk hj hk hb
 ·by_cases e:j=i
  ·subst e;rw[au] at hj;cases hj
   rw[au]
   exact hin.imp id fun⟨t,ti,q,xs,st,h⟩=>⟨t,ti,q,xs,st,by rw[h]⟩
  ·rw[ax _ _ e] at hj;rw[ax _ _ e];exact R.cD j lj hj
theorem GV {μ:Mu}{S:ar}{H:Heap}{o:fD}(h:fS S w B o):ni μ S H w B o.loc o.o.H∧(o.loc.cD=aV∨∃ t ti q xs st,o.o.H = .aM t ti q xs st):=by
 obtain⟨l,o⟩:=o
 cases o with
 | row te e xs=>exact⟨h.2,.inl h.1⟩
 | deep te ti ln xs=>exact⟨h,.inr ⟨_,_,_,_,_,rfl⟩⟩
omit [aq] in
theorem KO {o:fD}(h:fS S w B o){b:Nat}(hb:o.loc.has b):b<w.heap.size∧B≤b∧S b=none:=by
 obtain⟨l,o⟩:=o
 cases o with
 | row te e xs=>exact fG h.2 ((Lc.fc h.1).1 hb)
 | deep te ti ln xs=>exact Cf h hb
theorem Rel.Ew:∀ (os:List fD) (i:Nat) (μ:Mu) (H:Heap),Rel μ S H B w0 w→bc H (rowsOf os i)=true→(∀ o∈os,fS S w B o)→os.Pairwise zG →
  (∀ o∈os,∀ j lj b,μ j=some lj→o.loc.has b→¬ lj.has b) →
  ∃ μ',Rel μ' S (aY H (rowsOf os i)) B w0 w∧Carry B μ S H μ' S (aY H (rowsOf os i)) ∧
   (∀ k l,μ k=some l→μ' k=some l)∧(∀ k o,H k=some o→aY H (rowsOf os i) k=some o) ∧
   (∀ (j:Nat) (o:fD),os[j]? = some o→μ' (i+j)=some o.loc∧aY H (rowsOf os i) (i+j)=some o.o.H)
 | [],i,μ,H,R,_,_,_,_=>⟨μ,R,Carry.refl,fun _ _ h=>h,fun _ _ h=>h,fun j o hj=>by simp at hj⟩
 | o::os,i,μ,H,R,hf,hO,hA,hsep=>by
  simp only[rowsOf,bc,Bool.and_eq_true,Option.isNone_iff_eq_none] at hf
  obtain⟨hi,hf⟩:=hf
  have hO0:=hO o (by simp)
  obtain⟨R1,E1⟩:=R.add hi o.o.H o.loc (hsep o (by simp)) (GV hO0).1 (GV (μ:=μ) (H:=H) hO0).2
  have hm:μ i=none:=by
   have:=R.dom i;rw[hi] at this
   cases h:μ i with
   | none=>rfl
   | some _=>rw[h] at this;simp at this
  have hA':=List.pairwise_cons.1 hA
  obtain⟨μ',R2,C2,M2,H2,G2⟩:=Rel.Ew os (i+1) _ _ R1 hf (fun p hp=>hO p (by simp[hp])) hA'.2 (fun p hp j lj b hj hb=>by
   by_cases e:j=i
   ·subst e;rw[au] at hj;cases hj
    intro hb'
    exact hA'.1 p hp b hb' hb
   ·rw[ax _ _ e] at hj
    exact hsep p (by simp[hp]) j lj b hj hb)
  refine⟨μ',R2,(Carry.of E1).trans C2,fun k l hk=>M2 k l ?_,fun k o' hk=>H2 k o' ?_,fun j p hj=>?_⟩
  ·rw[ax _ _ (fun e=>by subst e;rw[hm] at hk;simp at hk)];exact hk
  ·rw[ax _ _ (fun e=>by subst e;rw[hi] at hk;simp at hk)];exact hk
  ·cases j with
   | zero=>
    simp at hj;subst hj
    exact⟨M2 i _ (au _ _ _),H2 i _ (au _ _ _)⟩
   | succ j=>
    simp at hj
    have:=G2 j p hj
    rw[show i+1+j=i+(j+1) from by omega] at this
    exact this
omit [aq] in
theorem mR:∀ (t:Ty) (x:t.T) (cs:List Value),t.flat=true→Rd S t x cs→Rd S' t x cs
 | .int _,_,_,_,h=>h
 | .bool,_,_,_,h=>h
 | .str,_,_,_,h=>h
 | .row e,_,_,hf,_=>by simp[Ty.flat] at hf
 | .pair a b,x,cs,hf,h=>by
  simp only[Ty.flat,Bool.and_eq_true] at hf
  obtain⟨c,d,h1,h2,h3⟩:=h
  exact⟨c,d,h1,mR a _ _ hf.1 h2,mR b _ _ hf.2 h3⟩
 | .one a,x,cs,hf,h=>mR a x cs hf h
 | .Bk _,_,_,_,h=>h
 | .nil,_,_,_,h=>h
omit [aq] in
theorem lE:∀ (t:dM) (x:t.T) (cs:List Value) (os:List fD),t.flat=true→J0 S t x cs os→J0 S' t x cs os∧∀ o∈os,o.o.flat=true
 | .val t,x,cs,os,hf,h=>⟨⟨mR t x cs hf h.1,h.2⟩,by rw[h.2];simp⟩
 | .own te e,xs,cs,os,hf,h=>⟨h,by obtain⟨l,_,rfl⟩:=h;simpa [dM.flat,zy.flat] using hf⟩
 | .pair a b,x,cs,os,hf,h=>by
  simp only[dM.flat,Bool.and_eq_true] at hf
  obtain⟨c,d,o,p,h1,h2,h3,h4⟩:=h
  obtain⟨a1,a2⟩:=lE a _ _ _ hf.1 h3
  obtain⟨b1,b2⟩:=lE b _ _ _ hf.2 h4
  exact⟨⟨c,d,o,p,h1,h2,a1,b1⟩,by rw[h2];intro q hq;rcases List.mem_append.1 hq with h|h;exact a2 q h;exact b2 q h⟩
 | .one a,x,cs,os,hf,h=>lE a x cs os hf h
 | .any,x,cs,os,hf,h=>⟨h,by rw[h.2];simp⟩
 | .deep te ti ln,xs,cs,os,hf,h=>⟨h,by obtain⟨l,_,rfl⟩:=h;simpa [dM.flat,zy.flat] using hf⟩
omit [aq] in
theorem x5:∀ (rs:List dM) (y:xp rs) (us:List Value) (os:List fD),Cc rs=true→Cr S rs y us os→Cr S' rs y us os∧∀ o∈os,o.o.flat=true
 | [],y,us,os,_,h=>⟨h,by rw[h.2];simp⟩
 | t::ts,y,us,os,hf,h=>by
  simp only[Cc,Bool.and_eq_true] at hf
  obtain⟨v,r,o,p,h1,h2,h3,h4⟩:=h
  obtain⟨b1,b2⟩:=x5 ts _ _ _ hf.2 h4
  have:jY S' t y.1 v o∧∀ q∈o,q.o.flat=true:=by
   unfold jY at h3 ⊢
   split at h3
   ·rename_i ha
    obtain⟨cs,k1,k2⟩:=h3
    obtain⟨m1,m2⟩:=lE t _ _ _ hf.1 k2
    exact⟨by rw[if_pos ha];exact⟨cs,k1,m1⟩,m2⟩
   ·rename_i ha
    obtain⟨m1,m2⟩:=lE t _ _ _ hf.1 h3
    exact⟨by rw[if_neg ha];exact m1,m2⟩
  exact⟨⟨v,r,o,p,h1,h2,this.1,b1⟩,by rw[h2];intro q hq;rcases List.mem_append.1 hq with h|h;exact this.2 q h;exact b2 q h⟩
omit [aq] in
theorem Hy {B':Nat}{l:Lc}{t:TypeId}{e:Ty}{xs:List e.T}(hb:B≤B')(h:gZ S w B' l t e xs):gZ S w B l t e xs:=
 ⟨h.1,h.2.imp id fun⟨b,cs,q1,q2,q⟩=>⟨b,cs,q1,Nat.le_trans hb q2,q⟩⟩
omit [aq] in
theorem T7 {B':Nat}{o:fD}(hb:B≤B')(h:fS S w B' o):fS S w B o:=by
 obtain⟨l,o⟩:=o
 cases o with
 | row te e xs=>exact⟨h.1,Hy hb h.2⟩
 | deep te ti ln xs=>
  have h:cN S w B' l te ti xs (PF ln):=h
  exact⟨h.len,h.out,fun k x hx hm=>Hy hb (h.row k x hx hm),h.one,h.off,h.Bf.imp id fun⟨b,cs,q1,q2,q⟩=>⟨b,cs,q1,Nat.le_trans hb q2,q⟩⟩
omit [aq] in
theorem qL {B':Nat}{l:Lc}{t:TypeId}{e:Ty}{xs:List e.T}(hf:e.flat=true)(hb:B≤B')(hs:∀ b,S b≠none→b<B')(h:gZ S' w B' l t e xs):gZ S w B l t e xs:=
 ⟨h.1,h.2.imp id fun⟨b,cs,q1,q2,q3,q4,q5,q6⟩=>⟨b,cs,q1,Nat.le_trans hb q2,by
  cases hS:S b with
  | none=>rfl
  | some o=>have:=hs b (by rw[hS];simp);omega,q4,q5,fun j z hj=>by
  obtain⟨d,m1,m2⟩:=q6 j z hj
  exact⟨d,mR _ _ _ hf m1,m2⟩⟩⟩
omit [aq] in
theorem Mo {B':Nat}{o:fD}(hf:o.o.flat=true)(hb:B≤B')(hs:∀ b,S b≠none→b<B')(h:fS S' w B' o):fS S w B o:=by
 obtain⟨l,o⟩:=o
 cases o with
 | row te e xs=>exact⟨h.1,qL hf hb hs h.2⟩
 | deep te ti ln xs=>
  cases ln with
  | true=>simp[zy.flat] at hf
  | false=>
  have h:cN S' w B' l te ti xs .own:=h
  refine (⟨h.len,h.out,fun k x hx hm=>qL rfl hb hs (h.row k x hx hm),h.one,h.off,h.Bf.imp id fun⟨b,cs,q1,q2,q3,q4,q5,q6⟩=>⟨b,cs,q1,Nat.le_trans hb q2,?_,q4,q5,fun k x hx=>?_⟩⟩:cN S w B l te ti xs .own)
  ·cases hS:S b with
   | none=>rfl
   | some o=>have:=hs b (by rw[hS];simp);omega
  ·obtain⟨f0,f2,v,f1,f3,f4,_⟩:=q6 k x hx
   exact⟨f0,f2,v,f1,f3,f4,fun h=>absurd trivial h⟩
def gT (c:aS)(H:Heap):Heap:=cond (Cc c.rs) H (fun _=>none)
theorem LV {k:FuncId}{c:aS}(hc:c.OK P k)(sub:∀ i o,Hh i=some o→H i=some o)(R:Rel μ S H B w0 w){as:List AV}{us:Array Value}(hv:aH μ S H as us.toList)
  {x:cS c.ps} {y:xp c.rs} (hd:ct (gT c Hh) c.ps as=some x) (hf:c.f x=some y) {id:Nat} (hfr:bc H (gK c.rs y id)=true) :
  Calls P k us w fun e w'=>∃ v μ' S',e = .returned v∧VR μ' S' (aY H (gK c.rs y id)) (ga (qi c.rs y id)) v ∧
   Rel μ' S' (aY H (gK c.rs y id)) B w0 w'∧Carry B μ S H μ' S' (aY H (gK c.rs y id)):=by
 cases hfl:Cc c.rs with
 | true=>
  have hd':ct Hh c.ps as=some x:=by unfold gT at hd;rw[hfl] at hd;exact hd
  have ha:=gS (S':=nr w) (fun b o h=>R.st b o h) (RG R sub) sub hv hd'
  have:=hc x y hf (nr w) w us.toList (fun b o h=>h) (aq.mono _ _ R.st R.pre) ha
  rw[Array.toArray_toList] at this
  refine this.mono ?_
  rintro e w' ⟨vs,S',os,rfl,hb,h1,h2,h3,h4,h5,h6⟩
  obtain⟨R1,E1⟩:=R.grow (S':=S) hb (fun _ _ h=>h) (fun b o h=>by rw[hb.block b (R.jB h)];exact R.st b o h) (fun b h=>.inl h)
  obtain⟨f1,f2⟩:=x5 (S':=S) c.rs y vs os hfl h4
  obtain⟨e1,e2⟩:=jl (μ:=μ) (H:=H) c.rs y vs os id f1
  rw[e1] at hfr ⊢
  have hO:∀ o∈os,fS S w' B o:=fun o ho=>Mo (f2 o ho) R.size (fun b hs=>by
   cases hs2:S b with
   | none=>exact absurd hs2 hs
   | some o'=>exact R.jB hs2) (h5 o ho)
  obtain⟨μ',R2,C2,M2,H2,G2⟩:=Rel.Ew os id μ H R1 hfr hO h6 (fun o ho j lj b hj hb' hb2=>by
   have h1:=(KO (h5 o ho) hb').2.1
   have:=R.oD hj hb2;omega)
  obtain⟨_,e3⟩:=jl (μ:=μ') (H:=aY H (rowsOf os id)) c.rs y vs os id f1
  exact⟨_,μ',S,rfl,vq (e3 G2),R2,(Carry.of E1).trans C2⟩
 | false=>
  have hd':ct (fun _=>none) c.ps as=some x:=by unfold gT at hd;rw[hfl] at hd;exact hd
  have ha:=gS (S':=S) (H:=H) (Hh:=fun _=>none) (fun b o h=>h) dF.no (fun i o h=>by simp at h) hv hd'
  have:=hc x y hf S w us.toList R.st R.pre ha
  rw[Array.toArray_toList] at this
  refine this.mono ?_
  rintro e w' ⟨vs,S',os,rfl,hb,h1,h2,h3,h4,h5,h6⟩
  obtain⟨R1,E1⟩:=R.grow (S':=S') hb h1 h2 h3
  obtain⟨e1,e2⟩:=jl (μ:=μ) (H:=H) c.rs y vs os id h4
  rw[e1] at hfr ⊢
  have hO:∀ o∈os,fS S' w' B o:=fun o ho=>T7 R.size (h5 o ho)
  obtain⟨μ',R2,C2,M2,H2,G2⟩:=Rel.Ew os id μ H R1 hfr hO h6 (fun o ho j lj b hj hb' hb2=>by
   have h1:=(KO (h5 o ho) hb').2.1
   have:=R.oD hj hb2;omega)
  obtain⟨_,e3⟩:=jl (μ:=μ') (H:=aY H (rowsOf os id)) c.rs y vs os id h4
  exact⟨_,μ',S',rfl,vq (e3 G2),R2,Carry.trans ⟨fun a v=>dB E1 a v,fun b hb=>(h3 b hb).elim .inl (fun x=>.inr (Nat.le_trans R.size x)),h1⟩ C2⟩
end
structure bI where
 te:TypeId
 e:Ty
 ps:List Ty
 keep:Bool
 f:List e.T→cS ps→Option (List e.T)
def Ty.notNil:Ty→Bool
 | .nil=>false
 | _=>true
def bI.EN [aq](P:Program)(k:FuncId):bI→Prop
 | ⟨te,.nil,[.row (.int .u8)],true,f⟩=>∀ (xs:List Int) (r:List Unit),f [] (xs,())=some r→∀ (S:ar) (w:World) (v:Value),(∀ b o,S b=some o→w.heap[b]? = some o)→aq.pre S→J2 S (.row (.int .u8)) xs v →
   Calls P k #[v] w fun e w'=>∃ l:Lc,e = .returned (.slice l.addr xs.length l.cap)∧Below w.heap.size w w'∧gZ S w' w.heap.size l te (.int .u8) xs
 | _=>True
def bI.Wy [aq](P:Program)(k:FuncId)(u:bI):Prop:=
 ∀ (zs:List u.e.T) (x:cS u.ps) (ys:List u.e.T),u.f zs x=some ys→∀ (S:ar) (w:World) (B:Nat) (v0:Value) (cs0 vs:List Value),(∀ b o,S b=some o→w.heap[b]? = some o)→aq.pre S→gG S u.ps x vs →
  gC S u.e zs cs0→w.ownsRow B u.te u.e.size v0 zs.length cs0→(∀ b,v0.ownBlock=some b→S b=none)→B≤w.heap.size →
  Calls P k (v0::vs).toArray w fun e w'=>∃ v cs,e = .returned (cond u.keep (.tuple #[]) v)∧(u.keep=true→v=v0∧ys.length=zs.length)∧gC S u.e ys cs∧w'.ownsRow B u.te u.e.size v ys.length cs ∧
   (∀ b,v.ownBlock=some b→v0.ownBlock=some b∨w.heap.size≤b)∧w.grownBy w' v0.ownBlock
def bI.OK [aq](P:Program)(k:FuncId)(u:bI):Prop:=(u.e.notNil=true→u.Wy P k)∧u.EN P k
def iZ (u:bI)(Hh:Heap)(i g:Nat)(part:Option Nat)(rest:List AV):Option (aR×AV):=
 match Hh i with
 | some (.row te e g' xs)=>match fZ (e:=e) (e':=u.e) (match part with
   | none=>xs
   | some b=>xs.take b) with
  | some zs=>match ct (cond u.e.flat (fun q=>cond (Nat.beq q i) none (Hh q)) (fun _=>none)) u.ps rest with
   | some x=>match u.f zs x with
    | some ys=>cond (Nat.beq g g'&&Nat.beq te u.te&&u.e.notNil) (match u.keep with
      | true=>cond (Nat.beq (List.length ys) (List.length zs)&&part.isNone) (some (.row te u.e g ys,.lit (.tuple #[]))) none
      | false=>some (.row te u.e (g+1) ys,.sl i (g+1))) none
    | none=>none
   | none=>none
  | none=>none
 | _=>none
def ov (u:bI)(Hh:Heap)(i:Nat)(zs:List Int):Option (aR×AV):=
 match u with
 | ⟨te,.nil,[.row (.int .u8)],true,f⟩=>match Hh i with
  | some (.aM t ti q xs (.gF m))=>match f [] (zs,()) with
   | some _=>cond (Nat.beq te ti) (cond (decide (m<xs.length)) (some (.aM t ti q (xs.set m ((rd cH xs m).1,(zs,(rd cH xs m).2.2))) (.late m),.cD i q m 0 zs.length)) none) none
   | none=>none
  | _=>none
 | _=>none
def iO (u:bI)(Hh:Heap):List AV→Option (Nat×aR×AV)
 | [.H8 i zs]=>match ov u Hh i zs with
  | some (o,v)=>some (i,o,v)
  | none=>none
 | .sl i g::rest=>match iZ u Hh i g none rest with
  | some (o,v)=>some (i,o,v)
  | none=>none
 | .sub i g a b::rest=>cond (Nat.beq a 0) (match iZ u Hh i g (some b) rest with
  | some (o,v)=>some (i,o,v)
  | none=>none) none
 | _=>none
section
variable [aq]{P:Program}{w w' w0:World}{μ μ':Mu}{S S':ar}{H Hh H':Heap}{B:Nat}
omit [aq] in
theorem l8 {e:Ty}(hf:e.flat=true):∀ {xs:List e.T} {cs:List Value},gC S e xs cs→gC S' e xs cs
 | [],_,h=>h
 | x::xs,cs,h=>by
  obtain⟨c,d,h1,h2,h3⟩:=h
  exact⟨c,d,h1,mR _ _ _ hf h2,l8 hf h3⟩
theorem xg {l:Lc}{te:TypeId}{e:Ty}{g:Nat}{xs:List e.T}(b:Nat)(h:ni μ S H w B l (.row te e g xs)):ni μ S H w B l (.row te e g (xs.take b)):=by
 obtain⟨⟨h1,h2⟩,h3⟩:=h
 refine⟨⟨by rw[List.length_take];omega,h2⟩,?_⟩
 rcases h3 with h3|⟨b',cs,e1,q1,q2,q3,q4,q5⟩
 ·exact .inl h3
 ·refine .inr ⟨b',cs,e1,q1,q2,q3,q4,fun j x hj=>q5 j x ?_⟩
  rw[List.getElem?_take] at hj
  split at hj
  ·exact hj
  ·simp at hj
omit [aq] in
theorem O4 {l l':Lc}(h:l.addr=l'.addr):l.blk=l'.blk:=by
 obtain⟨b,c,n⟩:=l
 obtain⟨b',c',n'⟩:=l'
 cases b<;>cases b'<;>simp_all [Lc.addr]
omit [aq] in
theorem mh (l:Lc)(n c:Nat):Value.ownBlock (.slice l.addr n c)=l.blk:=by
 obtain⟨b,c,n⟩:=l
 cases b<;>rfl
theorem F9 (R:Rel μ S H B w0 w){i:Nat}{l:Lc}{te:TypeId}{e:Ty}{g g':Nat}{xs ys:List e.T}{cs:List Value}{v:Value}(hm:μ i=some l)(hi:H i=some (.row te e g xs))(hlt:g<g')
  (hR:gC S e ys cs) (hown:w'.ownsRow B te e.size v ys.length cs) (hv:∀ b,v.ownBlock=some b→l.blk=some b∨w.heap.size≤b) (hg:w.grownBy w' l.blk) :
  ∃ μ',Rel μ' S (aN H i (some (.row te e g' ys))) B w0 w'∧Ext μ S H μ' S (aN H i (some (.row te e g' ys)))∧VR μ' S (aN H i (some (.row te e g' ys))) (.sl i g') v:=by
 have hS:∀ b,v.ownBlock=some b→S b=none:=by
  intro b hb
  rcases hv b hb with h|h
  ·exact (R.ge hm h).2
  ·cases hs:S b with
   | none=>rfl
   | some o=>have:=R.jB hs;omega
 obtain⟨l',rfl,h1,hno,hO⟩:=jr (μ:=μ) (H:=H) (g:=g') hR hS hown
 have E:Ext μ S H (aN μ i (some l')) S (aN H i (some (.row te e g' ys))):=Ext.SM hm hi hlt
 refine⟨aN μ i (some l'),R.put (fun b hb=>?_) (fun b hb=>⟨l,hm,hb⟩) hg E (bA E (fun _ _=>rfl) (fun b hb=>hS b (by rw[h1];exact (Lc.fc hno).1 hb)) hO) hno,E,NE⟩
 rcases hv b (by rw[h1];exact hb) with h|h
 ·exact .inl ⟨l,hm,h⟩
 ·exact .inr h
theorem K3 (R:Rel μ S H B w0 w){i:Nat}{l:Lc}{te:TypeId}{e:Ty}{g:Nat}{xs ys:List e.T}{cs:List Value}(hm:μ i=some l)(hi:H i=some (.row te e g xs))(hl:ys.length=xs.length)
  (hR:gC S e ys cs) (hown:w'.ownsRow B te e.size (.slice l.addr xs.length l.cap) ys.length cs) (hg:w.grownBy w' l.blk) :
  Rel μ S (aN H i (some (.row te e g ys))) B w0 w'∧Ext μ S H μ S (aN H i (some (.row te e g ys))):=by
 have hS:∀ b,Value.ownBlock (.slice l.addr xs.length l.cap)=some b→S b=none:=by
  intro b hb
  rw[mh] at hb
  exact (R.ge hm hb).2
 obtain⟨l',he,h1,hno,hO⟩:=jr (μ:=μ) (H:=H) (g:=g) hR hS hown
 have hnl:=R.iA hm hi
 simp only[Value.slice.injEq] at he
 have hll:l'=l:=by
  obtain⟨b,c,n⟩:=l
  obtain⟨b',c',n'⟩:=l'
  have e1:=O4 he.1
  have e2:=he.2.2
  simp only at e1 e2 hno hnl
  rw[e1,e2,hno,hnl]
 subst hll
 have E:Ext μ S H μ S (aN H i (some (.row te e g ys))):=Ext.ld hi hl.symm
 have hmu:aN μ i (some l')=μ:=by
  funext q
  by_cases e1:q=i
  ·subst e1;rw[au,hm]
  ·rw[ax _ _ e1]
 have:=R.put (w':=w') (i:=i) (l:=l') (ho:=.row te e g ys) (fun b hb=>.inl ⟨l',hm,hb⟩) (fun b hb=>⟨l',hm,hb⟩) hg (by rw[hmu];exact E) (by rw[hmu];exact bA E (fun _ _=>rfl) (fun b hb=>(R.Bg hm hb).2) hO) hnl
 rw[hmu] at this
 exact⟨this,E⟩
theorem xR {k:FuncId}{u:bI}(hu:u.OK P k)(sub:∀ i o,Hh i=some o→H i=some o)(R:Rel μ S H B w0 w){i g:Nat}{part:Option Nat}{rest:List AV}{v0:Value}{us:List Value}{l:Lc}(hm:μ i=some l)
  (hv0:∀ te e xs,H i=some (.row te e g xs)→v0 = .slice l.addr (match part with
   | none=>xs.length
   | some b=>b) l.cap∧∀ b,part=some b→b≤xs.length)
  (hv:aH μ S H rest us) {o:aR} {v:AV} (h:iZ u Hh i g part rest=some (o,v)) :
  Calls P k (v0::us).toArray w fun x w'=>∃ r μ',x = .returned r∧VR μ' S (aN H i (some o)) v r∧Rel μ' S (aN H i (some o)) B w0 w'∧Carry B μ S H μ' S (aN H i (some o)):=by
 unfold iZ at h
 split at h
 case h_2=>simp at h
 rename_i te e g' xs hHh
 have hH:=sub _ _ hHh
 split at h
 case h_2=>simp at h
 rename_i zs hzs
 split at h
 case h_2=>simp at h
 rename_i x hx
 split at h
 case h_2=>simp at h
 rename_i ys hys
 obtain⟨hc,h5⟩:=az h
 clear h
 simp only[Bool.and_eq_true] at hc
 obtain⟨⟨c1,c2⟩,c3⟩:=hc
 have c1:=Nat.eq_of_beq_eq_true c1
 have c2:=Nat.eq_of_beq_eq_true c2
 subst c1 c2
 have hu:=hu.1 c3
 obtain⟨he,hz⟩:=b8 hzs
 obtain⟨l0,hm0,hO⟩:=R.obj i _ hH
 have:l0=l:=Option.some.inj (hm0.symm.trans hm)
 subst this
 obtain⟨k1,k2⟩:=hv0 _ _ _ hH
 obtain⟨ute,ue,ups,uk,uf⟩:=u
 simp only at he zs x ys hzs hx hys h5 hu
 subst he
 simp only at hz
 have hO':ni μ S H w B l0 (.row ute e g zs):=by
  rw[hz]
  cases part with
  | none=>exact hO
  | some b=>exact xg b hO
 have hlen:v0 = .slice l0.addr zs.length l0.cap:=by
  rw[k1,hz]
  cases part with
  | none=>rfl
  | some b=>have:=k2 b rfl;simp only[List.length_take];rw[Nat.min_eq_left this]
 obtain⟨cs0,r1,r2⟩:=mr hO'
 have r1:gC S e zs cs0:=r1
 have hnl:=R.iA hm hH
 have key:∃ S1:ar,(∀ b o,S b=some o→S1 b=some o)∧(∀ b o,S1 b=some o→w.heap[b]? = some o)∧gG S1 ups x us∧(∀ b,l0.blk=some b→S1 b=none) ∧
   (∀ xs cs,gC S e xs cs→gC S1 e xs cs)∧(∀ xs cs,gC S1 e xs cs→gC S e xs cs):=by
  cases hfl:e.flat with
  | false=>
   rw[hfl] at hx
   exact⟨S,fun _ _ h=>h,R.st,gS (S':=S) (H:=H) (Hh:=fun _=>none) (fun b o h=>h) dF.no (fun i o h=>by simp at h) hv hx,fun b hb=>(R.ge hm hb).2,fun _ _ h=>h,fun _ _ h=>h⟩
  | true=>
  rw[hfl] at hx
  have hx:ct (fun q=>cond (Nat.beq q i) none (Hh q)) ups rest=some x:=hx
  let S1:ar:=fun b=>if l0.blk=some b then none else w.heap[b]?
  have hS1:∀ b o,S b=some o→S1 b=some o:=by
   intro b o hb
   show (if l0.blk=some b then none else w.heap[b]?)=some o
   rw[if_neg (fun hq=>by rw[(R.ge hm hq).2] at hb;simp at hb)]
   exact R.st b o hb
  have hS1w:∀ b o,S1 b=some o→w.heap[b]? = some o:=by
   intro b o hb
   have hb:(if l0.blk=some b then none else w.heap[b]?)=some o:=hb
   split at hb
   ·simp at hb
   ·exact hb
  have hsub:∀ j o,(fun q=>cond (Nat.beq q i) none (Hh q)) j=some o→j≠i∧Hh j=some o:=by
   intro j o hj
   simp only at hj
   cases hb:Nat.beq j i with
   | true=>rw[hb] at hj;simp at hj
   | false=>
    rw[hb] at hj
    refine⟨fun hq=>?_,hj⟩
    subst hq
    simp[Nat.beq_refl] at hb
  have hrow:dF μ S1 (fun q=>cond (Nat.beq q i) none (Hh q)):=by
   refine⟨fun j t e g xs l hj hmj=>?_,fun j t ti q xs l hj hmj=>?_⟩
   ·obtain⟨hji,hHj⟩:=hsub j _ hj
    obtain⟨lj,m1,m2⟩:=R.obj j _ (sub _ _ hHj)
    have:lj=l:=Option.some.inj (m1.symm.trans hmj)
    subst this
    have hne:∀ b,lj.blk=some b→S1 b=w.heap[b]?:=fun b hb=>if_neg (fun hq=>R.aa1 i j l0 lj b (Ne.symm hji) hm m1 hq hb)
    exact jg hS1 hne m2
   ·obtain⟨hji,hHj⟩:=hsub j _ hj
    obtain⟨lj,m1,m2⟩:=R.obj j _ (sub _ _ hHj)
    have:lj=l:=Option.some.inj (m1.symm.trans hmj)
    subst this
    have hne:∀ b,lj.has b→S1 b=w.heap[b]?:=fun b hb=>if_neg (fun hq=>R.sep i j l0 lj b (Ne.symm hji) hm m1 (.inl hq) hb)
    exact qY hS1 hne m2
  exact⟨S1,hS1,hS1w,gS (S':=S1) (H:=H) hS1 hrow (fun j o hj=>sub _ _ (hsub j o hj).2) hv hx,fun b hb=>if_pos hb,fun _ _ h=>l8 hfl h,fun _ _ h=>l8 hfl h⟩
 obtain⟨S1,hS1,hS1w,ha,hSn,toS1,ofS1⟩:=key
 have hcall:=hu zs x ys hys S1 w B v0 cs0 us hS1w (aq.mono _ _ hS1 R.pre) ha (toS1 _ _ r1) (by rw[hlen];exact r2) (fun b hb=>by
  rw[hlen,mh] at hb
  exact hSn b hb) R.size
 refine hcall.mono ?_
 rintro q w' ⟨r,cs,rfl,q1,q2,q3,q4,q5⟩
 rw[hlen,mh] at q4 q5
 have q2':gC S e ys cs:=ofS1 _ _ q2
 cases hk:uk with
 | true=>
  rw[hk] at h5
  simp only at h5
  obtain⟨hc2,h6⟩:=ai h5
  cases h6
  simp only[Bool.and_eq_true] at hc2
  have hpn:part=none:=by simpa using hc2.2
  subst hpn
  obtain⟨rfl,ql⟩:=q1 hk
  have hz':zs=xs:=hz
  subst hz'
  rw[hlen] at q3
  obtain⟨R',E⟩:=K3 R hm hH ql q2' q3 q5
  refine⟨.tuple #[],μ,by simp,by simp only[VR],R',Carry.of E⟩
 | false=>
  rw[hk] at h5
  simp only[Option.some.injEq,Prod.mk.injEq] at h5
  obtain⟨rfl,rfl⟩:=h5
  obtain⟨μ',R',E,hVR⟩:=F9 R hm hH (Nat.lt_succ_self g) q2' q3 q4 q5
  exact⟨r,μ',by simp,hVR,R',Carry.of E⟩
theorem TX {k:FuncId}{u:bI}(hu:u.OK P k)(sub:∀ i o,Hh i=some o→H i=some o)(R:Rel μ S H B w0 w){i:Nat}{zs:List Int}{v0:Value}(hv:VR μ S H (.H8 i zs) v0){o:aR}{v:AV}
  (h:ov u Hh i zs=some (o,v)) :
  Calls P k #[v0] w fun x w'=>∃ r μ',x = .returned r∧VR μ' S (aN H i (some o)) v r∧Rel μ' S (aN H i (some o)) B w0 w'∧Carry B μ S H μ' S (aN H i (some o)):=by
 unfold ov at h
 split at h
 case h_2=>simp at h
 rename_i te f
 split at h
 case h_2=>simp at h
 rename_i t ti q xs m hHh
 split at h
 case h_2=>simp at h
 rename_i r hf
 obtain⟨c1,h⟩:=az h
 have c1:=Nat.eq_of_beq_eq_true c1
 subst c1
 obtain⟨c2,h⟩:=az h
 simp only[decide_eq_true_eq] at c2
 cases h
 have hi:=sub _ _ hHh
 obtain⟨l,hm,hO⟩:=R.obj i _ hi
 have D:cN S w B l t te xs (.gF m):=hO
 simp only[VR] at hv
 have hout:=D.out m (.inr (by simp only[gv.mine];omega))
 have hat:(l.at m).blk=none:=by
  show (l.cD m).1=none
  rw[hout]
 refine (hu.2 zs r hf S w v0 R.st R.pre (by unfold J2;simpa only [Ty.isAgg,Bool.false_eq_true,if_false] using hv)).mono ?_
 rintro e w' ⟨l2,rfl,hbel,hrow⟩
 have hrow':gZ S w' B l2 te (.int .u8) zs:=⟨hrow.1,hrow.2.imp id fun⟨b,cs,q1,q2,q3⟩=>⟨b,cs,q1,Nat.le_trans R.size q2,q3⟩⟩
 obtain⟨cs,k1,k2⟩:=mr (μ:=μ) (H:=H) (g:=0) (e:=.int .u8) hrow'
 obtain⟨μ',R',E,hV⟩:=nF (q':=q) (st':=.late m) (zs:=zs) R hm hi (fun j hj=>by simp only[gv.mine];omega) (Nat.le_refl m) (fun j _ h=>h) (fun h=>Nat.lt_irrefl _ h) c2 (.inr ⟨rfl,by simp only[gv.mine];omega⟩) k1 k2
  (fun b hb=>.inr (by
   rw[mh] at hb
   rcases hrow.2 with h|⟨b',_,h,hge,_⟩
   ·rw[h.1] at hb;cases hb
   ·rw[h] at hb;cases hb;exact hge))
  ⟨hbel.os,hbel.tape,hbel.output,hbel.size,fun j hj _=>hbel.block j hj⟩
 exact⟨_,μ',rfl,hV,R',Carry.of E⟩
omit [aq] in
theorem HP [aq]{P:Program}{k:FuncId}{te:TypeId}{e:Ty}{ps:List Ty}{f:List e.T→cS ps→Option (List e.T)}:(⟨te,e,ps,false,f⟩:bI).EN P k:=by
 unfold bI.EN
 split
 ·rename_i h;cases h
 ·trivial
theorem ND {k:FuncId}{u:bI}(hu:u.OK P k)(sub:∀ i o,Hh i=some o→H i=some o)(R:Rel μ S H B w0 w){as:List AV}{us:Array Value}(hv:aH μ S H as us.toList){i:Nat}{o:aR}{v:AV}(h:iO u Hh as=some (i,o,v)) :
  Calls P k us w fun x w'=>∃ r μ',x = .returned r∧VR μ' S (aN H i (some o)) v r∧Rel μ' S (aN H i (some o)) B w0 w'∧Carry B μ S H μ' S (aN H i (some o)):=by
 unfold iO at h
 split at h
 ·rename_i i' zs
  split at h
  case h_2=>simp at h
  rename_i o' v' hr
  cases h
  simp only[aH] at hv
  obtain⟨v0,r,hus,h1,h2⟩:=hv
  subst h2
  have hus':us = #[v0]:=by apply Array.ext';simpa using hus
  subst hus'
  exact TX hu sub R h1 hr
 ·rename_i i' g rest
  split at h
  case h_2=>simp at h
  rename_i o' v' hr
  cases h
  simp only[aH] at hv
  obtain⟨v0,r,hus,h1,h2⟩:=hv
  have hus':us=(v0::r).toArray:=by apply Array.ext';simpa using hus
  subst hus'
  simp only[VR] at h1
  obtain⟨_,l,hm,h3⟩:=h1
  exact xR hu sub R hm (fun te e xs hH=>⟨(h3 _ _ _ _ hH).2 rfl,fun b hb=>by simp at hb⟩) h2 hr
 ·rename_i i' g a b rest
  obtain⟨ha,h⟩:=az h
  have ha:=Nat.eq_of_beq_eq_true ha
  subst ha
  split at h
  case h_2=>simp at h
  rename_i o' v' hr
  cases h
  simp only[aH] at hv
  obtain⟨v0,r,hus,h1,h2⟩:=hv
  have hus':us=(v0::r).toArray:=by apply Array.ext';simpa using hus
  subst hus'
  simp only[VR] at h1
  obtain⟨_,l,hm,h3⟩:=h1
  refine xR hu sub R hm (fun te e xs hH=>?_) h2 hr
  obtain⟨p1,p2,ad,rfl,p3,_⟩:=(h3 _ _ _ _ hH).2 rfl
  have had:=p3 (by simp)
  have had':ad=l.addr:=by
   rw[had]
   cases l.addr with
   | none=>rfl
   | some q=>simp[add_zero]
  subst had'
  exact⟨rfl,fun b' hb'=>by cases hb';exact p2⟩
 ·simp at h
end
end Go.Sy
