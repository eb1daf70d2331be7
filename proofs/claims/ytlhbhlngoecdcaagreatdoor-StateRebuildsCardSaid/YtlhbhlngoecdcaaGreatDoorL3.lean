/- PureR_1003, EqR_1003, P6b, Row6, Law6. -/
import Derived.Test.YtlhbhlngoecdcaaGreatDoorPUn
import Derived.Test.YtlhbhlngoecdcaaGreatDoorEQn
import Derived.Test.YtlhbhlngoecdcaaGreatDoorFD
import Derived.Test.YtlhbhlngoecdcaaGreatDoorPC
import Derived.Test.YtlhbhlngoecdcaaGreatDoorFG
import Derived.Test.YtlhbhlngoecdcaaGreatDoorTie
import Derived.Test.YtlhbhlngoecdcaaGreatDoorCards
import Derived.Lay
import Derived.SevenTiedAt
import Derived.Shelf.Vars
import Derived.Lib.LaidTab
namespace Go.Proofs.Zz
open Go Go.Sy
set_option linter.unusedVariables false
set_option maxRecDepth 100000
noncomputable def RO (v1 v2 v3 v4 v5 v6 v7 v8 v9 v10 v11:Int)(v12:Bool)(v13:Int)(v14:(List (Int×Int×Int)))(v15:(List (Int×Int×Int×Int×Int)))(v16:(List (Int×Int×Int)))(v17:(List (Int×Int×Int×Int×Int×Int×Int×Int×Bool))):Option (Bool×Unit):=
 (Rk).bind fun y18=>
 ((f12 v1 v2 v3 v4 v5 v6 v7 v8 v9 v10 v11 v12 v13 v14 v15 v16)).bind fun y19=>
 cond (!y18.1) (
  some (y18.1,())) (
  cond (!y19.1) (
   some (y18.1,())) (
   cond (decide (40<(v17.length:Int))) (
    some (y18.1,())) (
    ((f15 v1 v2 v3 v4 v5 v6 v7 v8 v9 v10 v11 v12 v13 v14 v15 v16)).bind fun y20=>
    cond (!y20.1) (
     some (y18.1,())) (
     ((f17 v1 v2 v3 v4 v5 v6 v7 v8 v9 v10 v11 v12 v13 v14 v15 v16 v17)).bind fun y21=>
     ((wJ v1 v2 v3 v4 v5 v6 v7 v8 v9 v10 v11 v12 v13 v14 v15 v16 v13)).bind fun y22=>
     ((Of y22.1.1.1.1 y22.1.1.1.2 y22.1.1.2.1.1 y22.1.1.2.1.2 y22.1.1.2.2.1 y22.1.1.2.2.2.1 y22.1.1.2.2.2.2.1 y22.1.1.2.2.2.2.2 y22.1.2.1.1 y22.1.2.1.2.1 y22.1.2.1.2.2.1 y22.1.2.1.2.2.2 y22.1.2.2.1 y22.1.2.2.2.1 y22.1.2.2.2.2.1 y22.1.2.2.2.2.2 y21.2.1)).bind fun y23=>
     ((wJ y23.1.1.1.1 y23.1.1.1.2 y23.1.1.2.1.1 y23.1.1.2.1.2 y23.1.1.2.2.1 y23.1.1.2.2.2.1 y23.1.1.2.2.2.2.1 y23.1.1.2.2.2.2.2 y23.1.2.1.1 y23.1.2.1.2.1 y23.1.2.1.2.2.1 y23.1.2.1.2.2.2 y23.1.2.2.1 y23.1.2.2.2.1 y23.1.2.2.2.2.1 y23.1.2.2.2.2.2 y21.1.2.2.1)).bind fun y24=>
     ((wJ y21.1.1.1.1 y21.1.1.1.2 y21.1.1.2.1.1 y21.1.1.2.1.2 y21.1.1.2.2.1 y21.1.1.2.2.2.1 y21.1.1.2.2.2.2.1 y21.1.1.2.2.2.2.2 y21.1.2.1.1 y21.1.2.1.2.1 y21.1.2.1.2.2.1 y21.1.2.1.2.2.2 y21.1.2.2.1 y21.1.2.2.2.1 y21.1.2.2.2.2.1 y21.1.2.2.2.2.2 y21.1.2.2.1)).bind fun y25=>
     cond y22.2.1 (
      cond (decide (y23.2.1=0)) (
       cond y24.2.1 (
        cond y25.2.1 (
         ((f14 y24.1.1.1.1 y24.1.1.1.2 y24.1.1.2.1.1 y24.1.1.2.1.2 y24.1.1.2.2.1 y24.1.1.2.2.2.1 y24.1.1.2.2.2.2.1 y24.1.1.2.2.2.2.2 y24.1.2.1.1 y24.1.2.1.2.1 y24.1.2.1.2.2.1 y24.1.2.1.2.2.2 y24.1.2.2.1 y24.1.2.2.2.1 y24.1.2.2.2.2.1 y24.1.2.2.2.2.2 y25.1.1.1.1 y25.1.1.1.2 y25.1.1.2.1.1 y25.1.1.2.1.2 y25.1.1.2.2.1 y25.1.1.2.2.2.1 y25.1.1.2.2.2.2.1 y25.1.1.2.2.2.2.2 y25.1.2.1.1 y25.1.2.1.2.1 y25.1.2.1.2.2.1 y25.1.2.1.2.2.2 y25.1.2.2.1 y25.1.2.2.2.1 y25.1.2.2.2.2.1 y25.1.2.2.2.2.2)).bind fun y26=>
         some (y26.1,())) (
         some (false,()))) (
        some (false,()))) (
       some (false,()))) (
      some (false,()))))))
set_option maxHeartbeats 0
abbrev Ff:List Ty:=[.pair (.pair (.pair (.int .i64) (.int .i64)) (.pair (.pair (.int .i64) (.int .i64)) (.pair (.int .i64) (.pair (.int .i64) (.pair (.int .i64) (.int .i64)))))) (.pair (.pair (.int .i64) (.pair (.int .i64) (.pair (.int .i64) (.bool)))) (.pair (.int .i64) (.pair (.row (.pair (.int .i64) (.pair (.int .i64) (.int .i64)))) (.pair (.row (.pair (.int .i64) (.pair (.int .i64) (.pair (.int .i64) (.pair (.int .i64) (.int .i64)))))) (.row (.pair (.int .i64) (.pair (.int .i64) (.int .i64)))))))),.row (.pair (.int .i64) (.pair (.int .i64) (.pair (.int .i64) (.pair (.int .i64) (.pair (.int .i64) (.pair (.int .i64) (.pair (.int .i64) (.pair (.int .i64) (.bool)))))))))]
abbrev TX:List gj:=[.val (.bool)]
noncomputable abbrev Zi:List (Nat×bA):=[(4,Nx),(5,YY),(6,vM),(7,YP),(8,x4),(9,NR),(10,TA)]
noncomputable abbrev Zk:List (Nat×dA):=[]
noncomputable abbrev adw:Cons:=SB Zi Zk
noncomputable abbrev Zs:List (Nat×Nat×aL):=[]
noncomputable def xX:bA:=⟨Ff,TX,fun x=>RO x.1.1.1.1 x.1.1.1.2 x.1.1.2.1.1 x.1.1.2.1.2 x.1.1.2.2.1 x.1.1.2.2.2.1 x.1.1.2.2.2.2.1 x.1.1.2.2.2.2.2 x.1.2.1.1 x.1.2.1.2.1 x.1.2.1.2.2.1 x.1.2.1.2.2.2 x.1.2.2.1 x.1.2.2.2.1 x.1.2.2.2.2.1 x.1.2.2.2.2.2 x.2.1⟩
theorem ab9 (x:fG Ff):X6 Tryz.prog adw (tE Zs) aC 10 3 Ff TX x=xX.f x:=by kernel_rfl
theorem aaW [ar][RI Tryz.prog](h:I1 Tryz.prog Zi)(h':U2 Tryz.prog Zk):xX.OK Tryz.prog 3:=ah (ak h h') (ai (l:=Zs) trivial) ab9
theorem abZ:xX.OK Tryz.prog 3:=aaW ⟨ac2,k12,k15,k17,UC,adf,k14,trivial⟩ trivial
set_option linter.unusedSimpArgs false
theorem Vg:Rk=some (true,()):=by kernel_rfl
theorem Ky (s:ST)(l:List RT) :
  RO s.1.1.1 s.1.1.2 s.1.2.1.1 s.1.2.1.2 s.1.2.2.1 s.1.2.2.2.1 s.1.2.2.2.2.1 s.1.2.2.2.2.2 s.2.1.1 s.2.1.2.1 s.2.1.2.2.1 s.2.1.2.2.2 s.2.2.1 s.2.2.2.1 s.2.2.2.2.1 s.2.2.2.2.2 l=some (true,()):=by
 unfold RO
 rw[Vg,Z8 s]
 by_cases hf:Xy s
 case neg=>rw[decide_eq_false hf];rfl
 rw[decide_eq_true hf]
 simp only[Option.bind_some,Bool.not_true,cond_false]
 by_cases h0:40<((l.length:Nat):Int)
 ·rw[decide_eq_true h0];rfl
 rw[decide_eq_false h0]
 have hs:=hf.sm
 rw[ez s hs.I9 hs.En hs.Kj]
 by_cases M:aM s
 case neg=>rw[decide_eq_false M];rfl
 rw[decide_eq_true M,aab s M l (by omega)]
 obtain⟨e1,m,hm,e2,e3,e4⟩:=VJ M l
 have Mt:=(xM M l).1
 have hE:=Ed M l l.length (Nat.le_refl _)
 rw[List.take_length] at hE
 simp only[Option.bind_some,Bool.not_true,cond_false]
 rw[sU s s.2.2.1 hs,e1]
 simp only[Option.bind_some]
 rw[TQ (aG s s.2.2.1) (dz s l).2 (jg (kS M)).sm9 (by omega),e2]
 simp only[Option.bind_some]
 rw[sU m (dz s l).1.2.2.1 hm.sm,e3]
 simp only[Option.bind_some]
 rw[sU (dz s l).1 (dz s l).1.2.2.1 Mt.sm,e4]
 simp only[Option.bind_some,decide_true,cond_true]
 rw[aaZ _ _ (jg (kS Mt)).sm,decide_eq_true rfl]
 rfl
end Go.Proofs.Zz
namespace Go.Proofs.YtlhbhlngoecdcaaGreatDoor
open Go Go.Sy Go.RowKit Go.Proofs.Zz
set_option linter.unusedVariables false
set_option maxRecDepth 100000
theorem own:ownKnob Tryz.prog.godebug=none:=by kernel_rfl
theorem laidOut:laidOutB Tryz.prog=true:=by kernel_rfl
abbrev Ei:List (String×DataW Unit):=[("math/bits.deBruijn32tab", Rows.laid_math_bits_deBruijn32tab),("math/bits.deBruijn64tab", Rows.laid_math_bits_deBruijn64tab)]
abbrev A9:List Int:=Lib.deBruijn64tab.map fun (n:Nat)=>(n:Int)
theorem UP:(Rows.laid_math_bits_deBruijn64tab:DataW Unit)=Lib.tabData .u8 A9:=by kernel_rfl
theorem CO {P:Program}{x:String×DataW Unit}{r:List (String×DataW Unit)}{w:World}(h:laidMet P (x::r) w):laidMet P r w:=by
 obtain⟨ps,⟨g,t,cs,fuel,p,q,_,_,_,_,h1,rfl⟩,hn,hp⟩:=h
 refine⟨q,h1,?_,fun b off hm=>hp b off (List.mem_append.2 (.inr hm))⟩
 exact (List.nodup_append.1 hn).2.1
theorem Um {W:World}(h:laidMet Tryz.prog Ei W):Lib.TabIs Tryz.prog W "math/bits.deBruijn64tab" .u8 A9:=by
 have h1:=CO h
 rw[UP] at h1
 exact Lib.tabIs_of_head (g:=1) (t:=267) (e:=5) (n:=64) (by kernel_rfl) (by kernel_rfl) (by kernel_rfl) (by kernel_rfl) (by kernel_rfl) (by kernel_rfl) h1
theorem WA:∀ j:Fin 64,(A9.map fun z=>Value.int .u8 z)[j.val]? = some (Value.int .u8 ((Lib.deBruijn64tab.getD j.val 0:Nat):Int)):=by
 intro j
 simp only[A9,List.getElem?_map]
 have h:Lib.deBruijn64tab[j.val]? = some (Lib.deBruijn64tab.getD j.val 0):=by
  have hl:Lib.deBruijn64tab.length=64:=by decide
  have hj:=j.isLt
  rw[List.getD_eq_getElem?_getD,List.getElem?_eq_getElem (by omega)]
  rfl
 rw[h]
 rfl
theorem VI {W:World}(h:laidMetH Tryz.prog Ei W):ar.pre (p8 W):=by
 rw[MakeChecks.laidMetH_plain _ _ _ (by kernel_rfl)] at h
 intro w hw j hj
 have ht:=Um h
 unfold Lib.TabIs World.var? at ht
 have hg:Tryz.prog.globalNamed "math/bits.deBruijn64tab" = some 1:=by kernel_rfl
 rw[hg] at ht
 simp only[Option.bind_some] at ht
 have hl:Lib.deBruijn64tab.length=64:=by decide
 have hget:=WA ⟨j,by omega⟩
 cases hb:W.heap[1]? with
 | none=>rw[hb] at ht;simp at ht
 | some o=>
  have hb':=hw 1 o hb
  rw[hb] at ht
  unfold World.cell?
  simp only
  rw[hb']
  cases o with
  | cells cs t x=>
   simp only at ht ⊢
   cases ht
   have e:((A9.map fun z=>Value.int .u8 z).toArray)[j]? = (A9.map fun z=>Value.int .u8 z)[j]?:=by simp
   rw[hget] at e
   simpa using e
  | _=>simp at ht
theorem FQ {os:Os}{args:Array Value}:((World.laidAll Tryz.prog os Ei).forCall (fun _ _=>0) ⟨#[],args,[]⟩).Shaped Tryz.prog:=
 World.shaped_of_ZipB (by kernel_rfl) (by kernel_rfl)
theorem Tv (os:Os)(args:Array Value):laidMetH Tryz.prog Ei ((World.laidAll Tryz.prog os Ei).forCall (fun _ _=>0) ⟨#[],args,[]⟩).memory:=by
 rw[MakeChecks.laidMetH_plain _ _ _ (by kernel_rfl)];exact laidMet_laidAll _ (by kernel_rfl) (by kernel_rfl)
end Go.Proofs.YtlhbhlngoecdcaaGreatDoor
namespace Go.Proofs.YtlhbhlngoecdcaaGreatDoor.stateRebuilds
open Go Go.Sy Go.RowKit Go.Proofs.Zz Go.ChangeShapes
set_option linter.unusedVariables false
set_option maxRecDepth 100000
theorem lifted (os:Os)(started:os.Started)(H:Type)(enc:TypeId×Value→H) :
  ReturnsInHanded {} Tryz.checked os 3 .any (fun w args=>(Rows.stateRebuildsSpec.pre enc Tryz.prog Tryz.f3 [] false w args∧laidMetH Tryz.prog Ei w)∧sizedMet enc Tryz.prog Tryz.f3 (OpenSpec.ofChange Rows.stateRebuildsSpec) false w args)
   (Rows.stateRebuildsSpec.post enc Tryz.prog Tryz.f3 false true false false):=
 K3 (C:=Tryz.checked) (X:=fun w _=>laidMetH Tryz.prog Ei w) (Ts:=Ff) (F:=xX.f) (ts:=[32,33]) (tb:=4) (fun _ _ _ hh h=>h.of_heap hh) own started (by kernel_rfl) Tryz.func3
  (ChangeSpec.witness_shaped (enc:=enc) (C:=Tryz.checked) (os:=os) (X:=fun w _=>laidMetH Tryz.prog Ei w) false (World.laidAll Tryz.prog os Ei) #[.agg #[.int .i64 0,.int .i64 0,.int .i64 0,.int .i64 0,.int .i64 0,.int .i64 0,.int .i64 0,.int .i64 0,.int .i64 0,.int .i64 0,.int .i64 0,.bool false,.int .i64 0,.slice none 0 0,.slice none 0 0,.slice none 0 0],.slice none 0 0] 8 (World.laidAll_os _ _ _)
   FQ (by kernel_rfl) (by kernel_rfl) (by kernel_rfl) (Tv os _))
  (fun W _ hs h=>VI h) laidOut abZ Tryz.params3 (by kernel_rfl) Tryz.underlying4
  (fun t ht=>by
   have h:([32,33].all fun t=>Tryz.prog.readableRec t&&decide (t<Tryz.prog.types.size))=true:=by kernel_rfl
   have:=List.all_eq_true.1 h t ht
   rw[Bool.and_eq_true,decide_eq_true_eq] at this
   exact this)
  ⟨by kernel_rfl,by kernel_rfl,trivial⟩ rfl (fun ds hds=>by
   match ds,hds with
   | [d1,d2],_=>rfl)
  (fun x hx=>Ky x.1 x.2.1)
theorem holds:Rows.StateRebuildsSaid:=
 OpenClaim.holds_of_wide 3 Tryz.f3 rfl rfl rfl rfl rfl rfl rfl ⟨rfl,rfl,rfl,rfl,rfl⟩ rfl rfl rfl rfl rfl (by kernel_rfl) Tryz.func3 (by kernel_rfl)
  (of_decide_eq_true (by kernel_rfl)) (by unfold Func.isWrapper;first|(rw[if_pos (by decide +kernel)];kernel_rfl)|(rw[if_neg (by decide +kernel)];exact⟨rfl,rfl⟩))
  (fun os started H enc _=>lifted os started H enc)
theorem card_holds:Rows.StateRebuildsCardSaid:=
 Claim7.holds_tied_plain_at .later [] [.data,.data] true _ true holds (fun _ h=>by cases h) (by kernel_rfl) (fun _ h=>by cases h) stateRebuilds_row_tie rfl ⟨rfl,rfl⟩ (by kernel_rfl) rfl
  (fun f fn hf hfn=>by
   obtain rfl:f=3:=Option.some.inj ((show Tryz.prog.funcNamed "moorings/mooringslaw15.StateRebuilds" = some 3 by kernel_rfl).symm.trans hf) |>.symm
   obtain rfl:fn=Tryz.f3:=(Option.some.inj (Tryz.func3.symm.trans hfn)).symm
   exact⟨by kernel_rfl,fun j t ht=>by
    rw[Tryz.params3] at ht
    have hm:t∈[32,33]:=by simpa using Array.mem_of_getElem? ht
    have hall:([32,33].all fun u=>!Tryz.prog.wantsStandIn u)=true:=by kernel_rfl
    exact (show Tryz.prog.wantsStandIn t=false by simpa using List.all_eq_true.1 hall t hm)⟩)
  (by kernel_rfl)
end Go.Proofs.YtlhbhlngoecdcaaGreatDoor.stateRebuilds
namespace Go.Proofs.YtlhbhlngoecdcaaGreatDoor
theorem stateRebuilds_holds:Rows.StateRebuildsCardSaid:=stateRebuilds.card_holds
end Go.Proofs.YtlhbhlngoecdcaaGreatDoor
