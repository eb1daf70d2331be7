/- Ord6, Lib6. -/
import Derived.Test.YtlhbhlngoecdcaaGreatDoorFS
import Derived.Shelf.SlSortCmp.NoneTotal
import Derived.ProofKit
import Derived.StillTailTactics
import Derived.Test.YtlhbhlngoecdcaaGreatDoorFE
import Derived.KernelRfl
import Derived.Test.YtlhbhlngoecdcaaGreatDoorFD
namespace Go.Proofs
theorem World.yF (W:World)(o:Obj):(W.alloc o).heap.size=W.heap.size+1:=by
 show (W.heap.push o).size=_
 simp
open Go Go.Shelf Go.RowKit Go.Lib Go.Sort
set_option maxHeartbeats 4000000
set_option maxRecDepth 100000
def orI (p q:Int):Int:=if p=0 then q else p
theorem Tryz.aaX (b:Nat)(p q:Int)(W:World)(h0:W.cell? ⟨b,0,none⟩=some (.int .i64 p))(h1:W.cell? ⟨b,1,none⟩=some (.int .i64 q)) :
  Calls Tryz.prog 186 #[.slice (some ⟨b,0,none⟩) 2 2] W fun e w'=>e = .returned (.int .i64 (orI p q))∧w'=W:=by
 go_enter Tryz.func186,Tryz.ntmps186
 go_wp2
 refine wp_loop_rounds 3 ?_
 rw[rounds_succ]
 go_wp2
 ·have hp:p≠0:=by simp_all
  go_ret
  exact⟨by rw[orI,if_neg hp];rfl,rfl⟩
 ·have hp:p=0:=by simp_all
  rw[rounds_succ]
  go_wp2
  ·go_ret
   exact⟨by rw[orI,if_pos hp];rfl,rfl⟩
  ·have hq:q=0:=by simp_all
   rw[rounds_succ]
   go_wp2
   go_ret
   exact⟨by rw[orI,if_pos hp,hq];rfl,rfl⟩
theorem kK (W:World)(cs:Array Value)(t:TypeId)(k:Nat){v:Value}(h:cs[k]? = some v):(W.alloc (.cells cs t)).cell? ⟨W.heap.size,k,none⟩=some v:=by
 have e:(W.alloc (.cells cs t)).heap[W.heap.size]? = some (.cells cs t):=by
  show (W.heap.push (Obj.cells cs t))[W.heap.size]? = _
  rw[Array.getElem?_push,if_pos rfl]
 unfold World.cell?
 simp only[e]
 exact h
theorem HD {W:World}{a:Addr}{v:Value}(h:W.cell? a=some v)(o:Obj):(W.alloc o).cell? a=some v:=by
 unfold World.cell? at h ⊢
 have hlt:a.block<W.heap.size:=by
  rcases Nat.lt_or_ge a.block W.heap.size with h'|h'
  ·exact h'
  ·rw[Array.getElem?_eq_none h'] at h;simp at h
 have e:(W.alloc o).heap[a.block]? = W.heap[a.block]?:=by
  show (W.heap.push o)[a.block]? = _
  rw[Array.getElem?_push,if_neg (by omega)]
 rw[e];exact h
theorem Pc (W:World)(o1 o2:Obj):∃ q os',((W.alloc o1).alloc o2).drew=grow (W.drewN q) os':=⟨1,#[o1,o2],by
 show ({ W with heap:=(W.heap.push o1).push o2,drawn:=W.drawn+1 }:World)={ (W.drewN 1) with heap:=W.heap ++ #[o1,o2] }
 have:W.heap ++ #[o1,o2]=(W.heap.push o1).push o2:=Array.toList_inj.1 (by rw[Array.toList_append,Array.toList_push,Array.toList_push,List.append_assoc];rfl)
 rw[this];rfl⟩
theorem Pr {W w2:World}(h:∃ q os',w2=grow (W.drewN q) os')(o:Obj):∃ q os',w2.alloc o=grow (W.drewN q) os':=by
 obtain⟨q,os,rfl⟩:=h
 exact⟨q,os.push o,by
  show ({ (W.drewN q) with heap:=(W.heap++os).push o }:World)={ (W.drewN q) with heap:=W.heap++os.push o }
  have:W.heap++os.push o=(W.heap++os).push o:=by simp
  rw[this]⟩
def xk (x y:Int×Int):Int:=orI (Lib.compareInt x.2 y.2) (Lib.compareInt x.1 y.1)
theorem Tryz.FP (x y:Int×Int)(W:World):Calls Tryz.prog 168 #[.agg #[.int .i64 x.1,.int .i64 x.2],.agg #[.int .i64 y.1,.int .i64 y.2]] W fun e w'=>e = .returned (.int .i64 (xk x y))∧∃ q os',w'=grow (W.drewN q) os':=by
 have hcon:=fun p q W'=>Tryz.cmp_Compare_int p q W'
 have hor:=fun b p q W' h0 h1=>Tryz.aaX b p q W' h0 h1
 unfold xk
 generalize hr1:Lib.compareInt x.2 y.2=r1
 generalize hr2:Lib.compareInt x.1 y.1=r2
 have hc1:=fun W'=>hcon x.2 y.2 W'
 have hc2:=fun W'=>hcon x.1 y.1 W'
 rw[hr1] at hc1
 rw[hr2] at hc2
 clear hcon hr1 hr2
 go_enter Tryz.func168,Tryz.ntmps168
 go_wp2
 have hm:Tryz.prog.follows .mixedOrders=true:=by kernel_rfl
 have k1:((W.alloc (Obj.cells #[Value.int IntKind.i64 x.fst,Value.int IntKind.i64 x.snd] 170)).alloc (Obj.cells #[Value.int IntKind.i64 y.fst,Value.int IntKind.i64 y.snd] 170)).drew.cell? ⟨W.heap.size,0,none⟩=some (.int .i64 x.1):=HD (kK W _ _ 0 rfl) _
 have k2:((W.alloc (Obj.cells #[Value.int IntKind.i64 x.fst,Value.int IntKind.i64 x.snd] 170)).alloc (Obj.cells #[Value.int IntKind.i64 y.fst,Value.int IntKind.i64 y.snd] 170)).drew.cell? ⟨W.heap.size,1,none⟩=some (.int .i64 x.2):=HD (kK W _ _ 1 rfl) _
 have k3:((W.alloc (Obj.cells #[Value.int IntKind.i64 x.fst,Value.int IntKind.i64 x.snd] 170)).alloc (Obj.cells #[Value.int IntKind.i64 y.fst,Value.int IntKind.i64 y.snd] 170)).drew.cell? ⟨W.heap.size+1,0,none⟩=some (.int .i64 y.1):=by have:=kK (W.alloc (Obj.cells #[Value.int IntKind.i64 x.fst,Value.int IntKind.i64 x.snd] 170)) #[Value.int IntKind.i64 y.fst,Value.int IntKind.i64 y.snd] 170 0 rfl;rw[World.yF] at this;exact this
 have k4:((W.alloc (Obj.cells #[Value.int IntKind.i64 x.fst,Value.int IntKind.i64 x.snd] 170)).alloc (Obj.cells #[Value.int IntKind.i64 y.fst,Value.int IntKind.i64 y.snd] 170)).drew.cell? ⟨W.heap.size+1,1,none⟩=some (.int .i64 y.2):=by have:=kK (W.alloc (Obj.cells #[Value.int IntKind.i64 x.fst,Value.int IntKind.i64 x.snd] 170)) #[Value.int IntKind.i64 y.fst,Value.int IntKind.i64 y.snd] 170 1 rfl;rw[World.yF] at this;exact this
 refine wp_region_still_tail 10 hm (by kernel_rfl) ?_
 change wpStill _ _ (World.drew ((W.alloc (Obj.cells #[Value.int IntKind.i64 x.fst,Value.int IntKind.i64 x.snd] 170)).alloc (Obj.cells #[Value.int IntKind.i64 y.fst,Value.int IntKind.i64 y.snd] 170))) (fun a'=>wpList _ _ _ _ a' (World.drew ((W.alloc (Obj.cells #[Value.int IntKind.i64 x.fst,Value.int IntKind.i64 x.snd] 170)).alloc (Obj.cells #[Value.int IntKind.i64 y.fst,Value.int IntKind.i64 y.snd] 170)))) _ _
 have hz:=Pc W (Obj.cells #[Value.int IntKind.i64 x.fst,Value.int IntKind.i64 x.snd] 170) (Obj.cells #[Value.int IntKind.i64 y.fst,Value.int IntKind.i64 y.snd] 170)
 generalize World.drew ((W.alloc (Obj.cells #[Value.int IntKind.i64 x.fst,Value.int IntKind.i64 x.snd] 170)).alloc (Obj.cells #[Value.int IntKind.i64 y.fst,Value.int IntKind.i64 y.snd] 170))=w2 at k1 k2 k3 k4 hz ⊢
 simp only[List.take_succ_cons,List.take_zero,List.drop_succ_cons,List.drop_zero]
 iterate 4 still_step
 still_call (hc1 _)
 iterate 4 still_step
 still_call (hc2 _)
 refine wpStill_nil ?_
 go_wp2_with (go_at_call 186;refine (hor _ r1 r2 _ (kK _ _ _ 0 rfl) (kK _ _ _ 1 rfl)).mono ?_;rintro e w' ⟨rfl,rfl⟩)
 go_ret
 exact⟨rfl,Pr hz _⟩
end Go.Proofs
namespace Go.Proofs.Zz
open Go Go.Sy Go.RowKit Go.Proofs Go.Shelf
set_option linter.unusedVariables false
set_option maxRecDepth 100000
def aep (S:an):Prop:=∀ w:World,(∀ b o,S b=some o→w.heap[b]? = some o)→Go.Proofs.TabAt 1 Lib.deBruijn64tab w
noncomputable instance afo:ar:=⟨aep,dR Tryz.prog,fun S S' h hp w hw=>hp w fun b o hb=>hw b o (h b o hb)⟩
instance afH:RI Tryz.prog:=⟨fun _ _=>rfl⟩
noncomputable def uu (t:TypeId):TypeInfo:=match Tryz.prog.info? t with
 | some i=>i
 | none=>⟨.bool, "", 0,0,false,0,0,none,false,#[]⟩
abbrev JN:Ty:=.pair (.int .i64) (.pair (.int .i64) (.int .i64))
noncomputable def JJ:Ren:=⟨fun n=>cond (Nat.beq n 41) 78 n,fun n=>cond (Nat.beq n 22) 28 (cond (Nat.beq n 23) 99 n),fun n=>n⟩
theorem TO:SlLaysE0.n41 Tryz.prog JJ where
 mixed:=by kernel_rfl
 f41:=⟨Tryz.f78.name,by kernel_rfl,by kernel_rfl⟩
 t4:=Tryz.underlying4
 a4:=Tryz.isAgg4
 z4:=Tryz.sizeOf4
 v4:=Tryz.zeroValue4
 t22:=Tryz.underlying28
 a22:=Tryz.isAgg28
 z22:=Tryz.sizeOf28
 v22:=Tryz.zeroValue28
noncomputable def ew (xs:List JN.T):Option (List JN.T×Unit):=jU 24 xs
noncomputable def oU:bA:=⟨[.row JN],[.own 99 JN],fun x=>ew x.1⟩
theorem xw:oU.OK Tryz.prog 78:=r9 (ρ:=JJ) (i0:=uu 99) (z:=(Value.agg #[.int .i64 0,.int .i64 0,.int .i64 0])) (bytes:=24) (e:=JN) TO (by kernel_rfl) (by kernel_rfl) (by kernel_rfl) (by kernel_rfl) (by kernel_rfl) (by decide) (by decide) Tryz.sizeOf99
abbrev jb:Ty:=.pair (.int .i64) (.pair (.int .i64) (.pair (.int .i64) (.pair (.int .i64) (.int .i64))))
noncomputable def Bn:Ren:=⟨fun n=>cond (Nat.beq n 41) 79 n,fun n=>cond (Nat.beq n 22) 29 (cond (Nat.beq n 23) 56 n),fun n=>n⟩
theorem PG:SlLaysE0.n41 Tryz.prog Bn where
 mixed:=by kernel_rfl
 f41:=⟨Tryz.f79.name,by kernel_rfl,by kernel_rfl⟩
 t4:=Tryz.underlying4
 a4:=Tryz.isAgg4
 z4:=Tryz.sizeOf4
 v4:=Tryz.zeroValue4
 t22:=Tryz.underlying29
 a22:=Tryz.isAgg29
 z22:=Tryz.sizeOf29
 v22:=Tryz.zeroValue29
noncomputable def cW (xs:List jb.T):Option (List jb.T×Unit):=jU 40 xs
noncomputable def iO:bA:=⟨[.row jb],[.own 56 jb],fun x=>cW x.1⟩
theorem om:iO.OK Tryz.prog 79:=r9 (ρ:=Bn) (i0:=uu 56) (z:=(Value.agg #[.int .i64 0,.int .i64 0,.int .i64 0,.int .i64 0,.int .i64 0])) (bytes:=40) (e:=jb) PG (by kernel_rfl) (by kernel_rfl) (by kernel_rfl) (by kernel_rfl) (by kernel_rfl) (by decide) (by decide) Tryz.sizeOf56
noncomputable def Bm:Ren:=⟨fun n=>cond (Nat.beq n 22) 141 (cond (Nat.beq n 29) 164 (cond (Nat.beq n 30) 165 n)),fun n=>cond (Nat.beq n 9) 56 (cond (Nat.beq n 24) 29 n),fun n=>n⟩
theorem O8:uR Tryz.prog Bm (uu 56) (Value.agg #[.int .i64 0,.int .i64 0,.int .i64 0,.int .i64 0,.int .i64 0]) 5 40 where
 mixed:=by kernel_rfl
 f22:=⟨Tryz.f141.name,by kernel_rfl,by kernel_rfl⟩
 fo:=run_callFunc_extern Tryz.func164 (by kernel_rfl) (by kernel_rfl) (by kernel_rfl) (by kernel_rfl)
 t0:=Tryz.underlying0
 a0:=Tryz.isAgg0
 z0:=Tryz.sizeOf0
 v0:=Tryz.zeroValue0
 t3:=Tryz.underlying3
 a3:=Tryz.isAgg3
 z3:=Tryz.sizeOf3
 v3:=Tryz.zeroValue3
 t4:=Tryz.underlying4
 a4:=Tryz.isAgg4
 z4:=Tryz.sizeOf4
 v4:=Tryz.zeroValue4
 z9:=Tryz.sizeOf56
 t24:=Tryz.underlying29
 a24:=Tryz.isAgg29
 z24:=Tryz.sizeOf29
 v24:=Tryz.zeroValue29
 hi:=by kernel_rfl
 hz0:=by kernel_rfl
 hz1:=by kernel_rfl
 CA:=by kernel_rfl
 hzs:=by kernel_rfl
 hsz:=by decide
noncomputable def j8 (zs:List jb.T)(i:Int)(vs:List jb.T):Option (List jb.T):=Qp 40 zs i vs
noncomputable def MH:dA:=⟨56,jb,[.int .i64,.row jb],false,fun zs x=>j8 zs x.1 x.2.1⟩
theorem Sh:MH.OK Tryz.prog 141:=Bi (ρ:=Bm) (e:=jb) O8 (by decide)
abbrev nI:Ty:=.pair (.int .i64) (.pair (.int .i64) (.int .i64))
noncomputable def F3:Ren:=⟨fun n=>cond (Nat.beq n 41) 80 n,fun n=>cond (Nat.beq n 22) 30 (cond (Nat.beq n 23) 84 n),fun n=>n⟩
theorem RY:SlLaysE0.n41 Tryz.prog F3 where
 mixed:=by kernel_rfl
 f41:=⟨Tryz.f80.name,by kernel_rfl,by kernel_rfl⟩
 t4:=Tryz.underlying4
 a4:=Tryz.isAgg4
 z4:=Tryz.sizeOf4
 v4:=Tryz.zeroValue4
 t22:=Tryz.underlying30
 a22:=Tryz.isAgg30
 z22:=Tryz.sizeOf30
 v22:=Tryz.zeroValue30
noncomputable def dF (xs:List nI.T):Option (List nI.T×Unit):=jU 24 xs
noncomputable def j7:bA:=⟨[.row nI],[.own 84 nI],fun x=>dF x.1⟩
theorem tG:j7.OK Tryz.prog 80:=r9 (ρ:=F3) (i0:=uu 84) (z:=(Value.agg #[.int .i64 0,.int .i64 0,.int .i64 0])) (bytes:=24) (e:=nI) RY (by kernel_rfl) (by kernel_rfl) (by kernel_rfl) (by kernel_rfl) (by kernel_rfl) (by decide) (by decide) Tryz.sizeOf84
noncomputable def Gn:Ren:=⟨fun n=>cond (Nat.beq n 22) 158 (cond (Nat.beq n 29) 178 (cond (Nat.beq n 30) 179 n)),fun n=>cond (Nat.beq n 9) 84 (cond (Nat.beq n 24) 30 n),fun n=>n⟩
theorem Rn:uR Tryz.prog Gn (uu 84) (Value.agg #[.int .i64 0,.int .i64 0,.int .i64 0]) 3 24 where
 mixed:=by kernel_rfl
 f22:=⟨Tryz.f158.name,by kernel_rfl,by kernel_rfl⟩
 fo:=run_callFunc_extern Tryz.func178 (by kernel_rfl) (by kernel_rfl) (by kernel_rfl) (by kernel_rfl)
 t0:=Tryz.underlying0
 a0:=Tryz.isAgg0
 z0:=Tryz.sizeOf0
 v0:=Tryz.zeroValue0
 t3:=Tryz.underlying3
 a3:=Tryz.isAgg3
 z3:=Tryz.sizeOf3
 v3:=Tryz.zeroValue3
 t4:=Tryz.underlying4
 a4:=Tryz.isAgg4
 z4:=Tryz.sizeOf4
 v4:=Tryz.zeroValue4
 z9:=Tryz.sizeOf84
 t24:=Tryz.underlying30
 a24:=Tryz.isAgg30
 z24:=Tryz.sizeOf30
 v24:=Tryz.zeroValue30
 hi:=by kernel_rfl
 hz0:=by kernel_rfl
 hz1:=by kernel_rfl
 CA:=by kernel_rfl
 hzs:=by kernel_rfl
 hsz:=by decide
noncomputable def iV (zs:List nI.T)(i:Int)(vs:List nI.T):Option (List nI.T):=Qp 24 zs i vs
noncomputable def RF:dA:=⟨84,nI,[.int .i64,.row nI],false,fun zs x=>iV zs x.1 x.2.1⟩
theorem Xq:RF.OK Tryz.prog 158:=Bi (ρ:=Gn) (e:=nI) Rn (by decide)
abbrev uO:Ty:=.pair (.int .i64) (.int .i64)
noncomputable def BK:Ren:=⟨fun n=>cond (Nat.beq n 41) 169 n,fun n=>cond (Nat.beq n 22) 160 (cond (Nat.beq n 23) 170 n),fun n=>n⟩
theorem O9:SlLaysE0.n41 Tryz.prog BK where
 mixed:=by kernel_rfl
 f41:=⟨Tryz.f169.name,by kernel_rfl,by kernel_rfl⟩
 t4:=Tryz.underlying4
 a4:=Tryz.isAgg4
 z4:=Tryz.sizeOf4
 v4:=Tryz.zeroValue4
 t22:=Tryz.underlying160
 a22:=Tryz.isAgg160
 z22:=Tryz.sizeOf160
 v22:=Tryz.zeroValue160
noncomputable def jI (xs:List uO.T):Option (List uO.T×Unit):=jU 16 xs
noncomputable def Ba:bA:=⟨[.row uO],[.own 170 uO],fun x=>jI x.1⟩
theorem UO:Ba.OK Tryz.prog 169:=r9 (ρ:=BK) (i0:=uu 170) (z:=(Value.agg #[.int .i64 0,.int .i64 0])) (bytes:=16) (e:=uO) O9 (by kernel_rfl) (by kernel_rfl) (by kernel_rfl) (by kernel_rfl) (by kernel_rfl) (by decide) (by decide) Tryz.sizeOf170
noncomputable def ZH:dA:=⟨3,.int .i64,[],true,fun zs _=>Kb zs⟩
theorem ZT:ZH.OK Tryz.prog 153:=Yc Tryz.MU (fun w=>Tryz.slices_Sort_int_none none 0 w) 3
noncomputable def I3:dA:=⟨3,.int .i64,[],false,fun zs _=>nB zs⟩
theorem PE:I3.OK Tryz.prog 154:=KS Tryz.uh 3
noncomputable def ZF:bA:=⟨[.int .u64],[.val (.int .i64)],fun x=>fTz x.1⟩
theorem LP (n:Int)(h0:0≤n)(h1:n<18446744073709551616):n.toNat<18446744073709551616∧((n.toNat:Nat):Int)=n:=⟨by omega,by omega⟩
theorem adX:ZF.OK Tryz.prog 183:=by
 intro x y hf S w vs hst hpre ha
 obtain⟨n,u⟩:=x
 obtain⟨v,r,rfl,h1,h2⟩:=ha
 simp only[js] at h2
 subst h2
 simp only[Vp,Ty.isAgg,Rd] at h1
 simp only[Bool.false_eq_true,if_false,List.cons.injEq,and_true] at h1
 subst h1
 obtain⟨hc,rfl⟩:=aj (show cond (decide (0≤n)&&decide (n<18446744073709551616)) (some (tzI n,())) none=some y from hf)
 simp only[Bool.and_eq_true,decide_eq_true_eq] at hc
 obtain⟨h2,hn⟩:=LP n hc.1 hc.2
 have:=Tryz.bits_TrailingZeros n.toNat h2 w (fun _=>hpre w hst)
 rw[hn] at this
 refine this.mono ?_
 rintro e w' ⟨rfl,rfl⟩
 exact⟨[.int .i64 (tzI n)],S,[],rfl,Below.refl _ _,fun _ _ h=>h,hst,fun b h=>.inl h,⟨_,[],[],[],rfl,rfl,by simp[uM,gj.isAgg,Ty.isAgg,Qv,Rd,tzI],rfl,rfl⟩,by simp,.nil⟩
theorem cmp_eq (x y:Int):Lib.compareInt x y=if x<y then -1 else if y<x then 1 else 0:=rfl
theorem zm (x y:Int×Int):Go.Proofs.ltOf Go.Proofs.xk x y=decide (x.2<y.2∨(x.2=y.2∧x.1<y.1)):=by
 unfold Go.Proofs.ltOf Go.Proofs.xk Go.Proofs.orI
 rw[cmp_eq,cmp_eq]
 refine decide_eq_decide.2 ?_
 constructor
 ·intro h
  by_cases h1:x.2<y.2
  ·exact .inl h1
  ·by_cases h2:y.2<x.2
   ·simp[h1,h2] at h
   ·by_cases h3:x.1<y.1
    ·exact .inr ⟨by omega,h3⟩
    ·by_cases h4:y.1<x.1<;>simp[h1,h2,h3,h4] at h
 ·rintro (h|⟨h1,h2⟩)
  ·simp[h]
  ·simp[h1,h2]
theorem W8:Go.Sort.SWO (Go.Proofs.ltOf Go.Proofs.xk) where
 irrefl x:=by rw[zm];exact decide_eq_false (by omega)
 trans x y z h1 h2:=by
  rw[zm] at *
  simp only[decide_eq_true_eq] at *
  omega
 ntrans x y z h1 h2:=by
  rw[zm] at *
  simp only[decide_eq_false_iff_not] at *
  omega
theorem PB (x y:Int×Int)(h1:Go.Proofs.ltOf Go.Proofs.xk x y=false)(h2:Go.Proofs.ltOf Go.Proofs.xk y x=false):x=y:=by
 rw[zm] at h1 h2
 simp only[decide_eq_false_iff_not] at h1 h2
 obtain⟨a,b⟩:=x
 obtain⟨c,d⟩:=y
 simp only[Prod.mk.injEq] at *
 omega
noncomputable def uV (zs:List (Int×Int)):Option (List (Int×Int)):=KL Go.Proofs.xk zs
noncomputable def Mr:dA:=⟨170,uO,[.Bo 168],true,fun zs _=>uV zs⟩
theorem Oh:Mr.OK Tryz.prog 173:=
 TD (ρ:=Tryz.BQ) Tryz.iz Tryz.isAgg170 Tryz.sizeOf170 168 Go.Proofs.xk W8 PB (enters_of Tryz.func168 (by kernel_rfl) rfl) Tryz.FP 170
end Go.Proofs.Zz
