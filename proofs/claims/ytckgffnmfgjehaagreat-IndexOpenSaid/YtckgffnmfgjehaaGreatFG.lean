/- Lib18. -/
import Derived.Test.YtckgffnmfgjehaaGreatFS
import Derived.Test.YtckgffnmfgjehaaGreatFE
import Derived.KernelRfl
import Derived.Test.YtckgffnmfgjehaaGreatFD
open Nat renaming beq → ae
open Go.Proofs.SlLaysE0 renaming n41 → al
open Go.Value renaming agg → ap
namespace Go.Proofs.Zz
open Go Go.Sy Go.RowKit Go.Proofs Go.Shelf
set_option linter.unusedVariables false
set_option maxRecDepth 100000
noncomputable instance aeB:aq:=⟨fun _=>True,dB Tryz.prog,fun _ _ _ h=>h⟩
instance aeA:Ng Tryz.prog:=⟨fun _ _=>rfl⟩
noncomputable def lm (t:TypeId):TypeInfo:=match Tryz.prog.info? t with
 | some i=>i
 | none=>⟨.bool, "", 0,0,false,0,0,none,false,#[]⟩
abbrev jP:Ty:=.pair (.int .i64) (.pair (.row (.int .u8)) (.int .i64))
noncomputable def Fw:Ren:=⟨fun n=>cond (ae n 41) 130 n,fun n=>cond (ae n 22) 43 (cond (ae n 23) 84 n),fun n=>n⟩
theorem Ou:al Tryz.prog Fw where
 mixed:=by kernel_rfl
 f41:=⟨Tryz.f130.name,by kernel_rfl,by kernel_rfl⟩
 t4:=Tryz.underlying4
 a4:=Tryz.isAgg4
 z4:=Tryz.sizeOf4
 v4:=Tryz.zeroValue4
 t22:=Tryz.underlying43
 a22:=Tryz.isAgg43
 z22:=Tryz.sizeOf43
 v22:=Tryz.zeroValue43
noncomputable def gW (xs:List jP.T):Option (List jP.T×Unit):=jo 40 xs
noncomputable def Dy:aX:=⟨[.row jP],[.own 84 jP],fun x=>gW x.1⟩
theorem Kq:Dy.OK Tryz.prog 130:=mr (ρ:=Fw) (i0:=lm 84) (z:=(ap #[.int .i64 0,.slice none 0 0,.int .i64 0])) (bytes:=40) (e:=jP) Ou (by kernel_rfl) (by kernel_rfl) (by kernel_rfl) (by kernel_rfl) (by kernel_rfl) (by decide) (by decide) Tryz.sizeOf84
noncomputable def EK:Ren:=⟨fun n=>cond (ae n 22) 118 (cond (ae n 29) 156 (cond (ae n 30) 157 n)),fun n=>cond (ae n 9) 84 (cond (ae n 24) 43 n),fun n=>n⟩
theorem Nn:ph Tryz.prog EK (lm 84) (ap #[.int .i64 0,.slice none 0 0,.int .i64 0]) 3 40 where
 mixed:=by kernel_rfl
 f22:=⟨Tryz.f118.name,by kernel_rfl,by kernel_rfl⟩
 fo:=run_callFunc_extern Tryz.func156 (by kernel_rfl) (by kernel_rfl) (by kernel_rfl) (by kernel_rfl)
 t0:=Tryz.underlying0
 a0:=Tryz.isAgg0
 z0:=Tryz.sizeOf0
 v0:=Tryz.zeroValue0
 t3:=Tryz.underlying3
 a3:=Tryz.isAgg3
 z3:=Tryz.sizeOf3
 v3:=Tryz.zeroValue3
 t4:=Tryz.underlying4
 a4:=Tryz.isAgg4
 z4:=Tryz.sizeOf4
 v4:=Tryz.zeroValue4
 z9:=Tryz.sizeOf84
 t24:=Tryz.underlying43
 a24:=Tryz.isAgg43
 z24:=Tryz.sizeOf43
 v24:=Tryz.zeroValue43
 hi:=by kernel_rfl
 hz0:=by kernel_rfl
 hz1:=by kernel_rfl
 xR:=by kernel_rfl
 hzs:=by kernel_rfl
 hsz:=by decide
noncomputable def C8 (zs:List jP.T)(i:Int)(vs:List jP.T):Option (List jP.T):=HI 40 zs i vs
noncomputable def N6:b5:=⟨84,jP,[.int .i64,.row jP],false,fun zs x=>C8 zs x.1 x.2.1⟩
theorem R8:N6.OK Tryz.prog 118:=sQ (ρ:=EK) (e:=jP) Nn (by decide)
abbrev wT:Ty:=.int .u8
noncomputable def EO:Ren:=⟨fun n=>cond (ae n 41) 131 n,fun n=>cond (ae n 22) 82 (cond (ae n 23) 5 n),fun n=>n⟩
theorem Od:al Tryz.prog EO where
 mixed:=by kernel_rfl
 f41:=⟨Tryz.f131.name,by kernel_rfl,by kernel_rfl⟩
 t4:=Tryz.underlying4
 a4:=Tryz.isAgg4
 z4:=Tryz.sizeOf4
 v4:=Tryz.zeroValue4
 t22:=Tryz.underlying82
 a22:=Tryz.isAgg82
 z22:=Tryz.sizeOf82
 v22:=Tryz.zeroValue82
noncomputable def ed (xs:List wT.T):Option (List wT.T×Unit):=jo 1 xs
noncomputable def L6:aX:=⟨[.row wT],[.own 5 wT],fun x=>ed x.1⟩
theorem C5:L6.OK Tryz.prog 131:=mr (ρ:=EO) (i0:=lm 5) (z:=(.int .u8 0)) (bytes:=1) (e:=wT) Od (by kernel_rfl) (by kernel_rfl) (by kernel_rfl) (by kernel_rfl) (by kernel_rfl) (by decide) (by decide) Tryz.sizeOf5
abbrev Dr:Ty:=.pair (.int .i64) (.pair (.int .i64) (.int .i64))
noncomputable def Ec:Ren:=⟨fun n=>cond (ae n 41) 166 n,fun n=>cond (ae n 22) 51 (cond (ae n 23) 180 n),fun n=>n⟩
theorem Rz:al Tryz.prog Ec where
 mixed:=by kernel_rfl
 f41:=⟨Tryz.f166.name,by kernel_rfl,by kernel_rfl⟩
 t4:=Tryz.underlying4
 a4:=Tryz.isAgg4
 z4:=Tryz.sizeOf4
 v4:=Tryz.zeroValue4
 t22:=Tryz.underlying51
 a22:=Tryz.isAgg51
 z22:=Tryz.sizeOf51
 v22:=Tryz.zeroValue51
noncomputable def fR (xs:List Dr.T):Option (List Dr.T×Unit):=jo 24 xs
noncomputable def rz:aX:=⟨[.row Dr],[.own 180 Dr],fun x=>fR x.1⟩
theorem As:rz.OK Tryz.prog 166:=mr (ρ:=Ec) (i0:=lm 180) (z:=(ap #[.int .i64 0,.int .i64 0,.int .i64 0])) (bytes:=24) (e:=Dr) Rz (by kernel_rfl) (by kernel_rfl) (by kernel_rfl) (by kernel_rfl) (by kernel_rfl) (by decide) (by decide) Tryz.sizeOf180
abbrev ir:Ty:=.pair (.int .i64) (.pair (.int .i64) (.pair (.int .i64) (.pair (.int .i64) (.int .i64))))
noncomputable def yM:Ren:=⟨fun n=>cond (ae n 41) 167 n,fun n=>cond (ae n 22) 52 (cond (ae n 23) 61 n),fun n=>n⟩
theorem Md:al Tryz.prog yM where
 mixed:=by kernel_rfl
 f41:=⟨Tryz.f167.name,by kernel_rfl,by kernel_rfl⟩
 t4:=Tryz.underlying4
 a4:=Tryz.isAgg4
 z4:=Tryz.sizeOf4
 v4:=Tryz.zeroValue4
 t22:=Tryz.underlying52
 a22:=Tryz.isAgg52
 z22:=Tryz.sizeOf52
 v22:=Tryz.zeroValue52
noncomputable def dh (xs:List ir.T):Option (List ir.T×Unit):=jo 40 xs
noncomputable def jM:aX:=⟨[.row ir],[.own 61 ir],fun x=>dh x.1⟩
theorem rE:jM.OK Tryz.prog 167:=mr (ρ:=yM) (i0:=lm 61) (z:=(ap #[.int .i64 0,.int .i64 0,.int .i64 0,.int .i64 0,.int .i64 0])) (bytes:=40) (e:=ir) Md (by kernel_rfl) (by kernel_rfl) (by kernel_rfl) (by kernel_rfl) (by kernel_rfl) (by decide) (by decide) Tryz.sizeOf61
noncomputable def yI:Ren:=⟨fun n=>cond (ae n 22) 202 (cond (ae n 29) 212 (cond (ae n 30) 213 n)),fun n=>cond (ae n 9) 61 (cond (ae n 24) 52 n),fun n=>n⟩
theorem LR:ph Tryz.prog yI (lm 61) (ap #[.int .i64 0,.int .i64 0,.int .i64 0,.int .i64 0,.int .i64 0]) 5 40 where
 mixed:=by kernel_rfl
 f22:=⟨Tryz.f202.name,by kernel_rfl,by kernel_rfl⟩
 fo:=run_callFunc_extern Tryz.func212 (by kernel_rfl) (by kernel_rfl) (by kernel_rfl) (by kernel_rfl)
 t0:=Tryz.underlying0
 a0:=Tryz.isAgg0
 z0:=Tryz.sizeOf0
 v0:=Tryz.zeroValue0
 t3:=Tryz.underlying3
 a3:=Tryz.isAgg3
 z3:=Tryz.sizeOf3
 v3:=Tryz.zeroValue3
 t4:=Tryz.underlying4
 a4:=Tryz.isAgg4
 z4:=Tryz.sizeOf4
 v4:=Tryz.zeroValue4
 z9:=Tryz.sizeOf61
 t24:=Tryz.underlying52
 a24:=Tryz.isAgg52
 z24:=Tryz.sizeOf52
 v24:=Tryz.zeroValue52
 hi:=by kernel_rfl
 hz0:=by kernel_rfl
 hz1:=by kernel_rfl
 xR:=by kernel_rfl
 hzs:=by kernel_rfl
 hsz:=by decide
noncomputable def jJ (zs:List ir.T)(i:Int)(vs:List ir.T):Option (List ir.T):=HI 40 zs i vs
noncomputable def Kl:b5:=⟨61,ir,[.int .i64,.row ir],false,fun zs x=>jJ zs x.1 x.2.1⟩
theorem Rc:Kl.OK Tryz.prog 202:=sQ (ρ:=yI) (e:=ir) LR (by decide)
abbrev mJ:Ty:=.pair (.int .i64) (.pair (.int .i64) (.int .i64))
noncomputable def EJ:Ren:=⟨fun n=>cond (ae n 41) 168 n,fun n=>cond (ae n 22) 53 (cond (ae n 23) 184 n),fun n=>n⟩
theorem QM:al Tryz.prog EJ where
 mixed:=by kernel_rfl
 f41:=⟨Tryz.f168.name,by kernel_rfl,by kernel_rfl⟩
 t4:=Tryz.underlying4
 a4:=Tryz.isAgg4
 z4:=Tryz.sizeOf4
 v4:=Tryz.zeroValue4
 t22:=Tryz.underlying53
 a22:=Tryz.isAgg53
 z22:=Tryz.sizeOf53
 v22:=Tryz.zeroValue53
noncomputable def en (xs:List mJ.T):Option (List mJ.T×Unit):=jo 24 xs
noncomputable def mj:aX:=⟨[.row mJ],[.own 184 mJ],fun x=>en x.1⟩
theorem uO:mj.OK Tryz.prog 168:=mr (ρ:=EJ) (i0:=lm 184) (z:=(ap #[.int .i64 0,.int .i64 0,.int .i64 0])) (bytes:=24) (e:=mJ) QM (by kernel_rfl) (by kernel_rfl) (by kernel_rfl) (by kernel_rfl) (by kernel_rfl) (by decide) (by decide) Tryz.sizeOf184
noncomputable def EW:Ren:=⟨fun n=>cond (ae n 22) 207 (cond (ae n 29) 217 (cond (ae n 30) 218 n)),fun n=>cond (ae n 9) 184 (cond (ae n 24) 53 n),fun n=>n⟩
theorem Ro:ph Tryz.prog EW (lm 184) (ap #[.int .i64 0,.int .i64 0,.int .i64 0]) 3 24 where
 mixed:=by kernel_rfl
 f22:=⟨Tryz.f207.name,by kernel_rfl,by kernel_rfl⟩
 fo:=run_callFunc_extern Tryz.func217 (by kernel_rfl) (by kernel_rfl) (by kernel_rfl) (by kernel_rfl)
 t0:=Tryz.underlying0
 a0:=Tryz.isAgg0
 z0:=Tryz.sizeOf0
 v0:=Tryz.zeroValue0
 t3:=Tryz.underlying3
 a3:=Tryz.isAgg3
 z3:=Tryz.sizeOf3
 v3:=Tryz.zeroValue3
 t4:=Tryz.underlying4
 a4:=Tryz.isAgg4
 z4:=Tryz.sizeOf4
 v4:=Tryz.zeroValue4
 z9:=Tryz.sizeOf184
 t24:=Tryz.underlying53
 a24:=Tryz.isAgg53
 z24:=Tryz.sizeOf53
 v24:=Tryz.zeroValue53
 hi:=by kernel_rfl
 hz0:=by kernel_rfl
 hz1:=by kernel_rfl
 xR:=by kernel_rfl
 hzs:=by kernel_rfl
 hsz:=by decide
noncomputable def gV (zs:List mJ.T)(i:Int)(vs:List mJ.T):Option (List mJ.T):=HI 24 zs i vs
noncomputable def Pk:b5:=⟨184,mJ,[.int .i64,.row mJ],false,fun zs x=>gV zs x.1 x.2.1⟩
theorem RN:Pk.OK Tryz.prog 207:=sQ (ρ:=EW) (e:=mJ) Ro (by decide)
noncomputable def U8:b5:=⟨3,.int .i64,[],true,fun zs _=>Dn zs⟩
theorem X8:U8.OK Tryz.prog 209:=TT Tryz.Kw (fun w=>Tryz.slices_Sort_int_none none 0 w) 3
noncomputable def Eb:b5:=⟨3,.int .i64,[],false,fun zs _=>mV zs⟩
theorem LK:Eb.OK Tryz.prog 210:=Iw Tryz.rV 3
abbrev aa1:Ty:=.pair (.int .i64) (.row jP)
noncomputable def vI:aX:=⟨[.row wT],[.val (.row wT)],fun x=>ed x.1⟩
theorem JN:vI.OK Tryz.prog 131:=aX.frozen C5
noncomputable def yG:aX:=⟨[.row jP],[.deep 84 5 true],fun x=>gW x.1⟩
theorem MV:yG.OK Tryz.prog 130:=aX.iI Kq
noncomputable def U5 (xs:List Int):Option (List Unit):=(ed xs).map fun _=>[]
noncomputable def VC:b5:=⟨5,.nil,[.row (.int .u8)],true,fun _ x=>U5 x.1⟩
theorem S6:VC.OK Tryz.prog 131:=RR (g:=ed) C5 fun xs y h=>by
 obtain⟨_,rfl⟩:=ai (show cond (Nat.ble (xs.length * 1) 140737488355328) (some (xs,())) none=some y from h)
 rfl
noncomputable def Jn:Ren:=⟨fun n=>cond (ae n 4) 160 n,fun n=>cond (ae n 22) 82 (cond (ae n 25) 5 n),fun n=>n⟩
theorem TC:Lays8.n4 Tryz.prog Jn where
 mixed:=by kernel_rfl
 f4:=⟨Tryz.f160.name,by kernel_rfl,by kernel_rfl⟩
 t0:=Tryz.underlying0
 a0:=Tryz.isAgg0
 z0:=Tryz.sizeOf0
 v0:=Tryz.zeroValue0
 t3:=Tryz.underlying3
 a3:=Tryz.isAgg3
 z3:=Tryz.sizeOf3
 v3:=Tryz.zeroValue3
 t4:=Tryz.underlying4
 a4:=Tryz.isAgg4
 z4:=Tryz.sizeOf4
 v4:=Tryz.zeroValue4
 t9:=Tryz.underlying9
 a9:=Tryz.isAgg9
 z9:=Tryz.sizeOf9
 v9:=Tryz.zeroValue9
 t20:=Tryz.underlying20
 a20:=Tryz.isAgg20
 z20:=Tryz.sizeOf20
 v20:=Tryz.zeroValue20
 t22:=Tryz.underlying82
 a22:=Tryz.isAgg82
 z22:=Tryz.sizeOf82
 v22:=Tryz.zeroValue82
noncomputable def Pr (n:Int):Option (List Int×Unit):=NU 1 n
noncomputable def Dg:aX:=⟨[.nil,.int .i64],[.own 5 (.int .u8)],fun x=>Pr x.2.1⟩
theorem Sw:Dg.OK Tryz.prog 160:=Ei (ρ:=Jn) (i0:=lm 5) (z:=(.int .u8 0)) (bytes:=1) (e:=.int .u8) TC (by kernel_rfl) (by kernel_rfl) (by kernel_rfl) (by kernel_rfl) (by kernel_rfl) (by decide) (by decide)
end Go.Proofs.Zz
