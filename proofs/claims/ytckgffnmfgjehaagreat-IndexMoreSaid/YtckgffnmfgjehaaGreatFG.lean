/- Lib18. -/
import Derived.Test.YtckgffnmfgjehaaGreatFS
import Derived.Test.YtckgffnmfgjehaaGreatFE
import Derived.KernelRfl
import Derived.Test.YtckgffnmfgjehaaGreatFD
namespace Go.Proofs.Zz
open Go Go.Sy Go.RowKit Go.Proofs Go.Shelf
set_option linter.unusedVariables false
set_option maxRecDepth 100000
noncomputable instance Wx:aq:=⟨fun _=>True,cI Tryz.prog,fun _ _ _ h=>h⟩
instance WW:Ab Tryz.prog:=⟨fun _ _=>rfl⟩
noncomputable def gH (t:TypeId):TypeInfo:=match Tryz.prog.info? t with
 | some i=>i
 | none=>⟨.bool, "", 0,0,false,0,0,none,false,#[]⟩
abbrev gi:Ty:=.pair (.int .i64) (.pair (.row (.int .u8)) (.int .i64))
noncomputable def za:Ren:=⟨fun n=>cond (Nat.beq n 41) 130 n,fun n=>cond (Nat.beq n 22) 43 (cond (Nat.beq n 23) 84 n),fun n=>n⟩
theorem HY:SlLaysE0.n41 Tryz.prog za where
 mixed:=by kernel_rfl
 f41:=⟨Tryz.f130.name,by kernel_rfl,by kernel_rfl⟩
 t4:=Tryz.underlying4
 a4:=Tryz.isAgg4
 z4:=Tryz.sizeOf4
 v4:=Tryz.zeroValue4
 t22:=Tryz.underlying43
 a22:=Tryz.isAgg43
 z22:=Tryz.sizeOf43
 v22:=Tryz.zeroValue43
noncomputable def ij (xs:List gi.T):Option (List gi.T×Unit):=kV 40 xs
noncomputable def xV:aT:=⟨[.row gi],[.own 84 gi],fun x=>ij x.1⟩
theorem D1:xV.OK Tryz.prog 130:=jz (ρ:=za) (i0:=gH 84) (z:=(Value.agg #[.int .i64 0,.slice none 0 0,.int .i64 0])) (bytes:=40) (e:=gi) HY (by kernel_rfl) (by kernel_rfl) (by kernel_rfl) (by kernel_rfl) (by kernel_rfl) (by decide) (by decide) Tryz.sizeOf84
noncomputable def xP:Ren:=⟨fun n=>cond (Nat.beq n 22) 118 (cond (Nat.beq n 29) 156 (cond (Nat.beq n 30) 157 n)),fun n=>cond (Nat.beq n 9) 84 (cond (Nat.beq n 24) 43 n),fun n=>n⟩
theorem Gl:kK Tryz.prog xP (gH 84) (Value.agg #[.int .i64 0,.slice none 0 0,.int .i64 0]) 3 40 where
 mixed:=by kernel_rfl
 f22:=⟨Tryz.f118.name,by kernel_rfl,by kernel_rfl⟩
 fo:=run_callFunc_extern Tryz.func156 (by kernel_rfl) (by kernel_rfl) (by kernel_rfl) (by kernel_rfl)
 t0:=Tryz.underlying0
 a0:=Tryz.isAgg0
 z0:=Tryz.sizeOf0
 v0:=Tryz.zeroValue0
 t3:=Tryz.underlying3
 a3:=Tryz.isAgg3
 z3:=Tryz.sizeOf3
 v3:=Tryz.zeroValue3
 t4:=Tryz.underlying4
 a4:=Tryz.isAgg4
 z4:=Tryz.sizeOf4
 v4:=Tryz.zeroValue4
 z9:=Tryz.sizeOf84
 t24:=Tryz.underlying43
 a24:=Tryz.isAgg43
 z24:=Tryz.sizeOf43
 v24:=Tryz.zeroValue43
 hi:=by kernel_rfl
 hz0:=by kernel_rfl
 hz1:=by kernel_rfl
 sC:=by kernel_rfl
 hzs:=by kernel_rfl
 hsz:=by decide
noncomputable def zy (zs:List gi.T)(i:Int)(vs:List gi.T):Option (List gi.T):=Jm 40 zs i vs
noncomputable def Hq:bF:=⟨84,gi,[.int .i64,.row gi],false,fun zs x=>zy zs x.1 x.2.1⟩
theorem Lj:Hq.OK Tryz.prog 118:=oF (ρ:=xP) (e:=gi) Gl (by decide)
abbrev qJ:Ty:=.int .u8
noncomputable def xW:Ren:=⟨fun n=>cond (Nat.beq n 41) 131 n,fun n=>cond (Nat.beq n 22) 82 (cond (Nat.beq n 23) 5 n),fun n=>n⟩
theorem IW:SlLaysE0.n41 Tryz.prog xW where
 mixed:=by kernel_rfl
 f41:=⟨Tryz.f131.name,by kernel_rfl,by kernel_rfl⟩
 t4:=Tryz.underlying4
 a4:=Tryz.isAgg4
 z4:=Tryz.sizeOf4
 v4:=Tryz.zeroValue4
 t22:=Tryz.underlying82
 a22:=Tryz.isAgg82
 z22:=Tryz.sizeOf82
 v22:=Tryz.zeroValue82
noncomputable def dO (xs:List qJ.T):Option (List qJ.T×Unit):=kV 1 xs
noncomputable def Fo:aT:=⟨[.row qJ],[.own 5 qJ],fun x=>dO x.1⟩
theorem x6:Fo.OK Tryz.prog 131:=jz (ρ:=xW) (i0:=gH 5) (z:=(.int .u8 0)) (bytes:=1) (e:=qJ) IW (by kernel_rfl) (by kernel_rfl) (by kernel_rfl) (by kernel_rfl) (by kernel_rfl) (by decide) (by decide) Tryz.sizeOf5
abbrev yP:Ty:=.pair (.int .i64) (.pair (.int .i64) (.int .i64))
noncomputable def Al:Ren:=⟨fun n=>cond (Nat.beq n 41) 166 n,fun n=>cond (Nat.beq n 22) 51 (cond (Nat.beq n 23) 180 n),fun n=>n⟩
theorem IE:SlLaysE0.n41 Tryz.prog Al where
 mixed:=by kernel_rfl
 f41:=⟨Tryz.f166.name,by kernel_rfl,by kernel_rfl⟩
 t4:=Tryz.underlying4
 a4:=Tryz.isAgg4
 z4:=Tryz.sizeOf4
 v4:=Tryz.zeroValue4
 t22:=Tryz.underlying51
 a22:=Tryz.isAgg51
 z22:=Tryz.sizeOf51
 v22:=Tryz.zeroValue51
noncomputable def iy (xs:List yP.T):Option (List yP.T×Unit):=kV 24 xs
noncomputable def lE:aT:=⟨[.row yP],[.own 180 yP],fun x=>iy x.1⟩
theorem xy:lE.OK Tryz.prog 166:=jz (ρ:=Al) (i0:=gH 180) (z:=(Value.agg #[.int .i64 0,.int .i64 0,.int .i64 0])) (bytes:=24) (e:=yP) IE (by kernel_rfl) (by kernel_rfl) (by kernel_rfl) (by kernel_rfl) (by kernel_rfl) (by decide) (by decide) Tryz.sizeOf180
abbrev fu:Ty:=.pair (.int .i64) (.pair (.int .i64) (.pair (.int .i64) (.pair (.int .i64) (.int .i64))))
noncomputable def tH:Ren:=⟨fun n=>cond (Nat.beq n 41) 167 n,fun n=>cond (Nat.beq n 22) 52 (cond (Nat.beq n 23) 61 n),fun n=>n⟩
theorem Fq:SlLaysE0.n41 Tryz.prog tH where
 mixed:=by kernel_rfl
 f41:=⟨Tryz.f167.name,by kernel_rfl,by kernel_rfl⟩
 t4:=Tryz.underlying4
 a4:=Tryz.isAgg4
 z4:=Tryz.sizeOf4
 v4:=Tryz.zeroValue4
 t22:=Tryz.underlying52
 a22:=Tryz.isAgg52
 z22:=Tryz.sizeOf52
 v22:=Tryz.zeroValue52
noncomputable def eu (xs:List fu.T):Option (List fu.T×Unit):=kV 40 xs
noncomputable def gh:aT:=⟨[.row fu],[.own 61 fu],fun x=>eu x.1⟩
theorem nq:gh.OK Tryz.prog 167:=jz (ρ:=tH) (i0:=gH 61) (z:=(Value.agg #[.int .i64 0,.int .i64 0,.int .i64 0,.int .i64 0,.int .i64 0])) (bytes:=40) (e:=fu) Fq (by kernel_rfl) (by kernel_rfl) (by kernel_rfl) (by kernel_rfl) (by kernel_rfl) (by decide) (by decide) Tryz.sizeOf61
noncomputable def tG:Ren:=⟨fun n=>cond (Nat.beq n 22) 202 (cond (Nat.beq n 29) 212 (cond (Nat.beq n 30) 213 n)),fun n=>cond (Nat.beq n 9) 61 (cond (Nat.beq n 24) 52 n),fun n=>n⟩
theorem Fj:kK Tryz.prog tG (gH 61) (Value.agg #[.int .i64 0,.int .i64 0,.int .i64 0,.int .i64 0,.int .i64 0]) 5 40 where
 mixed:=by kernel_rfl
 f22:=⟨Tryz.f202.name,by kernel_rfl,by kernel_rfl⟩
 fo:=run_callFunc_extern Tryz.func212 (by kernel_rfl) (by kernel_rfl) (by kernel_rfl) (by kernel_rfl)
 t0:=Tryz.underlying0
 a0:=Tryz.isAgg0
 z0:=Tryz.sizeOf0
 v0:=Tryz.zeroValue0
 t3:=Tryz.underlying3
 a3:=Tryz.isAgg3
 z3:=Tryz.sizeOf3
 v3:=Tryz.zeroValue3
 t4:=Tryz.underlying4
 a4:=Tryz.isAgg4
 z4:=Tryz.sizeOf4
 v4:=Tryz.zeroValue4
 z9:=Tryz.sizeOf61
 t24:=Tryz.underlying52
 a24:=Tryz.isAgg52
 z24:=Tryz.sizeOf52
 v24:=Tryz.zeroValue52
 hi:=by kernel_rfl
 hz0:=by kernel_rfl
 hz1:=by kernel_rfl
 sC:=by kernel_rfl
 hzs:=by kernel_rfl
 hsz:=by decide
noncomputable def ul (zs:List fu.T)(i:Int)(vs:List fu.T):Option (List fu.T):=Jm 40 zs i vs
noncomputable def DP:bF:=⟨61,fu,[.int .i64,.row fu],false,fun zs x=>ul zs x.1 x.2.1⟩
theorem JO:DP.OK Tryz.prog 202:=oF (ρ:=tG) (e:=fu) Fj (by decide)
abbrev iQ:Ty:=.pair (.int .i64) (.pair (.int .i64) (.int .i64))
noncomputable def yx:Ren:=⟨fun n=>cond (Nat.beq n 41) 168 n,fun n=>cond (Nat.beq n 22) 53 (cond (Nat.beq n 23) 184 n),fun n=>n⟩
theorem Gq:SlLaysE0.n41 Tryz.prog yx where
 mixed:=by kernel_rfl
 f41:=⟨Tryz.f168.name,by kernel_rfl,by kernel_rfl⟩
 t4:=Tryz.underlying4
 a4:=Tryz.isAgg4
 z4:=Tryz.sizeOf4
 v4:=Tryz.zeroValue4
 t22:=Tryz.underlying53
 a22:=Tryz.isAgg53
 z22:=Tryz.sizeOf53
 v22:=Tryz.zeroValue53
noncomputable def eY (xs:List iQ.T):Option (List iQ.T×Unit):=kV 24 xs
noncomputable def jr:aT:=⟨[.row iQ],[.own 184 iQ],fun x=>eY x.1⟩
theorem p9:jr.OK Tryz.prog 168:=jz (ρ:=yx) (i0:=gH 184) (z:=(Value.agg #[.int .i64 0,.int .i64 0,.int .i64 0])) (bytes:=24) (e:=iQ) Gq (by kernel_rfl) (by kernel_rfl) (by kernel_rfl) (by kernel_rfl) (by kernel_rfl) (by decide) (by decide) Tryz.sizeOf184
noncomputable def yu:Ren:=⟨fun n=>cond (Nat.beq n 22) 207 (cond (Nat.beq n 29) 217 (cond (Nat.beq n 30) 218 n)),fun n=>cond (Nat.beq n 9) 184 (cond (Nat.beq n 24) 53 n),fun n=>n⟩
theorem Kr:kK Tryz.prog yu (gH 184) (Value.agg #[.int .i64 0,.int .i64 0,.int .i64 0]) 3 24 where
 mixed:=by kernel_rfl
 f22:=⟨Tryz.f207.name,by kernel_rfl,by kernel_rfl⟩
 fo:=run_callFunc_extern Tryz.func217 (by kernel_rfl) (by kernel_rfl) (by kernel_rfl) (by kernel_rfl)
 t0:=Tryz.underlying0
 a0:=Tryz.isAgg0
 z0:=Tryz.sizeOf0
 v0:=Tryz.zeroValue0
 t3:=Tryz.underlying3
 a3:=Tryz.isAgg3
 z3:=Tryz.sizeOf3
 v3:=Tryz.zeroValue3
 t4:=Tryz.underlying4
 a4:=Tryz.isAgg4
 z4:=Tryz.sizeOf4
 v4:=Tryz.zeroValue4
 z9:=Tryz.sizeOf184
 t24:=Tryz.underlying53
 a24:=Tryz.isAgg53
 z24:=Tryz.sizeOf53
 v24:=Tryz.zeroValue53
 hi:=by kernel_rfl
 hz0:=by kernel_rfl
 hz1:=by kernel_rfl
 sC:=by kernel_rfl
 hzs:=by kernel_rfl
 hsz:=by decide
noncomputable def mE (zs:List iQ.T)(i:Int)(vs:List iQ.T):Option (List iQ.T):=Jm 24 zs i vs
noncomputable def Kc:bF:=⟨184,iQ,[.int .i64,.row iQ],false,fun zs x=>mE zs x.1 x.2.1⟩
theorem K0:Kc.OK Tryz.prog 207:=oF (ρ:=yu) (e:=iQ) Kr (by decide)
noncomputable def ND:bF:=⟨3,.int .i64,[],true,fun zs _=>Hu zs⟩
theorem Pz:ND.OK Tryz.prog 209:=Mj Tryz.D4 (fun w=>Tryz.slices_Sort_int_none none 0 w) 3
noncomputable def zL:bF:=⟨3,.int .i64,[],false,fun zs _=>r6 zs⟩
theorem EX:zL.OK Tryz.prog 210:=BZ Tryz.oD 3
abbrev SW:Ty:=.pair (.int .i64) (.row gi)
noncomputable def qB:aT:=⟨[.row qJ],[.val (.row qJ)],fun x=>dO x.1⟩
theorem D8:qB.OK Tryz.prog 131:=aT.frozen x6
noncomputable def tU:aT:=⟨[.row gi],[.deep 84 5 true],fun x=>ij x.1⟩
theorem I3:tU.OK Tryz.prog 130:=aT.eW D1
noncomputable def Ns (xs:List Int):Option (List Unit):=(dO xs).map fun _=>[]
noncomputable def Nc:bF:=⟨5,.nil,[.row (.int .u8)],true,fun _ x=>Ns x.1⟩
theorem K2:Nc.OK Tryz.prog 131:=LQ (g:=dO) x6 fun xs y h=>by
 obtain⟨_,rfl⟩:=ah (show cond (Nat.ble (xs.length * 1) 140737488355328) (some (xs,())) none=some y from h)
 rfl
noncomputable def Dx:Ren:=⟨fun n=>cond (Nat.beq n 4) 160 n,fun n=>cond (Nat.beq n 22) 82 (cond (Nat.beq n 25) 5 n),fun n=>n⟩
theorem Lt:Lays8.n4 Tryz.prog Dx where
 mixed:=by kernel_rfl
 f4:=⟨Tryz.f160.name,by kernel_rfl,by kernel_rfl⟩
 t0:=Tryz.underlying0
 a0:=Tryz.isAgg0
 z0:=Tryz.sizeOf0
 v0:=Tryz.zeroValue0
 t3:=Tryz.underlying3
 a3:=Tryz.isAgg3
 z3:=Tryz.sizeOf3
 v3:=Tryz.zeroValue3
 t4:=Tryz.underlying4
 a4:=Tryz.isAgg4
 z4:=Tryz.sizeOf4
 v4:=Tryz.zeroValue4
 t9:=Tryz.underlying9
 a9:=Tryz.isAgg9
 z9:=Tryz.sizeOf9
 v9:=Tryz.zeroValue9
 t20:=Tryz.underlying20
 a20:=Tryz.isAgg20
 z20:=Tryz.sizeOf20
 v20:=Tryz.zeroValue20
 t22:=Tryz.underlying82
 a22:=Tryz.isAgg82
 z22:=Tryz.sizeOf82
 v22:=Tryz.zeroValue82
noncomputable def IK (n:Int):Option (List Int×Unit):=Hi 1 n
noncomputable def yW:aT:=⟨[.nil,.int .i64],[.own 5 (.int .u8)],fun x=>IK x.2.1⟩
theorem Li:yW.OK Tryz.prog 160:=zT (ρ:=Dx) (i0:=gH 5) (z:=(.int .u8 0)) (bytes:=1) (e:=.int .u8) Lt (by kernel_rfl) (by kernel_rfl) (by kernel_rfl) (by kernel_rfl) (by kernel_rfl) (by decide) (by decide)
end Go.Proofs.Zz
