/- Lib17. -/
import Derived.Test.YtjkplgcpgpicnaaGreatFS
import Derived.Test.YtjkplgcpgpicnaaGreatFE
import Derived.KernelRfl
import Derived.Test.YtjkplgcpgpicnaaGreatFD
namespace Go.Proofs.Zz
open Go Go.Sy Go.RowKit Go.Proofs Go.Shelf
set_option linter.unusedVariables false
set_option maxRecDepth 100000
noncomputable instance abD:aq:=⟨fun _=>True,dz Tryz.prog,fun _ _ _ h=>h⟩
instance ab8:BP Tryz.prog:=⟨fun _ _=>rfl⟩
noncomputable def jQ (t:TypeId):TypeInfo:=match Tryz.prog.info? t with
 | some i=>i
 | none=>⟨.bool, "", 0,0,false,0,0,none,false,#[]⟩
abbrev jw:Ty:=.pair (.int .i64) (.pair (.row (.int .u8)) (.int .i64))
noncomputable def DQ:Ren:=⟨fun n=>cond (Nat.beq n 41) 157 n,fun n=>cond (Nat.beq n 22) 22 (cond (Nat.beq n 23) 49 n),fun n=>n⟩
theorem NB:SlLaysE0.n41 Tryz.prog DQ where
 mixed:=by kernel_rfl
 f41:=⟨Tryz.f157.name,by kernel_rfl,by kernel_rfl⟩
 t4:=Tryz.underlying4
 a4:=Tryz.isAgg4
 z4:=Tryz.sizeOf4
 v4:=Tryz.zeroValue4
 t22:=Tryz.underlying22
 a22:=Tryz.isAgg22
 z22:=Tryz.sizeOf22
 v22:=Tryz.zeroValue22
noncomputable def gQ (xs:List jw.T):Option (List jw.T×Unit):=iV 40 xs
noncomputable def BJ:aS:=⟨[.row jw],[.own 49 jw],fun x=>gQ x.1⟩
theorem Hw:BJ.OK Tryz.prog 157:=mb (ρ:=DQ) (i0:=jQ 49) (z:=(Value.agg #[.int .i64 0,.slice none 0 0,.int .i64 0])) (bytes:=40) (e:=jw) NB (by kernel_rfl) (by kernel_rfl) (by kernel_rfl) (by kernel_rfl) (by kernel_rfl) (by decide) (by decide) Tryz.sizeOf49
noncomputable def B0:Ren:=⟨fun n=>cond (Nat.beq n 22) 148 (cond (Nat.beq n 29) 179 (cond (Nat.beq n 30) 180 n)),fun n=>cond (Nat.beq n 9) 49 (cond (Nat.beq n 24) 22 n),fun n=>n⟩
theorem KE:nQ Tryz.prog B0 (jQ 49) (Value.agg #[.int .i64 0,.slice none 0 0,.int .i64 0]) 3 40 where
 mixed:=by kernel_rfl
 f22:=⟨Tryz.f148.name,by kernel_rfl,by kernel_rfl⟩
 fo:=run_callFunc_extern Tryz.func179 (by kernel_rfl) (by kernel_rfl) (by kernel_rfl) (by kernel_rfl)
 t0:=Tryz.underlying0
 a0:=Tryz.isAgg0
 z0:=Tryz.sizeOf0
 v0:=Tryz.zeroValue0
 t3:=Tryz.underlying3
 a3:=Tryz.isAgg3
 z3:=Tryz.sizeOf3
 v3:=Tryz.zeroValue3
 t4:=Tryz.underlying4
 a4:=Tryz.isAgg4
 z4:=Tryz.sizeOf4
 v4:=Tryz.zeroValue4
 z9:=Tryz.sizeOf49
 t24:=Tryz.underlying22
 a24:=Tryz.isAgg22
 z24:=Tryz.sizeOf22
 v24:=Tryz.zeroValue22
 hi:=by kernel_rfl
 hz0:=by kernel_rfl
 hz1:=by kernel_rfl
 vY:=by kernel_rfl
 hzs:=by kernel_rfl
 hsz:=by decide
noncomputable def Cg (zs:List jw.T)(i:Int)(vs:List jw.T):Option (List jw.T):=Fs 40 zs i vs
noncomputable def LB:bI:=⟨49,jw,[.int .i64,.row jw],false,fun zs x=>Cg zs x.1 x.2.1⟩
theorem Pw:LB.OK Tryz.prog 148:=rA (ρ:=B0) (e:=jw) KE (by decide)
abbrev uq:Ty:=.int .u8
noncomputable def Ct:Ren:=⟨fun n=>cond (Nat.beq n 41) 129 n,fun n=>cond (Nat.beq n 22) 47 (cond (Nat.beq n 23) 5 n),fun n=>n⟩
theorem Nr:SlLaysE0.n41 Tryz.prog Ct where
 mixed:=by kernel_rfl
 f41:=⟨Tryz.f129.name,by kernel_rfl,by kernel_rfl⟩
 t4:=Tryz.underlying4
 a4:=Tryz.isAgg4
 z4:=Tryz.sizeOf4
 v4:=Tryz.zeroValue4
 t22:=Tryz.underlying47
 a22:=Tryz.isAgg47
 z22:=Tryz.sizeOf47
 v22:=Tryz.zeroValue47
noncomputable def dO (xs:List uq.T):Option (List uq.T×Unit):=iV 1 xs
noncomputable def Je:aS:=⟨[.row uq],[.own 5 uq],fun x=>dO x.1⟩
theorem Di:Je.OK Tryz.prog 129:=mb (ρ:=Ct) (i0:=jQ 5) (z:=(.int .u8 0)) (bytes:=1) (e:=uq) Nr (by kernel_rfl) (by kernel_rfl) (by kernel_rfl) (by kernel_rfl) (by kernel_rfl) (by decide) (by decide) Tryz.sizeOf5
abbrev DP:Ty:=.pair (.int .i64) (.pair (.int .i64) (.int .i64))
noncomputable def CM:Ren:=⟨fun n=>cond (Nat.beq n 41) 95 n,fun n=>cond (Nat.beq n 22) 35 (cond (Nat.beq n 23) 128 n),fun n=>n⟩
theorem Mx:SlLaysE0.n41 Tryz.prog CM where
 mixed:=by kernel_rfl
 f41:=⟨Tryz.f95.name,by kernel_rfl,by kernel_rfl⟩
 t4:=Tryz.underlying4
 a4:=Tryz.isAgg4
 z4:=Tryz.sizeOf4
 v4:=Tryz.zeroValue4
 t22:=Tryz.underlying35
 a22:=Tryz.isAgg35
 z22:=Tryz.sizeOf35
 v22:=Tryz.zeroValue35
noncomputable def fC (xs:List DP.T):Option (List DP.T×Unit):=iV 24 xs
noncomputable def oV:aS:=⟨[.row DP],[.own 128 DP],fun x=>fC x.1⟩
theorem yW:oV.OK Tryz.prog 95:=mb (ρ:=CM) (i0:=jQ 128) (z:=(Value.agg #[.int .i64 0,.int .i64 0,.int .i64 0])) (bytes:=24) (e:=DP) Mx (by kernel_rfl) (by kernel_rfl) (by kernel_rfl) (by kernel_rfl) (by kernel_rfl) (by decide) (by decide) Tryz.sizeOf128
abbrev gJ:Ty:=.pair (.int .i64) (.pair (.int .i64) (.pair (.int .i64) (.pair (.int .i64) (.int .i64))))
noncomputable def xK:Ren:=⟨fun n=>cond (Nat.beq n 41) 96 n,fun n=>cond (Nat.beq n 22) 36 (cond (Nat.beq n 23) 135 n),fun n=>n⟩
theorem JA:SlLaysE0.n41 Tryz.prog xK where
 mixed:=by kernel_rfl
 f41:=⟨Tryz.f96.name,by kernel_rfl,by kernel_rfl⟩
 t4:=Tryz.underlying4
 a4:=Tryz.isAgg4
 z4:=Tryz.sizeOf4
 v4:=Tryz.zeroValue4
 t22:=Tryz.underlying36
 a22:=Tryz.isAgg36
 z22:=Tryz.sizeOf36
 v22:=Tryz.zeroValue36
noncomputable def cY (xs:List gJ.T):Option (List gJ.T×Unit):=iV 40 xs
noncomputable def jb:aS:=⟨[.row gJ],[.own 135 gJ],fun x=>cY x.1⟩
theorem qf:jb.OK Tryz.prog 96:=mb (ρ:=xK) (i0:=jQ 135) (z:=(Value.agg #[.int .i64 0,.int .i64 0,.int .i64 0,.int .i64 0,.int .i64 0])) (bytes:=40) (e:=gJ) JA (by kernel_rfl) (by kernel_rfl) (by kernel_rfl) (by kernel_rfl) (by kernel_rfl) (by decide) (by decide) Tryz.sizeOf135
noncomputable def xW:Ren:=⟨fun n=>cond (Nat.beq n 22) 192 (cond (Nat.beq n 29) 204 (cond (Nat.beq n 30) 205 n)),fun n=>cond (Nat.beq n 9) 135 (cond (Nat.beq n 24) 36 n),fun n=>n⟩
theorem I2:nQ Tryz.prog xW (jQ 135) (Value.agg #[.int .i64 0,.int .i64 0,.int .i64 0,.int .i64 0,.int .i64 0]) 5 40 where
 mixed:=by kernel_rfl
 f22:=⟨Tryz.f192.name,by kernel_rfl,by kernel_rfl⟩
 fo:=run_callFunc_extern Tryz.func204 (by kernel_rfl) (by kernel_rfl) (by kernel_rfl) (by kernel_rfl)
 t0:=Tryz.underlying0
 a0:=Tryz.isAgg0
 z0:=Tryz.sizeOf0
 v0:=Tryz.zeroValue0
 t3:=Tryz.underlying3
 a3:=Tryz.isAgg3
 z3:=Tryz.sizeOf3
 v3:=Tryz.zeroValue3
 t4:=Tryz.underlying4
 a4:=Tryz.isAgg4
 z4:=Tryz.sizeOf4
 v4:=Tryz.zeroValue4
 z9:=Tryz.sizeOf135
 t24:=Tryz.underlying36
 a24:=Tryz.isAgg36
 z24:=Tryz.sizeOf36
 v24:=Tryz.zeroValue36
 hi:=by kernel_rfl
 hz0:=by kernel_rfl
 hz1:=by kernel_rfl
 vY:=by kernel_rfl
 hzs:=by kernel_rfl
 hsz:=by decide
noncomputable def jy (zs:List gJ.T)(i:Int)(vs:List gJ.T):Option (List gJ.T):=Fs 40 zs i vs
noncomputable def HU:bI:=⟨135,gJ,[.int .i64,.row gJ],false,fun zs x=>jy zs x.1 x.2.1⟩
theorem MG:HU.OK Tryz.prog 192:=rA (ρ:=xW) (e:=gJ) I2 (by decide)
abbrev lJ:Ty:=.pair (.int .i64) (.pair (.int .i64) (.int .i64))
noncomputable def BB:Ren:=⟨fun n=>cond (Nat.beq n 41) 97 n,fun n=>cond (Nat.beq n 22) 37 (cond (Nat.beq n 23) 144 n),fun n=>n⟩
theorem NJ:SlLaysE0.n41 Tryz.prog BB where
 mixed:=by kernel_rfl
 f41:=⟨Tryz.f97.name,by kernel_rfl,by kernel_rfl⟩
 t4:=Tryz.underlying4
 a4:=Tryz.isAgg4
 z4:=Tryz.sizeOf4
 v4:=Tryz.zeroValue4
 t22:=Tryz.underlying37
 a22:=Tryz.isAgg37
 z22:=Tryz.sizeOf37
 v22:=Tryz.zeroValue37
noncomputable def dR (xs:List lJ.T):Option (List lJ.T×Unit):=iV 24 xs
noncomputable def lD:aS:=⟨[.row lJ],[.own 144 lJ],fun x=>dR x.1⟩
theorem tW:lD.OK Tryz.prog 97:=mb (ρ:=BB) (i0:=jQ 144) (z:=(Value.agg #[.int .i64 0,.int .i64 0,.int .i64 0])) (bytes:=24) (e:=lJ) NJ (by kernel_rfl) (by kernel_rfl) (by kernel_rfl) (by kernel_rfl) (by kernel_rfl) (by decide) (by decide) Tryz.sizeOf144
noncomputable def Bs:Ren:=⟨fun n=>cond (Nat.beq n 22) 197 (cond (Nat.beq n 29) 209 (cond (Nat.beq n 30) 210 n)),fun n=>cond (Nat.beq n 9) 144 (cond (Nat.beq n 24) 37 n),fun n=>n⟩
theorem Kr:nQ Tryz.prog Bs (jQ 144) (Value.agg #[.int .i64 0,.int .i64 0,.int .i64 0]) 3 24 where
 mixed:=by kernel_rfl
 f22:=⟨Tryz.f197.name,by kernel_rfl,by kernel_rfl⟩
 fo:=run_callFunc_extern Tryz.func209 (by kernel_rfl) (by kernel_rfl) (by kernel_rfl) (by kernel_rfl)
 t0:=Tryz.underlying0
 a0:=Tryz.isAgg0
 z0:=Tryz.sizeOf0
 v0:=Tryz.zeroValue0
 t3:=Tryz.underlying3
 a3:=Tryz.isAgg3
 z3:=Tryz.sizeOf3
 v3:=Tryz.zeroValue3
 t4:=Tryz.underlying4
 a4:=Tryz.isAgg4
 z4:=Tryz.sizeOf4
 v4:=Tryz.zeroValue4
 z9:=Tryz.sizeOf144
 t24:=Tryz.underlying37
 a24:=Tryz.isAgg37
 z24:=Tryz.sizeOf37
 v24:=Tryz.zeroValue37
 hi:=by kernel_rfl
 hz0:=by kernel_rfl
 hz1:=by kernel_rfl
 vY:=by kernel_rfl
 hzs:=by kernel_rfl
 hsz:=by decide
noncomputable def gO (zs:List lJ.T)(i:Int)(vs:List lJ.T):Option (List lJ.T):=Fs 24 zs i vs
noncomputable def N5:bI:=⟨144,lJ,[.int .i64,.row lJ],false,fun zs x=>gO zs x.1 x.2.1⟩
theorem RC:N5.OK Tryz.prog 197:=rA (ρ:=Bs) (e:=lJ) Kr (by decide)
noncomputable def TO:bI:=⟨3,.int .i64,[],true,fun zs _=>DB zs⟩
theorem Vk:TO.OK Tryz.prog 199:=Q5 Tryz.GX (fun w=>Tryz.slices_Sort_int_none none 0 w) 3
noncomputable def BT:bI:=⟨3,.int .i64,[],false,fun zs _=>mM zs⟩
theorem JK:BT.OK Tryz.prog 200:=E7 Tryz.qC 3
abbrev Zf:Ty:=.pair (.int .i64) (.row jw)
noncomputable def u5:aS:=⟨[.row uq],[.val (.row uq)],fun x=>dO x.1⟩
theorem H7:u5.OK Tryz.prog 129:=aS.frozen Di
noncomputable def xh:aS:=⟨[.row jw],[.deep 49 5 true],fun x=>gQ x.1⟩
theorem Ld:xh.OK Tryz.prog 157:=aS.gF Hw
noncomputable def SB (xs:List Int):Option (List Unit):=(dO xs).map fun _=>[]
noncomputable def Sr:bI:=⟨5,.nil,[.row (.int .u8)],true,fun _ x=>SB x.1⟩
theorem QV:Sr.OK Tryz.prog 129:=QK (g:=dO) Di fun xs y h=>by
 obtain⟨_,rfl⟩:=ai (show cond (Nat.ble (xs.length * 1) 140737488355328) (some (xs,())) none=some y from h)
 rfl
noncomputable def HA:Ren:=⟨fun n=>cond (Nat.beq n 4) 183 n,fun n=>cond (Nat.beq n 22) 47 (cond (Nat.beq n 25) 5 n),fun n=>n⟩
theorem Ru:Lays8.n4 Tryz.prog HA where
 mixed:=by kernel_rfl
 f4:=⟨Tryz.f183.name,by kernel_rfl,by kernel_rfl⟩
 t0:=Tryz.underlying0
 a0:=Tryz.isAgg0
 z0:=Tryz.sizeOf0
 v0:=Tryz.zeroValue0
 t3:=Tryz.underlying3
 a3:=Tryz.isAgg3
 z3:=Tryz.sizeOf3
 v3:=Tryz.zeroValue3
 t4:=Tryz.underlying4
 a4:=Tryz.isAgg4
 z4:=Tryz.sizeOf4
 v4:=Tryz.zeroValue4
 t9:=Tryz.underlying9
 a9:=Tryz.isAgg9
 z9:=Tryz.sizeOf9
 v9:=Tryz.zeroValue9
 t20:=Tryz.underlying20
 a20:=Tryz.isAgg20
 z20:=Tryz.sizeOf20
 v20:=Tryz.zeroValue20
 t22:=Tryz.underlying47
 a22:=Tryz.isAgg47
 z22:=Tryz.sizeOf47
 v22:=Tryz.zeroValue47
noncomputable def KG (n:Int):Option (List Int×Unit):=Mb 1 n
noncomputable def CZ:aS:=⟨[.nil,.int .i64],[.own 5 (.int .u8)],fun x=>KG x.2.1⟩
theorem Rv:CZ.OK Tryz.prog 183:=D2 (ρ:=HA) (i0:=jQ 5) (z:=(.int .u8 0)) (bytes:=1) (e:=.int .u8) Ru (by kernel_rfl) (by kernel_rfl) (by kernel_rfl) (by kernel_rfl) (by kernel_rfl) (by decide) (by decide)
end Go.Proofs.Zz
