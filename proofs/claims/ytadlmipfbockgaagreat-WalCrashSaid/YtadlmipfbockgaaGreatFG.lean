/- Lib9. -/
import Derived.Test.YtadlmipfbockgaaGreatProg
import Derived.Test.YtadlmipfbockgaaGreatFE
import Derived.KernelRfl
import Derived.Test.YtadlmipfbockgaaGreatFD
namespace Go.Proofs.Zz
open Go Go.Sy Go.RowKit Go.Proofs Go.Shelf
set_option linter.unusedVariables false
set_option maxRecDepth 100000
noncomputable instance glob:Glob:=⟨fun _=>True,rangeIn Tryz.prog,fun _ _ _ h=>h⟩
instance rngG:RngG Tryz.prog:=⟨fun _ _=>rfl⟩
noncomputable def infoOf (t:TypeId):TypeInfo:=match Tryz.prog.info? t with
 | some i=>i
 | none=>⟨.bool, "", 0,0,false,0,0,none,false,#[]⟩
abbrev FileT:Ty:=.pair (.int .i64) (.pair (.row (.int .u8)) (.int .i64))
noncomputable def renCFile:Ren:=⟨fun n=>cond (Nat.beq n 41) 76 n,fun n=>cond (Nat.beq n 22) 22 (cond (Nat.beq n 23) 46 n),fun n=>n⟩
theorem layCFile:SlLaysE0.n41 Tryz.prog renCFile where
 mixed:=by kernel_rfl
 f41:=⟨Tryz.f76.name,by kernel_rfl,by kernel_rfl⟩
 t4:=Tryz.underlying4
 a4:=Tryz.isAgg4
 z4:=Tryz.sizeOf4
 v4:=Tryz.zeroValue4
 t22:=Tryz.underlying22
 a22:=Tryz.isAgg22
 z22:=Tryz.sizeOf22
 v22:=Tryz.zeroValue22
noncomputable def fCloneFile (xs:List FileT.T):Option (List FileT.T×Unit):=fClone 40 xs
noncomputable def conCFile:Con:=⟨[.row FileT],[.own 46 FileT],fun x=>fCloneFile x.1⟩
theorem okCFile:conCFile.OK Tryz.prog 76:=clone_ok (ρ:=renCFile) (i0:=infoOf 46) (z:=(Value.agg #[.int .i64 0,.slice none 0 0,.int .i64 0])) (bytes:=40) (e:=FileT) layCFile (by kernel_rfl) (by kernel_rfl) (by kernel_rfl) (by kernel_rfl) (by kernel_rfl) (by decide) (by decide) Tryz.sizeOf46
noncomputable def renIFile:Ren:=⟨fun n=>cond (Nat.beq n 22) 57 (cond (Nat.beq n 29) 97 (cond (Nat.beq n 30) 98 n)),fun n=>cond (Nat.beq n 9) 46 (cond (Nat.beq n 24) 22 n),fun n=>n⟩
theorem layIFile:InsLay Tryz.prog renIFile (infoOf 46) (Value.agg #[.int .i64 0,.slice none 0 0,.int .i64 0]) 3 40 where
 mixed:=by kernel_rfl
 f22:=⟨Tryz.f57.name,by kernel_rfl,by kernel_rfl⟩
 fo:=run_callFunc_extern Tryz.func97 (by kernel_rfl) (by kernel_rfl) (by kernel_rfl) (by kernel_rfl)
 t0:=Tryz.underlying0
 a0:=Tryz.isAgg0
 z0:=Tryz.sizeOf0
 v0:=Tryz.zeroValue0
 t3:=Tryz.underlying3
 a3:=Tryz.isAgg3
 z3:=Tryz.sizeOf3
 v3:=Tryz.zeroValue3
 t4:=Tryz.underlying4
 a4:=Tryz.isAgg4
 z4:=Tryz.sizeOf4
 v4:=Tryz.zeroValue4
 z9:=Tryz.sizeOf46
 t24:=Tryz.underlying22
 a24:=Tryz.isAgg22
 z24:=Tryz.sizeOf22
 v24:=Tryz.zeroValue22
 hi:=by kernel_rfl
 hz0:=by kernel_rfl
 hz1:=by kernel_rfl
 hz2:=by kernel_rfl
 hzs:=by kernel_rfl
 hsz:=by decide
noncomputable def fInsFile (zs:List FileT.T)(i:Int)(vs:List FileT.T):Option (List FileT.T):=fIns 40 zs i vs
noncomputable def uIFile:UCon:=⟨46,FileT,[.int .i64,.row FileT],false,fun zs x=>fInsFile zs x.1 x.2.1⟩
theorem okIFile:uIFile.OK Tryz.prog 57:=insert_ok (ρ:=renIFile) (e:=FileT) layIFile (by decide)
abbrev ByteT:Ty:=.int .u8
noncomputable def renCByte:Ren:=⟨fun n=>cond (Nat.beq n 41) 77 n,fun n=>cond (Nat.beq n 22) 44 (cond (Nat.beq n 23) 5 n),fun n=>n⟩
theorem layCByte:SlLaysE0.n41 Tryz.prog renCByte where
 mixed:=by kernel_rfl
 f41:=⟨Tryz.f77.name,by kernel_rfl,by kernel_rfl⟩
 t4:=Tryz.underlying4
 a4:=Tryz.isAgg4
 z4:=Tryz.sizeOf4
 v4:=Tryz.zeroValue4
 t22:=Tryz.underlying44
 a22:=Tryz.isAgg44
 z22:=Tryz.sizeOf44
 v22:=Tryz.zeroValue44
noncomputable def fCloneByte (xs:List ByteT.T):Option (List ByteT.T×Unit):=fClone 1 xs
noncomputable def conCByteO:Con:=⟨[.row ByteT],[.own 5 ByteT],fun x=>fCloneByte x.1⟩
theorem okCByteO:conCByteO.OK Tryz.prog 77:=clone_ok (ρ:=renCByte) (i0:=infoOf 5) (z:=(.int .u8 0)) (bytes:=1) (e:=ByteT) layCByte (by kernel_rfl) (by kernel_rfl) (by kernel_rfl) (by kernel_rfl) (by kernel_rfl) (by decide) (by decide) Tryz.sizeOf5
abbrev DiskT:Ty:=.pair (.int .i64) (.row FileT)
noncomputable def conCByte:Con:=⟨[.row ByteT],[.val (.row ByteT)],fun x=>fCloneByte x.1⟩
theorem okCByte:conCByte.OK Tryz.prog 77:=Con.frozen okCByteO
noncomputable def conCFileL:Con:=⟨[.row FileT],[.deep 46 5 true],fun x=>fCloneFile x.1⟩
theorem okCFileL:conCFileL.OK Tryz.prog 76:=Con.lent okCFile
noncomputable def gCopy (xs:List Int):Option (List Unit):=(fCloneByte xs).map fun _=>[]
noncomputable def uCopy:UCon:=⟨5,.nil,[.row (.int .u8)],true,fun _ x=>gCopy x.1⟩
theorem okUCopy:uCopy.OK Tryz.prog 77:=copy_of (g:=fCloneByte) okCByteO fun xs y h=>by
 obtain⟨_,rfl⟩:=cond_some (show cond (Nat.ble (xs.length * 1) 140737488355328) (some (xs,())) none=some y from h)
 rfl
noncomputable def renGrow:Ren:=⟨fun n=>cond (Nat.beq n 4) 137 n,fun n=>cond (Nat.beq n 22) 44 (cond (Nat.beq n 25) 5 n),fun n=>n⟩
theorem layGrow:Lays8.n4 Tryz.prog renGrow where
 mixed:=by kernel_rfl
 f4:=⟨Tryz.f137.name,by kernel_rfl,by kernel_rfl⟩
 t0:=Tryz.underlying0
 a0:=Tryz.isAgg0
 z0:=Tryz.sizeOf0
 v0:=Tryz.zeroValue0
 t3:=Tryz.underlying3
 a3:=Tryz.isAgg3
 z3:=Tryz.sizeOf3
 v3:=Tryz.zeroValue3
 t4:=Tryz.underlying4
 a4:=Tryz.isAgg4
 z4:=Tryz.sizeOf4
 v4:=Tryz.zeroValue4
 t9:=Tryz.underlying9
 a9:=Tryz.isAgg9
 z9:=Tryz.sizeOf9
 v9:=Tryz.zeroValue9
 t20:=Tryz.underlying20
 a20:=Tryz.isAgg20
 z20:=Tryz.sizeOf20
 v20:=Tryz.zeroValue20
 t22:=Tryz.underlying44
 a22:=Tryz.isAgg44
 z22:=Tryz.sizeOf44
 v22:=Tryz.zeroValue44
noncomputable def fGrow0 (n:Int):Option (List Int×Unit):=fGrow 1 n
noncomputable def conGrow0:Con:=⟨[.nil,.int .i64],[.own 5 (.int .u8)],fun x=>fGrow0 x.2.1⟩
theorem okGrow0:conGrow0.OK Tryz.prog 137:=grow_nil_ok (ρ:=renGrow) (i0:=infoOf 5) (z:=(.int .u8 0)) (bytes:=1) (e:=.int .u8) layGrow (by kernel_rfl) (by kernel_rfl) (by kernel_rfl) (by kernel_rfl) (by kernel_rfl) (by decide) (by decide)
end Go.Proofs.Zz
