/- Shelf. -/
import Derived.Shelf.SlSortCmp.NoneTotal
import Derived.Ground.SlsfProg
import Derived.Shelf.Spec.TrailingZeros
import Derived.Ground.Names7Prog
import Derived.Shelf.SlGeneric
import Derived.Shelf.Small.Bits
import Derived.Shelf.Strconv.Itoa0
import Derived.Shelf.Sort.Plain
import Derived.Ground.Names2Prog
import Derived.Shelf.Slices.CompactI
import Derived.Shelf.Slices.In.SortNone
import Derived.Ground.SlgcProg
import Derived.Shelf.SlicesG.Cmp
import Derived.Test.YtlhbhlngoecdcaaGreatDoorProg
namespace Go.Proofs
open Go.Shelf
def Tryz.Hw:Go.Shelf.Ren:=⟨fun|189=>153|125=>177|257=>176|128=>201|129=>202|294=>192|295=>193|296=>194|297=>195|298=>196|299=>197|216=>198|300=>199|301=>200|328=>218|329=>219|330=>220|331=>221|332=>222|215=>209|343=>227|n=>n,fun|28=>80|3=>3|46=>81|0=>0|51=>250|53=>137|4=>4|183=>243|182=>242|131=>247|5=>5|9=>9|218=>259|222=>263|228=>270|229=>183|n=>n,fun|n=>n⟩
theorem Tryz.MU:Go.Proofs.Lays.n189 Tryz.prog Tryz.Hw:={
 mixed:=by kernel_rfl
 f125:=Tryz.func177.trans (congrArg some (by kernel_rfl))
 f128:=Tryz.func201.trans (congrArg some (by kernel_rfl))
 f129:=Tryz.func202.trans (congrArg some (by kernel_rfl))
 f189:=Tryz.func153.trans (congrArg some (by kernel_rfl))
 f215:=Tryz.func209.trans (congrArg some (by kernel_rfl))
 f216:=Tryz.func198.trans (congrArg some (by kernel_rfl))
 f257:=Tryz.func176.trans (congrArg some (by kernel_rfl))
 f294:=Tryz.func192.trans (congrArg some (by kernel_rfl))
 f295:=Tryz.func193.trans (congrArg some (by kernel_rfl))
 f296:=Tryz.func194.trans (congrArg some (by kernel_rfl))
 f297:=Tryz.func195.trans (congrArg some (by kernel_rfl))
 f298:=Tryz.func196.trans (congrArg some (by kernel_rfl))
 f299:=Tryz.func197.trans (congrArg some (by kernel_rfl))
 f300:=Tryz.func199.trans (congrArg some (by kernel_rfl))
 f301:=Tryz.func200.trans (congrArg some (by kernel_rfl))
 f328:=Tryz.func218.trans (congrArg some (by kernel_rfl))
 f329:=Tryz.func219.trans (congrArg some (by kernel_rfl))
 f330:=Tryz.func220.trans (congrArg some (by kernel_rfl))
 f331:=Tryz.func221.trans (congrArg some (by kernel_rfl))
 f332:=Tryz.func222.trans (congrArg some (by kernel_rfl))
 f343:=Tryz.func227.trans (congrArg some (by kernel_rfl))
 t0:=Tryz.underlying0
 a0:=Tryz.isAgg0
 z0:=Tryz.sizeOf0
 v0:=Tryz.zeroValue0
 t3:=Tryz.underlying3
 a3:=Tryz.isAgg3
 z3:=Tryz.sizeOf3
 v3:=Tryz.zeroValue3
 t4:=Tryz.underlying4
 a4:=Tryz.isAgg4
 z4:=Tryz.sizeOf4
 v4:=Tryz.zeroValue4
 t5:=Tryz.underlying5
 a5:=Tryz.isAgg5
 z5:=Tryz.sizeOf5
 v5:=Tryz.zeroValue5
 t9:=Tryz.underlying9
 a9:=Tryz.isAgg9
 z9:=Tryz.sizeOf9
 v9:=Tryz.zeroValue9
 t28:=Tryz.underlying80
 a28:=Tryz.isAgg80
 z28:=Tryz.sizeOf80
 v28:=Tryz.zeroValue80
 t46:=Tryz.underlying81
 a46:=Tryz.isAgg81
 z46:=Tryz.sizeOf81
 v46:=Tryz.zeroValue81
 t51:=Tryz.underlying250
 a51:=Tryz.isAgg250
 z51:=Tryz.sizeOf250
 v51:=Tryz.zeroValue250
 t53:=Tryz.underlying137
 a53:=Tryz.isAgg137
 z53:=Tryz.sizeOf137
 v53:=Tryz.zeroValue137
 t131:=Tryz.underlying247
 a131:=Tryz.isAgg247
 z131:=Tryz.sizeOf247
 v131:=Tryz.zeroValue247
 t182:=Tryz.underlying242
 a182:=Tryz.isAgg242
 z182:=Tryz.sizeOf242
 v182:=Tryz.zeroValue242
 t183:=Tryz.underlying243
 a183:=Tryz.isAgg243
 z183:=Tryz.sizeOf243
 v183:=Tryz.zeroValue243
 t218:=Tryz.underlying259
 a218:=Tryz.isAgg259
 z218:=Tryz.sizeOf259
 v218:=Tryz.zeroValue259
 t222:=Tryz.underlying263
 a222:=Tryz.isAgg263
 z222:=Tryz.sizeOf263
 v222:=Tryz.zeroValue263
 t228:=Tryz.underlying270
 a228:=Tryz.isAgg270
 z228:=Tryz.sizeOf270
 v228:=Tryz.zeroValue270
 t229:=Tryz.underlying183
 a229:=Tryz.isAgg183
 z229:=Tryz.sizeOf183
 v229:=Tryz.zeroValue183 }
def Tryz.AK:Go.Shelf.Ren:=⟨fun|20=>154|n=>n,fun|22=>80|3=>3|4=>4|0=>0|n=>n,fun|n=>n⟩
theorem Tryz.uh:Go.Proofs.Lays2.n20 Tryz.prog Tryz.AK:={
 mixed:=by kernel_rfl
 f20:=Tryz.func154.trans (congrArg some (by kernel_rfl))
 t0:=Tryz.underlying0
 a0:=Tryz.isAgg0
 z0:=Tryz.sizeOf0
 v0:=Tryz.zeroValue0
 t3:=Tryz.underlying3
 a3:=Tryz.isAgg3
 z3:=Tryz.sizeOf3
 v3:=Tryz.zeroValue3
 t4:=Tryz.underlying4
 a4:=Tryz.isAgg4
 z4:=Tryz.sizeOf4
 v4:=Tryz.zeroValue4
 t22:=Tryz.underlying80
 a22:=Tryz.isAgg80
 z22:=Tryz.sizeOf80
 v22:=Tryz.zeroValue80
 i3:=by kernel_rfl }
open Go.RowKit Go.Lib Go.Sort in
theorem Tryz.slices_Compact_int (blk off cap:Nat)(zs:List Int)(w:World)(hH:Holds (Value.int .i64) w blk off zs.toArray)(hsz:zs.length≤9223372036854775807)(hcap:zs.length≤cap) :
  Calls Tryz.prog 154 #[.slice (some ⟨blk,off,none⟩) zs.length cap] w fun e w'=>e = .returned (.slice (some ⟨blk,off,none⟩) (Lib.compact zs).length cap)∧∃ q,w'=putRow (Value.int .i64) (Sort.ahead w q) blk off (Lib.compact zs++List.replicate (zs.length-(Lib.compact zs).length) 0).toArray:=Any.slices_Compact_int Tryz.uh blk off cap zs w hH hsz hcap
open Go.RowKit Go.Lib Go.Sort in
theorem Tryz.slices_Compact_int_empty (a:Option Addr)(cap:Nat)(w:World) :
  Calls Tryz.prog 154 #[.slice a 0 cap] w fun e w'=>e = .returned (.slice a 0 cap)∧w'=w:=Any.slices_Compact_int_empty Tryz.uh a cap w
open Go.RowKit Go.Sort in
theorem Tryz.slices_Sort_int_none (p:Option Addr)(cap:Nat)(w:World) :
  Calls Tryz.prog 153 #[.slice p 0 cap] w fun e w'=>e = .returned (.tuple #[])∧w'=w:=Any.slices_Sort_int_none Tryz.MU p cap w
def Tryz.qX:Go.Shelf.Ren:=⟨fun|5=>187|7=>209|n=>n,fun|22=>3|3=>3|4=>4|n=>n,fun|n=>n⟩
theorem Tryz.zX:Go.Proofs.SlLaysC2.n5 Tryz.prog Tryz.qX:={
 mixed:=by kernel_rfl
 f5:=⟨Tryz.f187.name,by decide,Tryz.func187.trans (congrArg some (by kernel_rfl))⟩
 f7:=⟨Tryz.f209.name,by decide,Tryz.func209.trans (congrArg some (by kernel_rfl))⟩
 t3:=Tryz.underlying3
 a3:=Tryz.isAgg3
 z3:=Tryz.sizeOf3
 v3:=Tryz.zeroValue3
 t4:=Tryz.underlying4
 a4:=Tryz.isAgg4
 z4:=Tryz.sizeOf4
 v4:=Tryz.zeroValue4
 t22:=Tryz.underlying3
 a22:=Tryz.isAgg3
 z22:=Tryz.sizeOf3
 v22:=Tryz.zeroValue3 }
open Go.Lib in
theorem Tryz.cmp_Compare_int (x y:Int)(w:World) :
  Calls Tryz.prog 187 #[.int .i64 x,.int .i64 y] w fun e w'=>e = .returned (.int .i64 (Lib.compareInt x y))∧w'=w:=AnyG.cmp_Compare_int Tryz.zX x y w
def Tryz.BQ:Go.Shelf.Ren:=⟨fun|6=>173|15=>177|14=>188|28=>201|29=>202|20=>210|21=>211|22=>212|23=>213|24=>214|25=>215|26=>216|27=>217|46=>224|47=>219|48=>220|49=>225|50=>226|57=>228|n=>n,fun|22=>160|24=>170|25=>227|3=>3|39=>81|0=>0|53=>250|55=>137|4=>4|46=>243|45=>242|50=>247|5=>5|9=>9|66=>259|70=>263|76=>270|77=>183|n=>n,fun|n=>n⟩
theorem Tryz.iz:Go.Proofs.SlLaysF0.n6 Tryz.prog Tryz.BQ:={
 mixed:=by kernel_rfl
 f6:=⟨Tryz.f173.name,by decide,Tryz.func173.trans (congrArg some (by kernel_rfl))⟩
 f14:=⟨Tryz.f188.name,by decide,Tryz.func188.trans (congrArg some (by kernel_rfl))⟩
 f15:=Tryz.func177.trans (congrArg some (by kernel_rfl))
 f20:=⟨Tryz.f210.name,by decide,Tryz.func210.trans (congrArg some (by kernel_rfl))⟩
 f21:=⟨Tryz.f211.name,by decide,Tryz.func211.trans (congrArg some (by kernel_rfl))⟩
 f22:=⟨Tryz.f212.name,by decide,Tryz.func212.trans (congrArg some (by kernel_rfl))⟩
 f23:=⟨Tryz.f213.name,by decide,Tryz.func213.trans (congrArg some (by kernel_rfl))⟩
 f24:=⟨Tryz.f214.name,by decide,Tryz.func214.trans (congrArg some (by kernel_rfl))⟩
 f25:=⟨Tryz.f215.name,by decide,Tryz.func215.trans (congrArg some (by kernel_rfl))⟩
 f26:=⟨Tryz.f216.name,by decide,Tryz.func216.trans (congrArg some (by kernel_rfl))⟩
 f27:=⟨Tryz.f217.name,by decide,Tryz.func217.trans (congrArg some (by kernel_rfl))⟩
 f28:=Tryz.func201.trans (congrArg some (by kernel_rfl))
 f29:=Tryz.func202.trans (congrArg some (by kernel_rfl))
 f46:=⟨Tryz.f224.name,by decide,Tryz.func224.trans (congrArg some (by kernel_rfl))⟩
 f47:=Tryz.func219.trans (congrArg some (by kernel_rfl))
 f48:=Tryz.func220.trans (congrArg some (by kernel_rfl))
 f49:=⟨Tryz.f225.name,by decide,Tryz.func225.trans (congrArg some (by kernel_rfl))⟩
 f50:=⟨Tryz.f226.name,by decide,Tryz.func226.trans (congrArg some (by kernel_rfl))⟩
 f57:=⟨Tryz.f228.name,by decide,Tryz.func228.trans (congrArg some (by kernel_rfl))⟩
 t0:=Tryz.underlying0
 a0:=Tryz.isAgg0
 z0:=Tryz.sizeOf0
 v0:=Tryz.zeroValue0
 t3:=Tryz.underlying3
 a3:=Tryz.isAgg3
 z3:=Tryz.sizeOf3
 v3:=Tryz.zeroValue3
 t4:=Tryz.underlying4
 a4:=Tryz.isAgg4
 z4:=Tryz.sizeOf4
 v4:=Tryz.zeroValue4
 t5:=Tryz.underlying5
 a5:=Tryz.isAgg5
 z5:=Tryz.sizeOf5
 v5:=Tryz.zeroValue5
 t9:=Tryz.underlying9
 a9:=Tryz.isAgg9
 z9:=Tryz.sizeOf9
 v9:=Tryz.zeroValue9
 t22:=Tryz.underlying160
 a22:=Tryz.isAgg160
 z22:=Tryz.sizeOf160
 v22:=Tryz.zeroValue160
 t25:=Tryz.underlying227
 a25:=Tryz.isAgg227
 z25:=Tryz.sizeOf227
 v25:=Tryz.zeroValue227
 t39:=Tryz.underlying81
 a39:=Tryz.isAgg81
 z39:=Tryz.sizeOf81
 v39:=Tryz.zeroValue81
 t45:=Tryz.underlying242
 a45:=Tryz.isAgg242
 z45:=Tryz.sizeOf242
 v45:=Tryz.zeroValue242
 t46:=Tryz.underlying243
 a46:=Tryz.isAgg243
 z46:=Tryz.sizeOf243
 v46:=Tryz.zeroValue243
 t50:=Tryz.underlying247
 a50:=Tryz.isAgg247
 z50:=Tryz.sizeOf247
 v50:=Tryz.zeroValue247
 t53:=Tryz.underlying250
 a53:=Tryz.isAgg250
 z53:=Tryz.sizeOf250
 v53:=Tryz.zeroValue250
 t55:=Tryz.underlying137
 a55:=Tryz.isAgg137
 z55:=Tryz.sizeOf137
 v55:=Tryz.zeroValue137
 t66:=Tryz.underlying259
 a66:=Tryz.isAgg259
 z66:=Tryz.sizeOf259
 v66:=Tryz.zeroValue259
 t70:=Tryz.underlying263
 a70:=Tryz.isAgg263
 z70:=Tryz.sizeOf263
 v70:=Tryz.zeroValue263
 t76:=Tryz.underlying270
 a76:=Tryz.isAgg270
 z76:=Tryz.sizeOf270
 v76:=Tryz.zeroValue270
 t77:=Tryz.underlying183
 a77:=Tryz.isAgg183
 z77:=Tryz.sizeOf183
 v77:=Tryz.zeroValue183 }
def Tryz.qs:Go.Shelf.Ren:=⟨fun|27=>183|28=>204|29=>205|n=>n,fun|25=>81|3=>3|27=>250|22=>137|4=>4|53=>266|0=>0|5=>5|54=>267|n=>n,fun|0=>0|1=>1|n=>n⟩
theorem Tryz.PS:Go.Proofs.Lays7.n27 Tryz.prog Tryz.qs:={
 mixed:=by kernel_rfl
 f27:=Tryz.func183.trans (congrArg some (by kernel_rfl))
 f28:=Tryz.func204.trans (congrArg some (by kernel_rfl))
 f29:=Tryz.func205.trans (congrArg some (by kernel_rfl))
 t0:=Tryz.underlying0
 a0:=Tryz.isAgg0
 z0:=Tryz.sizeOf0
 v0:=Tryz.zeroValue0
 i0:=by kernel_rfl
 t3:=Tryz.underlying3
 a3:=Tryz.isAgg3
 z3:=Tryz.sizeOf3
 v3:=Tryz.zeroValue3
 i3:=by kernel_rfl
 t4:=Tryz.underlying4
 a4:=Tryz.isAgg4
 z4:=Tryz.sizeOf4
 v4:=Tryz.zeroValue4
 i4:=by kernel_rfl
 t5:=Tryz.underlying5
 a5:=Tryz.isAgg5
 z5:=Tryz.sizeOf5
 v5:=Tryz.zeroValue5
 i5:=by kernel_rfl
 t22:=Tryz.underlying137
 a22:=Tryz.isAgg137
 z22:=Tryz.sizeOf137
 v22:=Tryz.zeroValue137
 i22:=by kernel_rfl
 t25:=Tryz.underlying81
 a25:=Tryz.isAgg81
 z25:=Tryz.sizeOf81
 v25:=Tryz.zeroValue81
 i25:=by kernel_rfl
 t27:=Tryz.underlying250
 a27:=Tryz.isAgg250
 z27:=Tryz.sizeOf250
 v27:=Tryz.zeroValue250
 i27:=by kernel_rfl
 t53:=Tryz.underlying266
 a53:=Tryz.isAgg266
 z53:=Tryz.sizeOf266
 v53:=Tryz.zeroValue266
 i53:=by kernel_rfl
 t54:=Tryz.underlying267
 a54:=Tryz.isAgg267
 z54:=Tryz.sizeOf267
 g0:=by kernel_rfl
 g1:=by kernel_rfl }
theorem Tryz.bits_TrailingZeros (x:Nat)(hx:x<18446744073709551616)(w:World)(hT:x≠0→TabAt (Tryz.qs.g 1) Lib.deBruijn64tab w) :
  Calls Tryz.prog 183 #[.int .u64 x] w fun e w'=>e = .returned (.int .i64 (Lib.ctz 64 x))∧w'=w:=Any7.bits_TrailingZeros Tryz.PS x hx w hT
end Go.Proofs
