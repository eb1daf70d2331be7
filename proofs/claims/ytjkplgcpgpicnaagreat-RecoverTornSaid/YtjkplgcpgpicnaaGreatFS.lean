/- Shelf. -/
import Derived.Shelf.Small.Bits
import Derived.Shelf.Strconv.Itoa0
import Derived.Shelf.Sort.Plain
import Derived.Ground.Names2Prog
import Derived.Shelf.Slices.CompactI
import Derived.Shelf.Slices.SearchI
import Derived.Shelf.Slices.Cells
import Derived.Shelf.Slices.In.SortNone
import Derived.Test.YtjkplgcpgpicnaaGreatProg
namespace Go.Proofs
open Go.Shelf
def Tryz.Dj:Go.Shelf.Ren:=⟨fun|189=>199|125=>213|257=>212|128=>230|129=>231|294=>221|295=>222|296=>223|297=>224|298=>225|299=>226|216=>227|300=>228|301=>229|328=>238|329=>239|330=>240|331=>241|332=>242|215=>236|343=>243|n=>n,fun|28=>72|3=>3|46=>160|0=>0|51=>193|53=>204|4=>4|183=>279|182=>278|131=>54|5=>5|9=>9|218=>289|222=>293|228=>295|229=>81|n=>n,fun|n=>n⟩
theorem Tryz.GX:Go.Proofs.Lays.n189 Tryz.prog Tryz.Dj:={
 mixed:=by kernel_rfl
 f125:=Tryz.func213.trans (congrArg some (by kernel_rfl))
 f128:=Tryz.func230.trans (congrArg some (by kernel_rfl))
 f129:=Tryz.func231.trans (congrArg some (by kernel_rfl))
 f189:=Tryz.func199.trans (congrArg some (by kernel_rfl))
 f215:=Tryz.func236.trans (congrArg some (by kernel_rfl))
 f216:=Tryz.func227.trans (congrArg some (by kernel_rfl))
 f257:=Tryz.func212.trans (congrArg some (by kernel_rfl))
 f294:=Tryz.func221.trans (congrArg some (by kernel_rfl))
 f295:=Tryz.func222.trans (congrArg some (by kernel_rfl))
 f296:=Tryz.func223.trans (congrArg some (by kernel_rfl))
 f297:=Tryz.func224.trans (congrArg some (by kernel_rfl))
 f298:=Tryz.func225.trans (congrArg some (by kernel_rfl))
 f299:=Tryz.func226.trans (congrArg some (by kernel_rfl))
 f300:=Tryz.func228.trans (congrArg some (by kernel_rfl))
 f301:=Tryz.func229.trans (congrArg some (by kernel_rfl))
 f328:=Tryz.func238.trans (congrArg some (by kernel_rfl))
 f329:=Tryz.func239.trans (congrArg some (by kernel_rfl))
 f330:=Tryz.func240.trans (congrArg some (by kernel_rfl))
 f331:=Tryz.func241.trans (congrArg some (by kernel_rfl))
 f332:=Tryz.func242.trans (congrArg some (by kernel_rfl))
 f343:=Tryz.func243.trans (congrArg some (by kernel_rfl))
 t0:=Tryz.underlying0
 a0:=Tryz.isAgg0
 z0:=Tryz.sizeOf0
 v0:=Tryz.zeroValue0
 t3:=Tryz.underlying3
 a3:=Tryz.isAgg3
 z3:=Tryz.sizeOf3
 v3:=Tryz.zeroValue3
 t4:=Tryz.underlying4
 a4:=Tryz.isAgg4
 z4:=Tryz.sizeOf4
 v4:=Tryz.zeroValue4
 t5:=Tryz.underlying5
 a5:=Tryz.isAgg5
 z5:=Tryz.sizeOf5
 v5:=Tryz.zeroValue5
 t9:=Tryz.underlying9
 a9:=Tryz.isAgg9
 z9:=Tryz.sizeOf9
 v9:=Tryz.zeroValue9
 t28:=Tryz.underlying72
 a28:=Tryz.isAgg72
 z28:=Tryz.sizeOf72
 v28:=Tryz.zeroValue72
 t46:=Tryz.underlying160
 a46:=Tryz.isAgg160
 z46:=Tryz.sizeOf160
 v46:=Tryz.zeroValue160
 t51:=Tryz.underlying193
 a51:=Tryz.isAgg193
 z51:=Tryz.sizeOf193
 v51:=Tryz.zeroValue193
 t53:=Tryz.underlying204
 a53:=Tryz.isAgg204
 z53:=Tryz.sizeOf204
 v53:=Tryz.zeroValue204
 t131:=Tryz.underlying54
 a131:=Tryz.isAgg54
 z131:=Tryz.sizeOf54
 v131:=Tryz.zeroValue54
 t182:=Tryz.underlying278
 a182:=Tryz.isAgg278
 z182:=Tryz.sizeOf278
 v182:=Tryz.zeroValue278
 t183:=Tryz.underlying279
 a183:=Tryz.isAgg279
 z183:=Tryz.sizeOf279
 v183:=Tryz.zeroValue279
 t218:=Tryz.underlying289
 a218:=Tryz.isAgg289
 z218:=Tryz.sizeOf289
 v218:=Tryz.zeroValue289
 t222:=Tryz.underlying293
 a222:=Tryz.isAgg293
 z222:=Tryz.sizeOf293
 v222:=Tryz.zeroValue293
 t228:=Tryz.underlying295
 a228:=Tryz.isAgg295
 z228:=Tryz.sizeOf295
 v228:=Tryz.zeroValue295
 t229:=Tryz.underlying81
 a229:=Tryz.isAgg81
 z229:=Tryz.sizeOf81
 v229:=Tryz.zeroValue81 }
def Tryz.wG:Go.Shelf.Ren:=⟨fun|20=>200|n=>n,fun|22=>72|3=>3|4=>4|0=>0|n=>n,fun|n=>n⟩
theorem Tryz.qC:Go.Proofs.Lays2.n20 Tryz.prog Tryz.wG:={
 mixed:=by kernel_rfl
 f20:=Tryz.func200.trans (congrArg some (by kernel_rfl))
 t0:=Tryz.underlying0
 a0:=Tryz.isAgg0
 z0:=Tryz.sizeOf0
 v0:=Tryz.zeroValue0
 t3:=Tryz.underlying3
 a3:=Tryz.isAgg3
 z3:=Tryz.sizeOf3
 v3:=Tryz.zeroValue3
 t4:=Tryz.underlying4
 a4:=Tryz.isAgg4
 z4:=Tryz.sizeOf4
 v4:=Tryz.zeroValue4
 t22:=Tryz.underlying72
 a22:=Tryz.isAgg72
 z22:=Tryz.sizeOf72
 v22:=Tryz.zeroValue72
 i3:=by kernel_rfl }
open Go.RowKit Go.Lib Go.Sort in
theorem Tryz.slices_Compact_int (blk off cap:Nat)(zs:List Int)(w:World)(hH:Holds (Value.int .i64) w blk off zs.toArray)(hsz:zs.length≤9223372036854775807)(hcap:zs.length≤cap) :
  Calls Tryz.prog 200 #[.slice (some ⟨blk,off,none⟩) zs.length cap] w fun e w'=>e = .returned (.slice (some ⟨blk,off,none⟩) (Lib.compact zs).length cap)∧∃ q,w'=putRow (Value.int .i64) (Sort.ahead w q) blk off (Lib.compact zs++List.replicate (zs.length-(Lib.compact zs).length) 0).toArray:=Any.slices_Compact_int Tryz.qC blk off cap zs w hH hsz hcap
open Go.RowKit Go.Lib Go.Sort in
theorem Tryz.slices_Compact_int_empty (a:Option Addr)(cap:Nat)(w:World) :
  Calls Tryz.prog 200 #[.slice a 0 cap] w fun e w'=>e = .returned (.slice a 0 cap)∧w'=w:=Any.slices_Compact_int_empty Tryz.qC a cap w
open Go.RowKit Go.Sort in
theorem Tryz.slices_Sort_int_none (p:Option Addr)(cap:Nat)(w:World) :
  Calls Tryz.prog 199 #[.slice p 0 cap] w fun e w'=>e = .returned (.tuple #[])∧w'=w:=Any.slices_Sort_int_none Tryz.GX p cap w
end Go.Proofs
