/- Shelf. -/
import Derived.Shelf.Small.Bits
import Derived.Shelf.Small.Wraps
import Derived.Shelf.Strconv.Itoa0
import Derived.Shelf.Sort.Plain
import Derived.Ground.Names2Prog
import Derived.Shelf.Slices.CompactI
import Derived.Shelf.Slices.SearchI
import Derived.Shelf.Slices.Cells
import Derived.Shelf.Slices.In.SortNone
import Derived.Test.YtckgffnmfgjehaaGreatProg
namespace Go.Proofs
open Go.Shelf
def Tryz.Ey:Go.Shelf.Ren:=⟨fun|189=>209|125=>221|257=>220|128=>237|129=>238|294=>228|295=>229|296=>230|297=>231|298=>232|299=>233|216=>234|300=>235|301=>236|328=>245|329=>246|330=>247|331=>248|332=>249|215=>243|343=>250|n=>n,fun|28=>87|3=>3|46=>182|0=>0|51=>214|53=>223|4=>4|183=>302|182=>301|131=>147|5=>5|9=>9|218=>312|222=>316|228=>318|229=>62|n=>n,fun|n=>n⟩
theorem Tryz.Kw:Go.Proofs.Lays.n189 Tryz.prog Tryz.Ey:={
 mixed:=by kernel_rfl
 f125:=Tryz.func221.trans (congrArg some (by kernel_rfl))
 f128:=Tryz.func237.trans (congrArg some (by kernel_rfl))
 f129:=Tryz.func238.trans (congrArg some (by kernel_rfl))
 f189:=Tryz.func209.trans (congrArg some (by kernel_rfl))
 f215:=Tryz.func243.trans (congrArg some (by kernel_rfl))
 f216:=Tryz.func234.trans (congrArg some (by kernel_rfl))
 f257:=Tryz.func220.trans (congrArg some (by kernel_rfl))
 f294:=Tryz.func228.trans (congrArg some (by kernel_rfl))
 f295:=Tryz.func229.trans (congrArg some (by kernel_rfl))
 f296:=Tryz.func230.trans (congrArg some (by kernel_rfl))
 f297:=Tryz.func231.trans (congrArg some (by kernel_rfl))
 f298:=Tryz.func232.trans (congrArg some (by kernel_rfl))
 f299:=Tryz.func233.trans (congrArg some (by kernel_rfl))
 f300:=Tryz.func235.trans (congrArg some (by kernel_rfl))
 f301:=Tryz.func236.trans (congrArg some (by kernel_rfl))
 f328:=Tryz.func245.trans (congrArg some (by kernel_rfl))
 f329:=Tryz.func246.trans (congrArg some (by kernel_rfl))
 f330:=Tryz.func247.trans (congrArg some (by kernel_rfl))
 f331:=Tryz.func248.trans (congrArg some (by kernel_rfl))
 f332:=Tryz.func249.trans (congrArg some (by kernel_rfl))
 f343:=Tryz.func250.trans (congrArg some (by kernel_rfl))
 t0:=Tryz.underlying0
 a0:=Tryz.isAgg0
 z0:=Tryz.sizeOf0
 v0:=Tryz.zeroValue0
 t3:=Tryz.underlying3
 a3:=Tryz.isAgg3
 z3:=Tryz.sizeOf3
 v3:=Tryz.zeroValue3
 t4:=Tryz.underlying4
 a4:=Tryz.isAgg4
 z4:=Tryz.sizeOf4
 v4:=Tryz.zeroValue4
 t5:=Tryz.underlying5
 a5:=Tryz.isAgg5
 z5:=Tryz.sizeOf5
 v5:=Tryz.zeroValue5
 t9:=Tryz.underlying9
 a9:=Tryz.isAgg9
 z9:=Tryz.sizeOf9
 v9:=Tryz.zeroValue9
 t28:=Tryz.underlying87
 a28:=Tryz.isAgg87
 z28:=Tryz.sizeOf87
 v28:=Tryz.zeroValue87
 t46:=Tryz.underlying182
 a46:=Tryz.isAgg182
 z46:=Tryz.sizeOf182
 v46:=Tryz.zeroValue182
 t51:=Tryz.underlying214
 a51:=Tryz.isAgg214
 z51:=Tryz.sizeOf214
 v51:=Tryz.zeroValue214
 t53:=Tryz.underlying223
 a53:=Tryz.isAgg223
 z53:=Tryz.sizeOf223
 v53:=Tryz.zeroValue223
 t131:=Tryz.underlying147
 a131:=Tryz.isAgg147
 z131:=Tryz.sizeOf147
 v131:=Tryz.zeroValue147
 t182:=Tryz.underlying301
 a182:=Tryz.isAgg301
 z182:=Tryz.sizeOf301
 v182:=Tryz.zeroValue301
 t183:=Tryz.underlying302
 a183:=Tryz.isAgg302
 z183:=Tryz.sizeOf302
 v183:=Tryz.zeroValue302
 t218:=Tryz.underlying312
 a218:=Tryz.isAgg312
 z218:=Tryz.sizeOf312
 v218:=Tryz.zeroValue312
 t222:=Tryz.underlying316
 a222:=Tryz.isAgg316
 z222:=Tryz.sizeOf316
 v222:=Tryz.zeroValue316
 t228:=Tryz.underlying318
 a228:=Tryz.isAgg318
 z228:=Tryz.sizeOf318
 v228:=Tryz.zeroValue318
 t229:=Tryz.underlying62
 a229:=Tryz.isAgg62
 z229:=Tryz.sizeOf62
 v229:=Tryz.zeroValue62 }
def Tryz.ya:Go.Shelf.Ren:=⟨fun|20=>210|n=>n,fun|22=>87|3=>3|4=>4|0=>0|n=>n,fun|n=>n⟩
theorem Tryz.rV:Go.Proofs.Lays2.n20 Tryz.prog Tryz.ya:={
 mixed:=by kernel_rfl
 f20:=Tryz.func210.trans (congrArg some (by kernel_rfl))
 t0:=Tryz.underlying0
 a0:=Tryz.isAgg0
 z0:=Tryz.sizeOf0
 v0:=Tryz.zeroValue0
 t3:=Tryz.underlying3
 a3:=Tryz.isAgg3
 z3:=Tryz.sizeOf3
 v3:=Tryz.zeroValue3
 t4:=Tryz.underlying4
 a4:=Tryz.isAgg4
 z4:=Tryz.sizeOf4
 v4:=Tryz.zeroValue4
 t22:=Tryz.underlying87
 a22:=Tryz.isAgg87
 z22:=Tryz.sizeOf87
 v22:=Tryz.zeroValue87
 i3:=by kernel_rfl }
open Go.RowKit Go.Lib Go.Sort in
theorem Tryz.slices_Compact_int (blk off cap:Nat)(zs:List Int)(w:World)(hH:Holds (Value.int .i64) w blk off zs.toArray)(hsz:zs.length≤9223372036854775807)(hcap:zs.length≤cap) :
  Calls Tryz.prog 210 #[.slice (some ⟨blk,off,none⟩) zs.length cap] w fun e w'=>e = .returned (.slice (some ⟨blk,off,none⟩) (Lib.compact zs).length cap)∧∃ q,w'=putRow (Value.int .i64) (Sort.ahead w q) blk off (Lib.compact zs++List.replicate (zs.length-(Lib.compact zs).length) 0).toArray:=Any.slices_Compact_int Tryz.rV blk off cap zs w hH hsz hcap
open Go.RowKit Go.Lib Go.Sort in
theorem Tryz.slices_Compact_int_empty (a:Option Addr)(cap:Nat)(w:World) :
  Calls Tryz.prog 210 #[.slice a 0 cap] w fun e w'=>e = .returned (.slice a 0 cap)∧w'=w:=Any.slices_Compact_int_empty Tryz.rV a cap w
open Go.RowKit Go.Sort in
theorem Tryz.slices_Sort_int_none (p:Option Addr)(cap:Nat)(w:World) :
  Calls Tryz.prog 209 #[.slice p 0 cap] w fun e w'=>e = .returned (.tuple #[])∧w'=w:=Any.slices_Sort_int_none Tryz.Kw p cap w
end Go.Proofs
