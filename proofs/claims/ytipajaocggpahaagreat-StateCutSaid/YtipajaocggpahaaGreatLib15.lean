/- Contracts of the library's functions that this seat calls, told of data. -/
import Derived.Test.YtipajaocggpahaaGreatShelf
import Derived.Test.YtipajaocggpahaaGreatFD
import Derived.KernelRfl
import Derived.Test.YtipajaocggpahaaGreatFC
namespace Go.Proofs.Zz
open Go Go.Sy Go.RowKit Go.Proofs Go.Shelf
set_option linter.unusedVariables false
set_option maxRecDepth 100000

noncomputable instance glob : Glob := ⟨fun _ => True, rangeIn Tryz.prog, fun _ _ _ h => h⟩
instance rngG : RngG Tryz.prog := ⟨fun _ _ => rfl⟩

noncomputable def infoOf (t : TypeId) : TypeInfo := match Tryz.prog.info? t with
  | some i => i
  | none => ⟨.bool, "", 0, 0, false, 0, 0, none, false, #[]⟩

abbrev PoolT : Ty := .pair (.int .i64) (.pair (.int .i64) (.int .i64))
noncomputable def renCPool : Ren := ⟨fun n => cond (Nat.beq n 41) 47 n, fun n => cond (Nat.beq n 22) 28 (cond (Nat.beq n 23) 80 n), fun n => n⟩
theorem layCPool : SlLaysE0.n41 Tryz.prog renCPool where
  mixed := by kernel_rfl
  f41 := ⟨Tryz.f47.name, by kernel_rfl, by kernel_rfl⟩
  t4 := Tryz.underlying4
  a4 := Tryz.isAgg4
  z4 := Tryz.sizeOf4
  v4 := Tryz.zeroValue4
  t22 := Tryz.underlying28
  a22 := Tryz.isAgg28
  z22 := Tryz.sizeOf28
  v22 := Tryz.zeroValue28
noncomputable def fClonePool (xs : List PoolT.T) : Option (List PoolT.T × Unit) := fClone 24 xs
noncomputable def conCPool : Con := ⟨[.row PoolT], [.own 80 PoolT], fun x => fClonePool x.1⟩
theorem okCPool : conCPool.OK Tryz.prog 47 := clone_ok (ρ := renCPool) (i0 := infoOf 80) (z := (Value.agg #[.int .i64 0, .int .i64 0, .int .i64 0])) (bytes := 24) (e := PoolT) layCPool (by kernel_rfl) (by kernel_rfl) (by kernel_rfl) (by kernel_rfl) (by kernel_rfl) (by decide) (by decide) Tryz.sizeOf80

abbrev LeaseT : Ty := .pair (.int .i64) (.pair (.int .i64) (.pair (.int .i64) (.pair (.int .i64) (.int .i64))))
noncomputable def renCLease : Ren := ⟨fun n => cond (Nat.beq n 41) 48 n, fun n => cond (Nat.beq n 22) 29 (cond (Nat.beq n 23) 55 n), fun n => n⟩
theorem layCLease : SlLaysE0.n41 Tryz.prog renCLease where
  mixed := by kernel_rfl
  f41 := ⟨Tryz.f48.name, by kernel_rfl, by kernel_rfl⟩
  t4 := Tryz.underlying4
  a4 := Tryz.isAgg4
  z4 := Tryz.sizeOf4
  v4 := Tryz.zeroValue4
  t22 := Tryz.underlying29
  a22 := Tryz.isAgg29
  z22 := Tryz.sizeOf29
  v22 := Tryz.zeroValue29
noncomputable def fCloneLease (xs : List LeaseT.T) : Option (List LeaseT.T × Unit) := fClone 40 xs
noncomputable def conCLease : Con := ⟨[.row LeaseT], [.own 55 LeaseT], fun x => fCloneLease x.1⟩
theorem okCLease : conCLease.OK Tryz.prog 48 := clone_ok (ρ := renCLease) (i0 := infoOf 55) (z := (Value.agg #[.int .i64 0, .int .i64 0, .int .i64 0, .int .i64 0, .int .i64 0])) (bytes := 40) (e := LeaseT) layCLease (by kernel_rfl) (by kernel_rfl) (by kernel_rfl) (by kernel_rfl) (by kernel_rfl) (by decide) (by decide) Tryz.sizeOf55

noncomputable def renILease : Ren := ⟨fun n => cond (Nat.beq n 22) 119 (cond (Nat.beq n 29) 129 (cond (Nat.beq n 30) 130 n)), fun n => cond (Nat.beq n 9) 55 (cond (Nat.beq n 24) 29 n), fun n => n⟩
theorem layILease : InsLay Tryz.prog renILease (infoOf 55) (Value.agg #[.int .i64 0, .int .i64 0, .int .i64 0, .int .i64 0, .int .i64 0]) 5 40 where
  mixed := by kernel_rfl
  f22 := ⟨Tryz.f119.name, by kernel_rfl, by kernel_rfl⟩
  fo := run_callFunc_extern Tryz.func129 (by kernel_rfl) (by kernel_rfl) (by kernel_rfl) (by kernel_rfl)
  t0 := Tryz.underlying0
  a0 := Tryz.isAgg0
  z0 := Tryz.sizeOf0
  v0 := Tryz.zeroValue0
  t3 := Tryz.underlying3
  a3 := Tryz.isAgg3
  z3 := Tryz.sizeOf3
  v3 := Tryz.zeroValue3
  t4 := Tryz.underlying4
  a4 := Tryz.isAgg4
  z4 := Tryz.sizeOf4
  v4 := Tryz.zeroValue4
  z9 := Tryz.sizeOf55
  t24 := Tryz.underlying29
  a24 := Tryz.isAgg29
  z24 := Tryz.sizeOf29
  v24 := Tryz.zeroValue29
  hi := by kernel_rfl
  hz0 := by kernel_rfl
  hz1 := by kernel_rfl
  hz2 := by kernel_rfl
  hzs := by kernel_rfl
  hsz := by decide
noncomputable def fInsLease (zs : List LeaseT.T) (i : Int) (vs : List LeaseT.T) : Option (List LeaseT.T) := fIns 40 zs i vs
noncomputable def uILease : UCon := ⟨55, LeaseT, [.int .i64, .row LeaseT], false, fun zs x => fInsLease zs x.1 x.2.1⟩
theorem okILease : uILease.OK Tryz.prog 119 := insert_ok (ρ := renILease) (e := LeaseT) layILease (by decide)

abbrev HeldT : Ty := .pair (.int .i64) (.pair (.int .i64) (.int .i64))
noncomputable def renCHeld : Ren := ⟨fun n => cond (Nat.beq n 41) 49 n, fun n => cond (Nat.beq n 22) 30 (cond (Nat.beq n 23) 65 n), fun n => n⟩
theorem layCHeld : SlLaysE0.n41 Tryz.prog renCHeld where
  mixed := by kernel_rfl
  f41 := ⟨Tryz.f49.name, by kernel_rfl, by kernel_rfl⟩
  t4 := Tryz.underlying4
  a4 := Tryz.isAgg4
  z4 := Tryz.sizeOf4
  v4 := Tryz.zeroValue4
  t22 := Tryz.underlying30
  a22 := Tryz.isAgg30
  z22 := Tryz.sizeOf30
  v22 := Tryz.zeroValue30
noncomputable def fCloneHeld (xs : List HeldT.T) : Option (List HeldT.T × Unit) := fClone 24 xs
noncomputable def conCHeld : Con := ⟨[.row HeldT], [.own 65 HeldT], fun x => fCloneHeld x.1⟩
theorem okCHeld : conCHeld.OK Tryz.prog 49 := clone_ok (ρ := renCHeld) (i0 := infoOf 65) (z := (Value.agg #[.int .i64 0, .int .i64 0, .int .i64 0])) (bytes := 24) (e := HeldT) layCHeld (by kernel_rfl) (by kernel_rfl) (by kernel_rfl) (by kernel_rfl) (by kernel_rfl) (by decide) (by decide) Tryz.sizeOf65

noncomputable def renIHeld : Ren := ⟨fun n => cond (Nat.beq n 22) 124 (cond (Nat.beq n 29) 134 (cond (Nat.beq n 30) 135 n)), fun n => cond (Nat.beq n 9) 65 (cond (Nat.beq n 24) 30 n), fun n => n⟩
theorem layIHeld : InsLay Tryz.prog renIHeld (infoOf 65) (Value.agg #[.int .i64 0, .int .i64 0, .int .i64 0]) 3 24 where
  mixed := by kernel_rfl
  f22 := ⟨Tryz.f124.name, by kernel_rfl, by kernel_rfl⟩
  fo := run_callFunc_extern Tryz.func134 (by kernel_rfl) (by kernel_rfl) (by kernel_rfl) (by kernel_rfl)
  t0 := Tryz.underlying0
  a0 := Tryz.isAgg0
  z0 := Tryz.sizeOf0
  v0 := Tryz.zeroValue0
  t3 := Tryz.underlying3
  a3 := Tryz.isAgg3
  z3 := Tryz.sizeOf3
  v3 := Tryz.zeroValue3
  t4 := Tryz.underlying4
  a4 := Tryz.isAgg4
  z4 := Tryz.sizeOf4
  v4 := Tryz.zeroValue4
  z9 := Tryz.sizeOf65
  t24 := Tryz.underlying30
  a24 := Tryz.isAgg30
  z24 := Tryz.sizeOf30
  v24 := Tryz.zeroValue30
  hi := by kernel_rfl
  hz0 := by kernel_rfl
  hz1 := by kernel_rfl
  hz2 := by kernel_rfl
  hzs := by kernel_rfl
  hsz := by decide
noncomputable def fInsHeld (zs : List HeldT.T) (i : Int) (vs : List HeldT.T) : Option (List HeldT.T) := fIns 24 zs i vs
noncomputable def uIHeld : UCon := ⟨65, HeldT, [.int .i64, .row HeldT], false, fun zs x => fInsHeld zs x.1 x.2.1⟩
theorem okIHeld : uIHeld.OK Tryz.prog 124 := insert_ok (ρ := renIHeld) (e := HeldT) layIHeld (by decide)

noncomputable def uSort : UCon := ⟨3, .int .i64, [], true, fun zs _ => fSort zs⟩
theorem okSort : uSort.OK Tryz.prog 126 := sort_ok Tryz.lays189 (fun w => Tryz.slices_Sort_int_none none 0 w) 3
noncomputable def uCompact : UCon := ⟨3, .int .i64, [], false, fun zs _ => fCompact zs⟩
theorem okCompact : uCompact.OK Tryz.prog 127 := compact_ok Tryz.laysNm220 3
end Go.Proofs.Zz
