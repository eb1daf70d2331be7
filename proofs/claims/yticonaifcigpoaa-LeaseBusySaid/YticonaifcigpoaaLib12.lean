/- Contracts of the library's functions that this seat calls, told of data. -/
import Derived.Test.YticonaifcigpoaaShelf
import Derived.Test.YticonaifcigpoaaSortU
import Derived.KernelRfl
import Derived.Test.YticonaifcigpoaaSym19
namespace Go.Proofs.Zz
open Go Go.Sy Go.RowKit Go.Proofs Go.Shelf
set_option linter.unusedVariables false
set_option maxRecDepth 100000

instance glob : Glob := ⟨fun _ => True, fun _ _ _ h => h⟩

noncomputable def infoOf (t : TypeId) : TypeInfo := match Try.prog.info? t with
  | some i => i
  | none => ⟨.bool, "", 0, 0, false, 0, 0, none, false, #[]⟩

abbrev LeaseT : Ty := .pair (.int .i64) (.pair (.int .i64) (.pair (.int .i64) (.pair (.int .i64) (.int .i64))))
noncomputable def renCLease : Ren := ⟨fun n => cond (Nat.beq n 41) 27 n, fun n => cond (Nat.beq n 22) 22 (cond (Nat.beq n 23) 32 n), fun n => n⟩
theorem layCLease : SlLaysE0.n41 Try.prog renCLease where
  mixed := by kernel_rfl
  f41 := ⟨Try.f27.name, by kernel_rfl, by kernel_rfl⟩
  t4 := Try.underlying4
  a4 := Try.isAgg4
  z4 := Try.sizeOf4
  v4 := Try.zeroValue4
  t22 := Try.underlying22
  a22 := Try.isAgg22
  z22 := Try.sizeOf22
  v22 := Try.zeroValue22
noncomputable def fCloneLease (xs : List LeaseT.T) : Option (List LeaseT.T × Unit) := fClone 40 xs
noncomputable def conCLease : Con := ⟨[.row LeaseT], [.own 32 LeaseT], fun x => fCloneLease x.1⟩
theorem okCLease : conCLease.OK Try.prog 27 := clone_ok (ρ := renCLease) (i0 := infoOf 32) (z := (Value.agg #[.int .i64 0, .int .i64 0, .int .i64 0, .int .i64 0, .int .i64 0])) (bytes := 40) (e := LeaseT) layCLease (by kernel_rfl) (by kernel_rfl) (by kernel_rfl) (by kernel_rfl) (by kernel_rfl) (by decide) (by decide) Try.sizeOf32

noncomputable def renILease : Ren := ⟨fun n => cond (Nat.beq n 22) 28 (cond (Nat.beq n 29) 42 (cond (Nat.beq n 30) 43 n)), fun n => cond (Nat.beq n 9) 32 (cond (Nat.beq n 24) 22 n), fun n => n⟩
theorem layILease : InsLay Try.prog renILease (infoOf 32) (Value.agg #[.int .i64 0, .int .i64 0, .int .i64 0, .int .i64 0, .int .i64 0]) 5 40 where
  mixed := by kernel_rfl
  f22 := ⟨Try.f28.name, by kernel_rfl, by kernel_rfl⟩
  fo := run_callFunc_extern Try.func42 (by kernel_rfl) (by kernel_rfl) (by kernel_rfl) (by kernel_rfl)
  t0 := Try.underlying0
  a0 := Try.isAgg0
  z0 := Try.sizeOf0
  v0 := Try.zeroValue0
  t3 := Try.underlying3
  a3 := Try.isAgg3
  z3 := Try.sizeOf3
  v3 := Try.zeroValue3
  t4 := Try.underlying4
  a4 := Try.isAgg4
  z4 := Try.sizeOf4
  v4 := Try.zeroValue4
  z9 := Try.sizeOf32
  t24 := Try.underlying22
  a24 := Try.isAgg22
  z24 := Try.sizeOf22
  v24 := Try.zeroValue22
  hi := by kernel_rfl
  hz0 := by kernel_rfl
  hz1 := by kernel_rfl
  hz2 := by kernel_rfl
  hzs := by kernel_rfl
  hsz := by decide
noncomputable def fInsLease (zs : List LeaseT.T) (i : Int) (vs : List LeaseT.T) : Option (List LeaseT.T) := fIns 40 zs i vs
noncomputable def uILease : UCon := ⟨32, LeaseT, [.int .i64, .row LeaseT], false, fun zs x => fInsLease zs x.1 x.2.1⟩
theorem okILease : uILease.OK Try.prog 28 := insert_ok (ρ := renILease) (e := LeaseT) layILease (by decide)

abbrev HeldT : Ty := .pair (.int .i64) (.pair (.int .i64) (.int .i64))
noncomputable def renCHeld : Ren := ⟨fun n => cond (Nat.beq n 41) 34 n, fun n => cond (Nat.beq n 22) 23 (cond (Nat.beq n 23) 45 n), fun n => n⟩
theorem layCHeld : SlLaysE0.n41 Try.prog renCHeld where
  mixed := by kernel_rfl
  f41 := ⟨Try.f34.name, by kernel_rfl, by kernel_rfl⟩
  t4 := Try.underlying4
  a4 := Try.isAgg4
  z4 := Try.sizeOf4
  v4 := Try.zeroValue4
  t22 := Try.underlying23
  a22 := Try.isAgg23
  z22 := Try.sizeOf23
  v22 := Try.zeroValue23
noncomputable def fCloneHeld (xs : List HeldT.T) : Option (List HeldT.T × Unit) := fClone 24 xs
noncomputable def conCHeld : Con := ⟨[.row HeldT], [.own 45 HeldT], fun x => fCloneHeld x.1⟩
theorem okCHeld : conCHeld.OK Try.prog 34 := clone_ok (ρ := renCHeld) (i0 := infoOf 45) (z := (Value.agg #[.int .i64 0, .int .i64 0, .int .i64 0])) (bytes := 24) (e := HeldT) layCHeld (by kernel_rfl) (by kernel_rfl) (by kernel_rfl) (by kernel_rfl) (by kernel_rfl) (by decide) (by decide) Try.sizeOf45

noncomputable def renIHeld : Ren := ⟨fun n => cond (Nat.beq n 22) 37 (cond (Nat.beq n 29) 50 (cond (Nat.beq n 30) 51 n)), fun n => cond (Nat.beq n 9) 45 (cond (Nat.beq n 24) 23 n), fun n => n⟩
theorem layIHeld : InsLay Try.prog renIHeld (infoOf 45) (Value.agg #[.int .i64 0, .int .i64 0, .int .i64 0]) 3 24 where
  mixed := by kernel_rfl
  f22 := ⟨Try.f37.name, by kernel_rfl, by kernel_rfl⟩
  fo := run_callFunc_extern Try.func50 (by kernel_rfl) (by kernel_rfl) (by kernel_rfl) (by kernel_rfl)
  t0 := Try.underlying0
  a0 := Try.isAgg0
  z0 := Try.sizeOf0
  v0 := Try.zeroValue0
  t3 := Try.underlying3
  a3 := Try.isAgg3
  z3 := Try.sizeOf3
  v3 := Try.zeroValue3
  t4 := Try.underlying4
  a4 := Try.isAgg4
  z4 := Try.sizeOf4
  v4 := Try.zeroValue4
  z9 := Try.sizeOf45
  t24 := Try.underlying23
  a24 := Try.isAgg23
  z24 := Try.sizeOf23
  v24 := Try.zeroValue23
  hi := by kernel_rfl
  hz0 := by kernel_rfl
  hz1 := by kernel_rfl
  hz2 := by kernel_rfl
  hzs := by kernel_rfl
  hsz := by decide
noncomputable def fInsHeld (zs : List HeldT.T) (i : Int) (vs : List HeldT.T) : Option (List HeldT.T) := fIns 24 zs i vs
noncomputable def uIHeld : UCon := ⟨45, HeldT, [.int .i64, .row HeldT], false, fun zs x => fInsHeld zs x.1 x.2.1⟩
theorem okIHeld : uIHeld.OK Try.prog 37 := insert_ok (ρ := renIHeld) (e := HeldT) layIHeld (by decide)

noncomputable def uSort : UCon := ⟨3, .int .i64, [], true, fun zs _ => fSort zs⟩
theorem okSort : uSort.OK Try.prog 25 := sort_ok Try.lays189 (fun w => Try.slices_Sort_int_none none 0 w) 3
noncomputable def uCompact : UCon := ⟨3, .int .i64, [], false, fun zs _ => fCompact zs⟩
theorem okCompact : uCompact.OK Try.prog 26 := compact_ok Try.laysNm220 3
end Go.Proofs.Zz
