/- Contracts of the library's functions that this seat calls, told of data. -/
import Derived.Test.YtimnecbhjgllmaaDoorShelf
import Derived.Test.YtimnecbhjgllmaaDoorSortU
import Derived.KernelRfl
import Derived.Test.YtimnecbhjgllmaaDoorSym19
import Derived.Test.YtimnecbhjgllmaaDoorLibT
namespace Go.Proofs.Zz
open Go Go.Sy Go.RowKit Go.Proofs Go.Shelf
set_option linter.unusedVariables false
set_option maxRecDepth 100000

/-- the table that TrailingZeros reads stands in its variable -/
def preG (S : Stable) : Prop := ∀ w : World, (∀ b o, S b = some o → w.heap[b]? = some o) → Go.Proofs.TabAt 1 Lib.deBruijn64tab w

noncomputable instance glob : Glob := ⟨preG, rangeIn Tryd.prog, fun S S' h hp w hw => hp w fun b o hb => hw b o (h b o hb)⟩
instance rngG : RngG Tryd.prog := ⟨fun _ _ => rfl⟩

noncomputable def infoOf (t : TypeId) : TypeInfo := match Tryd.prog.info? t with
  | some i => i
  | none => ⟨.bool, "", 0, 0, false, 0, 0, none, false, #[]⟩

abbrev LeaseT : Ty := .pair (.int .i64) (.pair (.int .i64) (.pair (.int .i64) (.pair (.int .i64) (.int .i64))))
noncomputable def renCLease : Ren := ⟨fun n => cond (Nat.beq n 41) 27 n, fun n => cond (Nat.beq n 22) 26 (cond (Nat.beq n 23) 42 n), fun n => n⟩
theorem layCLease : SlLaysE0.n41 Tryd.prog renCLease where
  mixed := by kernel_rfl
  f41 := ⟨Tryd.f27.name, by kernel_rfl, by kernel_rfl⟩
  t4 := Tryd.underlying4
  a4 := Tryd.isAgg4
  z4 := Tryd.sizeOf4
  v4 := Tryd.zeroValue4
  t22 := Tryd.underlying26
  a22 := Tryd.isAgg26
  z22 := Tryd.sizeOf26
  v22 := Tryd.zeroValue26
noncomputable def fCloneLease (xs : List LeaseT.T) : Option (List LeaseT.T × Unit) := fClone 40 xs
noncomputable def conCLease : Con := ⟨[.row LeaseT], [.own 42 LeaseT], fun x => fCloneLease x.1⟩
theorem okCLease : conCLease.OK Tryd.prog 27 := clone_ok (ρ := renCLease) (i0 := infoOf 42) (z := (Value.agg #[.int .i64 0, .int .i64 0, .int .i64 0, .int .i64 0, .int .i64 0])) (bytes := 40) (e := LeaseT) layCLease (by kernel_rfl) (by kernel_rfl) (by kernel_rfl) (by kernel_rfl) (by kernel_rfl) (by decide) (by decide) Tryd.sizeOf42

noncomputable def renILease : Ren := ⟨fun n => cond (Nat.beq n 22) 28 (cond (Nat.beq n 29) 47 (cond (Nat.beq n 30) 48 n)), fun n => cond (Nat.beq n 9) 42 (cond (Nat.beq n 24) 26 n), fun n => n⟩
theorem layILease : InsLay Tryd.prog renILease (infoOf 42) (Value.agg #[.int .i64 0, .int .i64 0, .int .i64 0, .int .i64 0, .int .i64 0]) 5 40 where
  mixed := by kernel_rfl
  f22 := ⟨Tryd.f28.name, by kernel_rfl, by kernel_rfl⟩
  fo := run_callFunc_extern Tryd.func47 (by kernel_rfl) (by kernel_rfl) (by kernel_rfl) (by kernel_rfl)
  t0 := Tryd.underlying0
  a0 := Tryd.isAgg0
  z0 := Tryd.sizeOf0
  v0 := Tryd.zeroValue0
  t3 := Tryd.underlying3
  a3 := Tryd.isAgg3
  z3 := Tryd.sizeOf3
  v3 := Tryd.zeroValue3
  t4 := Tryd.underlying4
  a4 := Tryd.isAgg4
  z4 := Tryd.sizeOf4
  v4 := Tryd.zeroValue4
  z9 := Tryd.sizeOf42
  t24 := Tryd.underlying26
  a24 := Tryd.isAgg26
  z24 := Tryd.sizeOf26
  v24 := Tryd.zeroValue26
  hi := by kernel_rfl
  hz0 := by kernel_rfl
  hz1 := by kernel_rfl
  hz2 := by kernel_rfl
  hzs := by kernel_rfl
  hsz := by decide
noncomputable def fInsLease (zs : List LeaseT.T) (i : Int) (vs : List LeaseT.T) : Option (List LeaseT.T) := fIns 40 zs i vs
noncomputable def uILease : UCon := ⟨42, LeaseT, [.int .i64, .row LeaseT], false, fun zs x => fInsLease zs x.1 x.2.1⟩
theorem okILease : uILease.OK Tryd.prog 28 := insert_ok (ρ := renILease) (e := LeaseT) layILease (by decide)

abbrev HeldT : Ty := .pair (.int .i64) (.pair (.int .i64) (.int .i64))
noncomputable def renCHeld : Ren := ⟨fun n => cond (Nat.beq n 41) 31 n, fun n => cond (Nat.beq n 22) 27 (cond (Nat.beq n 23) 34 n), fun n => n⟩
theorem layCHeld : SlLaysE0.n41 Tryd.prog renCHeld where
  mixed := by kernel_rfl
  f41 := ⟨Tryd.f31.name, by kernel_rfl, by kernel_rfl⟩
  t4 := Tryd.underlying4
  a4 := Tryd.isAgg4
  z4 := Tryd.sizeOf4
  v4 := Tryd.zeroValue4
  t22 := Tryd.underlying27
  a22 := Tryd.isAgg27
  z22 := Tryd.sizeOf27
  v22 := Tryd.zeroValue27
noncomputable def fCloneHeld (xs : List HeldT.T) : Option (List HeldT.T × Unit) := fClone 24 xs
noncomputable def conCHeld : Con := ⟨[.row HeldT], [.own 34 HeldT], fun x => fCloneHeld x.1⟩
theorem okCHeld : conCHeld.OK Tryd.prog 31 := clone_ok (ρ := renCHeld) (i0 := infoOf 34) (z := (Value.agg #[.int .i64 0, .int .i64 0, .int .i64 0])) (bytes := 24) (e := HeldT) layCHeld (by kernel_rfl) (by kernel_rfl) (by kernel_rfl) (by kernel_rfl) (by kernel_rfl) (by decide) (by decide) Tryd.sizeOf34

noncomputable def renIHeld : Ren := ⟨fun n => cond (Nat.beq n 22) 34 (cond (Nat.beq n 29) 52 (cond (Nat.beq n 30) 53 n)), fun n => cond (Nat.beq n 9) 34 (cond (Nat.beq n 24) 27 n), fun n => n⟩
theorem layIHeld : InsLay Tryd.prog renIHeld (infoOf 34) (Value.agg #[.int .i64 0, .int .i64 0, .int .i64 0]) 3 24 where
  mixed := by kernel_rfl
  f22 := ⟨Tryd.f34.name, by kernel_rfl, by kernel_rfl⟩
  fo := run_callFunc_extern Tryd.func52 (by kernel_rfl) (by kernel_rfl) (by kernel_rfl) (by kernel_rfl)
  t0 := Tryd.underlying0
  a0 := Tryd.isAgg0
  z0 := Tryd.sizeOf0
  v0 := Tryd.zeroValue0
  t3 := Tryd.underlying3
  a3 := Tryd.isAgg3
  z3 := Tryd.sizeOf3
  v3 := Tryd.zeroValue3
  t4 := Tryd.underlying4
  a4 := Tryd.isAgg4
  z4 := Tryd.sizeOf4
  v4 := Tryd.zeroValue4
  z9 := Tryd.sizeOf34
  t24 := Tryd.underlying27
  a24 := Tryd.isAgg27
  z24 := Tryd.sizeOf27
  v24 := Tryd.zeroValue27
  hi := by kernel_rfl
  hz0 := by kernel_rfl
  hz1 := by kernel_rfl
  hz2 := by kernel_rfl
  hzs := by kernel_rfl
  hsz := by decide
noncomputable def fInsHeld (zs : List HeldT.T) (i : Int) (vs : List HeldT.T) : Option (List HeldT.T) := fIns 24 zs i vs
noncomputable def uIHeld : UCon := ⟨34, HeldT, [.int .i64, .row HeldT], false, fun zs x => fInsHeld zs x.1 x.2.1⟩
theorem okIHeld : uIHeld.OK Tryd.prog 34 := insert_ok (ρ := renIHeld) (e := HeldT) layIHeld (by decide)

noncomputable def uSort : UCon := ⟨3, .int .i64, [], true, fun zs _ => fSort zs⟩
theorem okSort : uSort.OK Tryd.prog 37 := sort_ok Tryd.lays189 (fun w => Tryd.slices_Sort_int_none none 0 w) 3
noncomputable def uCompact : UCon := ⟨3, .int .i64, [], false, fun zs _ => fCompact zs⟩
theorem okCompact : uCompact.OK Tryd.prog 38 := compact_ok Tryd.laysNm220 3
noncomputable def conTz : Con := ⟨[.int .u64], [.val (.int .i64)], fun x => fTz x.1⟩

theorem nat_of_u64 (n : Int) (h0 : 0 ≤ n) (h1 : n < 18446744073709551616) : n.toNat < 18446744073709551616 ∧ ((n.toNat : Nat) : Int) = n := ⟨by omega, by omega⟩

theorem okTz : conTz.OK Tryd.prog 46 := by
  intro x y hf S w vs hst hpre ha
  obtain ⟨n, u⟩ := x
  obtain ⟨v, r, rfl, h1, h2⟩ := ha
  simp only [RdArgs] at h2
  subst h2
  simp only [RdV, Ty.isAgg, Rd] at h1
  simp only [Bool.false_eq_true, if_false, List.cons.injEq, and_true] at h1
  subst h1
  obtain ⟨hc, rfl⟩ := cond_some (show cond (decide (0 ≤ n) && decide (n < 18446744073709551616)) (some (tzI n, ())) none = some y from hf)
  simp only [Bool.and_eq_true, decide_eq_true_eq] at hc
  obtain ⟨h2, hn⟩ := nat_of_u64 n hc.1 hc.2
  have := Tryd.bits_TrailingZeros n.toNat h2 w (fun _ => hpre w hst)
  rw [hn] at this
  refine this.mono ?_
  rintro e w' ⟨rfl, rfl⟩
  exact ⟨[.int .i64 (tzI n)], S, [], rfl, Below.refl _ _, fun _ _ h => h, hst, fun b h => .inl h, ⟨_, [], [], [], rfl, rfl, by simp [RdRV, RTy.isAgg, Ty.isAgg, RdR, Rd, tzI], rfl, rfl⟩, by simp, .nil⟩
end Go.Proofs.Zz
