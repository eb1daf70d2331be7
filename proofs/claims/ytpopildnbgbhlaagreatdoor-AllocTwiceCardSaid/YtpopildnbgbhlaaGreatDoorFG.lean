/- Ord, Lib13. -/
import Derived.Test.YtpopildnbgbhlaaGreatDoorFS
import Derived.Shelf.SlSortCmp.NoneTotal
import Derived.ProofKit
import Derived.StillTailTactics
import Derived.Test.YtpopildnbgbhlaaGreatDoorFE
import Derived.KernelRfl
import Derived.Test.YtpopildnbgbhlaaGreatDoorFD
namespace Go.Proofs
theorem World.alloc_size (W : World) (o : Obj) : (W.alloc o).heap.size = W.heap.size + 1 := by
 show (W.heap.push o).size = _
 simp
open Go Go.Shelf Go.RowKit Go.Lib Go.Sort
set_option maxHeartbeats 4000000
set_option maxRecDepth 100000
def orI (p q : Int) : Int := if p = 0 then q else p
theorem Tryz.or_two (b : Nat) (p q : Int) (W : World) (h0 : W.cell? ⟨b, 0, none⟩ = some (.int .i64 p)) (h1 : W.cell? ⟨b, 1, none⟩ = some (.int .i64 q)) :
  Calls Tryz.prog 148 #[.slice (some ⟨b, 0, none⟩) 2 2] W fun e w' => e = .returned (.int .i64 (orI p q)) ∧ w' = W := by
 go_enter Tryz.func148, Tryz.ntmps148
 go_wp2
 refine wp_loop_rounds 3 ?_
 rw [rounds_succ]
 go_wp2
 ·have hp : p ≠ 0 := by simp_all
  go_ret
  exact ⟨by rw [orI, if_neg hp]; rfl, rfl⟩
 ·have hp : p = 0 := by simp_all
  rw [rounds_succ]
  go_wp2
  ·go_ret
   exact ⟨by rw [orI, if_pos hp]; rfl, rfl⟩
  ·have hq : q = 0 := by simp_all
   rw [rounds_succ]
   go_wp2
   go_ret
   exact ⟨by rw [orI, if_pos hp, hq]; rfl, rfl⟩
theorem cell_new (W : World) (cs : Array Value) (t : TypeId) (k : Nat) {v : Value} (h : cs[k]? = some v) : (W.alloc (.cells cs t)).cell? ⟨W.heap.size, k, none⟩ = some v := by
 have e : (W.alloc (.cells cs t)).heap[W.heap.size]? = some (.cells cs t) := by
  show (W.heap.push (Obj.cells cs t))[W.heap.size]? = _
  rw [Array.getElem?_push, if_pos rfl]
 unfold World.cell?
 simp only [e]
 exact h
theorem cell_old {W : World} {a : Addr} {v : Value} (h : W.cell? a = some v) (o : Obj) : (W.alloc o).cell? a = some v := by
 unfold World.cell? at h ⊢
 have hlt : a.block < W.heap.size := by
  rcases Nat.lt_or_ge a.block W.heap.size with h' | h'
  ·exact h'
  ·rw [Array.getElem?_eq_none h'] at h; simp at h
 have e : (W.alloc o).heap[a.block]? = W.heap[a.block]? := by
  show (W.heap.push o)[a.block]? = _
  rw [Array.getElem?_push, if_neg (by omega)]
 rw [e]; exact h
theorem two_grown (W : World) (o1 o2 : Obj) : ∃ q os', ((W.alloc o1).alloc o2).drew = grow (W.drewN q) os' := ⟨1, #[o1, o2], by
 show ({ W with heap := (W.heap.push o1).push o2, drawn := W.drawn + 1 } : World) = { (W.drewN 1) with heap := W.heap ++ #[o1, o2] }
 have : W.heap ++ #[o1, o2] = (W.heap.push o1).push o2 := Array.toList_inj.1 (by rw [Array.toList_append, Array.toList_push, Array.toList_push, List.append_assoc]; rfl)
 rw [this]; rfl⟩
theorem one_grown {W w2 : World} (h : ∃ q os', w2 = grow (W.drewN q) os') (o : Obj) : ∃ q os', w2.alloc o = grow (W.drewN q) os' := by
 obtain ⟨q, os, rfl⟩ := h
 exact ⟨q, os.push o, by
  show ({ (W.drewN q) with heap := (W.heap ++ os).push o } : World) = { (W.drewN q) with heap := W.heap ++ os.push o }
  have : W.heap ++ os.push o = (W.heap ++ os).push o := by simp
  rw [this]⟩
def ordI (x y : Int × Int) : Int := orI (Lib.compareInt x.2 y.2) (Lib.compareInt x.1 y.1)
theorem Tryz.order_grown (x y : Int × Int) (W : World) : Calls Tryz.prog 132 #[.agg #[.int .i64 x.1, .int .i64 x.2], .agg #[.int .i64 y.1, .int .i64 y.2]] W fun e w' => e = .returned (.int .i64 (ordI x y)) ∧ ∃ q os', w' = grow (W.drewN q) os' := by
 have hcon := fun p q W' => Tryz.cmp_Compare_int p q W'
 have hor := fun b p q W' h0 h1 => Tryz.or_two b p q W' h0 h1
 unfold ordI
 generalize hr1 : Lib.compareInt x.2 y.2 = r1
 generalize hr2 : Lib.compareInt x.1 y.1 = r2
 have hc1 := fun W' => hcon x.2 y.2 W'
 have hc2 := fun W' => hcon x.1 y.1 W'
 rw [hr1] at hc1
 rw [hr2] at hc2
 clear hcon hr1 hr2
 go_enter Tryz.func132, Tryz.ntmps132
 go_wp2
 have hm : Tryz.prog.follows .mixedOrders = true := by kernel_rfl
 have k1 : ((W.alloc (Obj.cells #[Value.int IntKind.i64 x.fst, Value.int IntKind.i64 x.snd] 119)).alloc (Obj.cells #[Value.int IntKind.i64 y.fst, Value.int IntKind.i64 y.snd] 119)).drew.cell? ⟨W.heap.size, 0, none⟩ = some (.int .i64 x.1) := cell_old (cell_new W _ _ 0 rfl) _
 have k2 : ((W.alloc (Obj.cells #[Value.int IntKind.i64 x.fst, Value.int IntKind.i64 x.snd] 119)).alloc (Obj.cells #[Value.int IntKind.i64 y.fst, Value.int IntKind.i64 y.snd] 119)).drew.cell? ⟨W.heap.size, 1, none⟩ = some (.int .i64 x.2) := cell_old (cell_new W _ _ 1 rfl) _
 have k3 : ((W.alloc (Obj.cells #[Value.int IntKind.i64 x.fst, Value.int IntKind.i64 x.snd] 119)).alloc (Obj.cells #[Value.int IntKind.i64 y.fst, Value.int IntKind.i64 y.snd] 119)).drew.cell? ⟨W.heap.size + 1, 0, none⟩ = some (.int .i64 y.1) := by have := cell_new (W.alloc (Obj.cells #[Value.int IntKind.i64 x.fst, Value.int IntKind.i64 x.snd] 119)) #[Value.int IntKind.i64 y.fst, Value.int IntKind.i64 y.snd] 119 0 rfl; rw [World.alloc_size] at this; exact this
 have k4 : ((W.alloc (Obj.cells #[Value.int IntKind.i64 x.fst, Value.int IntKind.i64 x.snd] 119)).alloc (Obj.cells #[Value.int IntKind.i64 y.fst, Value.int IntKind.i64 y.snd] 119)).drew.cell? ⟨W.heap.size + 1, 1, none⟩ = some (.int .i64 y.2) := by have := cell_new (W.alloc (Obj.cells #[Value.int IntKind.i64 x.fst, Value.int IntKind.i64 x.snd] 119)) #[Value.int IntKind.i64 y.fst, Value.int IntKind.i64 y.snd] 119 1 rfl; rw [World.alloc_size] at this; exact this
 refine wp_region_still_tail 10 hm (by kernel_rfl) ?_
 change wpStill _ _ (World.drew ((W.alloc (Obj.cells #[Value.int IntKind.i64 x.fst, Value.int IntKind.i64 x.snd] 119)).alloc (Obj.cells #[Value.int IntKind.i64 y.fst, Value.int IntKind.i64 y.snd] 119))) (fun a' => wpList _ _ _ _ a' (World.drew ((W.alloc (Obj.cells #[Value.int IntKind.i64 x.fst, Value.int IntKind.i64 x.snd] 119)).alloc (Obj.cells #[Value.int IntKind.i64 y.fst, Value.int IntKind.i64 y.snd] 119)))) _ _
 have hz := two_grown W (Obj.cells #[Value.int IntKind.i64 x.fst, Value.int IntKind.i64 x.snd] 119) (Obj.cells #[Value.int IntKind.i64 y.fst, Value.int IntKind.i64 y.snd] 119)
 generalize World.drew ((W.alloc (Obj.cells #[Value.int IntKind.i64 x.fst, Value.int IntKind.i64 x.snd] 119)).alloc (Obj.cells #[Value.int IntKind.i64 y.fst, Value.int IntKind.i64 y.snd] 119)) = w2 at k1 k2 k3 k4 hz ⊢
 simp only [List.take_succ_cons, List.take_zero, List.drop_succ_cons, List.drop_zero]
 iterate 4 still_step
 still_call (hc1 _)
 iterate 4 still_step
 still_call (hc2 _)
 refine wpStill_nil ?_
 go_wp2_with (go_at_call 148; refine (hor _ r1 r2 _ (cell_new _ _ _ 0 rfl) (cell_new _ _ _ 1 rfl)).mono ?_; rintro e w' ⟨rfl, rfl⟩)
 go_ret
 exact ⟨rfl, one_grown hz _⟩
end Go.Proofs
namespace Go.Proofs.Zz
open Go Go.Sy Go.RowKit Go.Proofs Go.Shelf
set_option linter.unusedVariables false
set_option maxRecDepth 100000
def preG (S : Stable) : Prop := ∀ w : World, (∀ b o, S b = some o → w.heap[b]? = some o) → Go.Proofs.TabAt 1 Lib.deBruijn64tab w
noncomputable instance glob : Glob := ⟨preG, rangeIn Tryz.prog, fun S S' h hp w hw => hp w fun b o hb => hw b o (h b o hb)⟩
instance rngG : RngG Tryz.prog := ⟨fun _ _ => rfl⟩
noncomputable def infoOf (t : TypeId) : TypeInfo := match Tryz.prog.info? t with
 | some i => i
 | none => ⟨.bool, "", 0, 0, false, 0, 0, none, false, #[]⟩
abbrev PoolT : Ty := .pair (.int .i64) (.pair (.int .i64) (.int .i64))
noncomputable def renCPool : Ren := ⟨fun n => cond (Nat.beq n 41) 77 n, fun n => cond (Nat.beq n 22) 28 (cond (Nat.beq n 23) 95 n), fun n => n⟩
theorem layCPool : SlLaysE0.n41 Tryz.prog renCPool where
 mixed := by kernel_rfl
 f41 := ⟨Tryz.f77.name, by kernel_rfl, by kernel_rfl⟩
 t4 := Tryz.underlying4
 a4 := Tryz.isAgg4
 z4 := Tryz.sizeOf4
 v4 := Tryz.zeroValue4
 t22 := Tryz.underlying28
 a22 := Tryz.isAgg28
 z22 := Tryz.sizeOf28
 v22 := Tryz.zeroValue28
noncomputable def fClonePool (xs : List PoolT.T) : Option (List PoolT.T × Unit) := fClone 24 xs
noncomputable def conCPool : Con := ⟨[.row PoolT], [.own 95 PoolT], fun x => fClonePool x.1⟩
theorem okCPool : conCPool.OK Tryz.prog 77 := clone_ok (ρ := renCPool) (i0 := infoOf 95) (z := (Value.agg #[.int .i64 0, .int .i64 0, .int .i64 0])) (bytes := 24) (e := PoolT) layCPool (by kernel_rfl) (by kernel_rfl) (by kernel_rfl) (by kernel_rfl) (by kernel_rfl) (by decide) (by decide) Tryz.sizeOf95
abbrev LeaseT : Ty := .pair (.int .i64) (.pair (.int .i64) (.pair (.int .i64) (.pair (.int .i64) (.int .i64))))
noncomputable def renCLease : Ren := ⟨fun n => cond (Nat.beq n 41) 58 n, fun n => cond (Nat.beq n 22) 29 (cond (Nat.beq n 23) 55 n), fun n => n⟩
theorem layCLease : SlLaysE0.n41 Tryz.prog renCLease where
 mixed := by kernel_rfl
 f41 := ⟨Tryz.f58.name, by kernel_rfl, by kernel_rfl⟩
 t4 := Tryz.underlying4
 a4 := Tryz.isAgg4
 z4 := Tryz.sizeOf4
 v4 := Tryz.zeroValue4
 t22 := Tryz.underlying29
 a22 := Tryz.isAgg29
 z22 := Tryz.sizeOf29
 v22 := Tryz.zeroValue29
noncomputable def fCloneLease (xs : List LeaseT.T) : Option (List LeaseT.T × Unit) := fClone 40 xs
noncomputable def conCLease : Con := ⟨[.row LeaseT], [.own 55 LeaseT], fun x => fCloneLease x.1⟩
theorem okCLease : conCLease.OK Tryz.prog 58 := clone_ok (ρ := renCLease) (i0 := infoOf 55) (z := (Value.agg #[.int .i64 0, .int .i64 0, .int .i64 0, .int .i64 0, .int .i64 0])) (bytes := 40) (e := LeaseT) layCLease (by kernel_rfl) (by kernel_rfl) (by kernel_rfl) (by kernel_rfl) (by kernel_rfl) (by decide) (by decide) Tryz.sizeOf55
noncomputable def renILease : Ren := ⟨fun n => cond (Nat.beq n 22) 101 (cond (Nat.beq n 29) 124 (cond (Nat.beq n 30) 125 n)), fun n => cond (Nat.beq n 9) 55 (cond (Nat.beq n 24) 29 n), fun n => n⟩
theorem layILease : InsLay Tryz.prog renILease (infoOf 55) (Value.agg #[.int .i64 0, .int .i64 0, .int .i64 0, .int .i64 0, .int .i64 0]) 5 40 where
 mixed := by kernel_rfl
 f22 := ⟨Tryz.f101.name, by kernel_rfl, by kernel_rfl⟩
 fo := run_callFunc_extern Tryz.func124 (by kernel_rfl) (by kernel_rfl) (by kernel_rfl) (by kernel_rfl)
 t0 := Tryz.underlying0
 a0 := Tryz.isAgg0
 z0 := Tryz.sizeOf0
 v0 := Tryz.zeroValue0
 t3 := Tryz.underlying3
 a3 := Tryz.isAgg3
 z3 := Tryz.sizeOf3
 v3 := Tryz.zeroValue3
 t4 := Tryz.underlying4
 a4 := Tryz.isAgg4
 z4 := Tryz.sizeOf4
 v4 := Tryz.zeroValue4
 z9 := Tryz.sizeOf55
 t24 := Tryz.underlying29
 a24 := Tryz.isAgg29
 z24 := Tryz.sizeOf29
 v24 := Tryz.zeroValue29
 hi := by kernel_rfl
 hz0 := by kernel_rfl
 hz1 := by kernel_rfl
 hz2 := by kernel_rfl
 hzs := by kernel_rfl
 hsz := by decide
noncomputable def fInsLease (zs : List LeaseT.T) (i : Int) (vs : List LeaseT.T) : Option (List LeaseT.T) := fIns 40 zs i vs
noncomputable def uILease : UCon := ⟨55, LeaseT, [.int .i64, .row LeaseT], false, fun zs x => fInsLease zs x.1 x.2.1⟩
theorem okILease : uILease.OK Tryz.prog 101 := insert_ok (ρ := renILease) (e := LeaseT) layILease (by decide)
abbrev HeldT : Ty := .pair (.int .i64) (.pair (.int .i64) (.int .i64))
noncomputable def renCHeld : Ren := ⟨fun n => cond (Nat.beq n 41) 78 n, fun n => cond (Nat.beq n 22) 30 (cond (Nat.beq n 23) 68 n), fun n => n⟩
theorem layCHeld : SlLaysE0.n41 Tryz.prog renCHeld where
 mixed := by kernel_rfl
 f41 := ⟨Tryz.f78.name, by kernel_rfl, by kernel_rfl⟩
 t4 := Tryz.underlying4
 a4 := Tryz.isAgg4
 z4 := Tryz.sizeOf4
 v4 := Tryz.zeroValue4
 t22 := Tryz.underlying30
 a22 := Tryz.isAgg30
 z22 := Tryz.sizeOf30
 v22 := Tryz.zeroValue30
noncomputable def fCloneHeld (xs : List HeldT.T) : Option (List HeldT.T × Unit) := fClone 24 xs
noncomputable def conCHeld : Con := ⟨[.row HeldT], [.own 68 HeldT], fun x => fCloneHeld x.1⟩
theorem okCHeld : conCHeld.OK Tryz.prog 78 := clone_ok (ρ := renCHeld) (i0 := infoOf 68) (z := (Value.agg #[.int .i64 0, .int .i64 0, .int .i64 0])) (bytes := 24) (e := HeldT) layCHeld (by kernel_rfl) (by kernel_rfl) (by kernel_rfl) (by kernel_rfl) (by kernel_rfl) (by decide) (by decide) Tryz.sizeOf68
noncomputable def renIHeld : Ren := ⟨fun n => cond (Nat.beq n 22) 130 (cond (Nat.beq n 29) 150 (cond (Nat.beq n 30) 151 n)), fun n => cond (Nat.beq n 9) 68 (cond (Nat.beq n 24) 30 n), fun n => n⟩
theorem layIHeld : InsLay Tryz.prog renIHeld (infoOf 68) (Value.agg #[.int .i64 0, .int .i64 0, .int .i64 0]) 3 24 where
 mixed := by kernel_rfl
 f22 := ⟨Tryz.f130.name, by kernel_rfl, by kernel_rfl⟩
 fo := run_callFunc_extern Tryz.func150 (by kernel_rfl) (by kernel_rfl) (by kernel_rfl) (by kernel_rfl)
 t0 := Tryz.underlying0
 a0 := Tryz.isAgg0
 z0 := Tryz.sizeOf0
 v0 := Tryz.zeroValue0
 t3 := Tryz.underlying3
 a3 := Tryz.isAgg3
 z3 := Tryz.sizeOf3
 v3 := Tryz.zeroValue3
 t4 := Tryz.underlying4
 a4 := Tryz.isAgg4
 z4 := Tryz.sizeOf4
 v4 := Tryz.zeroValue4
 z9 := Tryz.sizeOf68
 t24 := Tryz.underlying30
 a24 := Tryz.isAgg30
 z24 := Tryz.sizeOf30
 v24 := Tryz.zeroValue30
 hi := by kernel_rfl
 hz0 := by kernel_rfl
 hz1 := by kernel_rfl
 hz2 := by kernel_rfl
 hzs := by kernel_rfl
 hsz := by decide
noncomputable def fInsHeld (zs : List HeldT.T) (i : Int) (vs : List HeldT.T) : Option (List HeldT.T) := fIns 24 zs i vs
noncomputable def uIHeld : UCon := ⟨68, HeldT, [.int .i64, .row HeldT], false, fun zs x => fInsHeld zs x.1 x.2.1⟩
theorem okIHeld : uIHeld.OK Tryz.prog 130 := insert_ok (ρ := renIHeld) (e := HeldT) layIHeld (by decide)
abbrev TimerT : Ty := .pair (.int .i64) (.int .i64)
noncomputable def renCTimer : Ren := ⟨fun n => cond (Nat.beq n 41) 133 n, fun n => cond (Nat.beq n 22) 109 (cond (Nat.beq n 23) 119 n), fun n => n⟩
theorem layCTimer : SlLaysE0.n41 Tryz.prog renCTimer where
 mixed := by kernel_rfl
 f41 := ⟨Tryz.f133.name, by kernel_rfl, by kernel_rfl⟩
 t4 := Tryz.underlying4
 a4 := Tryz.isAgg4
 z4 := Tryz.sizeOf4
 v4 := Tryz.zeroValue4
 t22 := Tryz.underlying109
 a22 := Tryz.isAgg109
 z22 := Tryz.sizeOf109
 v22 := Tryz.zeroValue109
noncomputable def fCloneTimer (xs : List TimerT.T) : Option (List TimerT.T × Unit) := fClone 16 xs
noncomputable def conCTimer : Con := ⟨[.row TimerT], [.own 119 TimerT], fun x => fCloneTimer x.1⟩
theorem okCTimer : conCTimer.OK Tryz.prog 133 := clone_ok (ρ := renCTimer) (i0 := infoOf 119) (z := (Value.agg #[.int .i64 0, .int .i64 0])) (bytes := 16) (e := TimerT) layCTimer (by kernel_rfl) (by kernel_rfl) (by kernel_rfl) (by kernel_rfl) (by kernel_rfl) (by decide) (by decide) Tryz.sizeOf119
noncomputable def uSort : UCon := ⟨3, .int .i64, [], true, fun zs _ => fSort zs⟩
theorem okSort : uSort.OK Tryz.prog 116 := sort_ok Tryz.lays189 (fun w => Tryz.slices_Sort_int_none none 0 w) 3
noncomputable def uCompact : UCon := ⟨3, .int .i64, [], false, fun zs _ => fCompact zs⟩
theorem okCompact : uCompact.OK Tryz.prog 117 := compact_ok Tryz.laysNm220 3
noncomputable def conTz : Con := ⟨[.int .u64], [.val (.int .i64)], fun x => fTz x.1⟩
theorem nat_of_u64 (n : Int) (h0 : 0 ≤ n) (h1 : n < 18446744073709551616) : n.toNat < 18446744073709551616 ∧ ((n.toNat : Nat) : Int) = n := ⟨by omega, by omega⟩
theorem okTz : conTz.OK Tryz.prog 145 := by
 intro x y hf S w vs hst hpre ha
 obtain ⟨n, u⟩ := x
 obtain ⟨v, r, rfl, h1, h2⟩ := ha
 simp only [RdArgs] at h2
 subst h2
 simp only [RdV, Ty.isAgg, Rd] at h1
 simp only [Bool.false_eq_true, if_false, List.cons.injEq, and_true] at h1
 subst h1
 obtain ⟨hc, rfl⟩ := cond_some (show cond (decide (0 ≤ n) && decide (n < 18446744073709551616)) (some (tzI n, ())) none = some y from hf)
 simp only [Bool.and_eq_true, decide_eq_true_eq] at hc
 obtain ⟨h2, hn⟩ := nat_of_u64 n hc.1 hc.2
 have := Tryz.bits_TrailingZeros n.toNat h2 w (fun _ => hpre w hst)
 rw [hn] at this
 refine this.mono ?_
 rintro e w' ⟨rfl, rfl⟩
 exact ⟨[.int .i64 (tzI n)], S, [], rfl, Below.refl _ _, fun _ _ h => h, hst, fun b h => .inl h, ⟨_, [], [], [], rfl, rfl, by simp [RdRV, RTy.isAgg, Ty.isAgg, RdR, Rd, tzI], rfl, rfl⟩, by simp, .nil⟩
theorem cmp_eq (x y : Int) : Lib.compareInt x y = if x < y then -1 else if y < x then 1 else 0 := rfl
theorem ord_lt (x y : Int × Int) : Go.Proofs.ltOf Go.Proofs.ordI x y = decide (x.2 < y.2 ∨ (x.2 = y.2 ∧ x.1 < y.1)) := by
 unfold Go.Proofs.ltOf Go.Proofs.ordI Go.Proofs.orI
 rw [cmp_eq, cmp_eq]
 refine decide_eq_decide.2 ?_
 constructor
 ·intro h
  by_cases h1 : x.2 < y.2
  ·exact .inl h1
  ·by_cases h2 : y.2 < x.2
   ·simp [h1, h2] at h
   ·by_cases h3 : x.1 < y.1
    ·exact .inr ⟨by omega, h3⟩
    ·by_cases h4 : y.1 < x.1 <;> simp [h1, h2, h3, h4] at h
 ·rintro (h | ⟨h1, h2⟩)
  ·simp [h]
  ·simp [h1, h2]
theorem ord_swo : Go.Sort.SWO (Go.Proofs.ltOf Go.Proofs.ordI) where
 irrefl x := by rw [ord_lt]; exact decide_eq_false (by omega)
 trans x y z h1 h2 := by
  rw [ord_lt] at *
  simp only [decide_eq_true_eq] at *
  omega
 ntrans x y z h1 h2 := by
  rw [ord_lt] at *
  simp only [decide_eq_false_iff_not] at *
  omega
theorem ord_total (x y : Int × Int) (h1 : Go.Proofs.ltOf Go.Proofs.ordI x y = false) (h2 : Go.Proofs.ltOf Go.Proofs.ordI y x = false) : x = y := by
 rw [ord_lt] at h1 h2
 simp only [decide_eq_false_iff_not] at h1 h2
 obtain ⟨a, b⟩ := x
 obtain ⟨c, d⟩ := y
 simp only [Prod.mk.injEq] at *
 omega
noncomputable def fSortT (zs : List (Int × Int)) : Option (List (Int × Int)) := fSortF Go.Proofs.ordI zs
noncomputable def uSortT : UCon := ⟨119, TimerT, [.fnc 132], true, fun zs _ => fSortT zs⟩
theorem okSortT : uSortT.OK Tryz.prog 137 :=
 sortF_ok (ρ := Tryz.sortT_ren) Tryz.sortT Tryz.isAgg119 Tryz.sizeOf119 132 Go.Proofs.ordI ord_swo ord_total (enters_of Tryz.func132 (by kernel_rfl) rfl) Tryz.order_grown 119
end Go.Proofs.Zz
