/- Pure13_5, Eq13_5, P13_5, Row13, Law13_5. -/
import Derived.Test.YtpopildnbgbhlaaGreatDoorPU
import Derived.Test.YtpopildnbgbhlaaGreatDoorEQ
import Derived.Test.YtpopildnbgbhlaaGreatDoorFD
import Derived.Test.YtpopildnbgbhlaaGreatDoorPC
import Derived.Test.YtpopildnbgbhlaaGreatDoorFG
import Derived.Test.YtpopildnbgbhlaaGreatDoorTie
import Derived.Test.YtpopildnbgbhlaaGreatDoorCards
import Derived.Lay
import Derived.SevenTiedAt
import Derived.Shelf.Vars
import Derived.Lib.LaidTab
namespace Go.Proofs.Zz
open Go Go.Sy
set_option linter.unusedVariables false
set_option maxRecDepth 100000
abbrev X5_9 : Type := (Unit × Unit × Int × Unit) × ((Int × Int × Int × Int × Int × Int × Int × Int × Int × Int × Int × Bool × Int × (List (Int × Int × Int)) × (List (Int × Int × Int × Int × Int)) × (List (Int × Int × Int)) × Unit) × (Int × Int × Int × Unit) × Unit) × (List Int) × Unit
abbrev Y5_9 : Type := (Unit × Unit) × ((Int × Int × Int × Int × Int × Int × Int × Int × Int × Int × Int × Bool × Int × (List (Int × Int × Int)) × (List (Int × Int × Int × Int × Int)) × (List (Int × Int × Int)) × Unit) × Unit) × (List Int) × Unit
abbrev Z5_9 : Type := (Bool × Unit) × (Unit) × (Unit)
noncomputable def t5_9 (v1 v2 v3 v4 v5 v6 v7 v8 v9 v10 v11 v12 : Int) (v13 : Bool) (v14 : Int) (v15 : (List (Int × Int × Int))) (v16 : (List (Int × Int × Int × Int × Int))) (v17 : (List (Int × Int × Int))) (v18 v19 v20 : Int) (v21 : (List Int)) : Option (R3 X5_9 Y5_9 Z5_9) :=
 cond (decide (v1 < (v21.length : Int))) (
  cond ((decide (0 ≤ v1)) && (decide (v1 < (v21.length : Int)))) (
   cond (decide ((Int.toNat v1) < v21.length)) (
    cond (decide ((rd (.int .i64) v21 (Int.toNat v1)) < 0)) (
     some (R3.ret ((false, ()), (), ()))) (
     cond ((decide (0 ≤ v1)) && (decide (v1 < (v21.length : Int)))) (
      cond (decide ((Int.toNat v1) < v21.length)) (
       cond (decide ((v16.length : Int) ≤ (rd (.int .i64) v21 (Int.toNat v1)))) (
        some (R3.ret ((false, ()), (), ()))) (
        cond v13 (
         cond ((decide (0 ≤ v1)) && (decide (v1 < (v21.length : Int)))) (
          cond (decide ((Int.toNat v1) < v21.length)) (
           cond ((decide (0 ≤ (rd (.int .i64) v21 (Int.toNat v1)))) && (decide ((rd (.int .i64) v21 (Int.toNat v1)) < (v16.length : Int)))) (
            cond (!(decide ((rd (.pair (.int .i64) (.pair (.int .i64) (.pair (.int .i64) (.pair (.int .i64) (.int .i64))))) v16 (Int.toNat (rd (.int .i64) v21 (Int.toNat v1)))).2.1 = v18))) (
             some (R3.ret ((false, ()), (), ()))) (
             some (R3.next (((), (), (IntKind.wrap .i64 (v1 + 1)), ()), ((v2, v3, v4, v5, v6, v7, v8, v9, v10, v11, v12, v13, v14, v15, v16, v17, ()), (v18, v19, v20, ()), ()), v21, ())))) (
            none)) (
           none)) (
          none)) (
         some (R3.next (((), (), (IntKind.wrap .i64 (v1 + 1)), ()), ((v2, v3, v4, v5, v6, v7, v8, v9, v10, v11, v12, v13, v14, v15, v16, v17, ()), (v18, v19, v20, ()), ()), v21, ()))))) (
       none)) (
      none))) (
    none)) (
   none)) (
  some (R3.out (((), ()), ((v2, v3, v4, v5, v6, v7, v8, v9, v10, v11, v12, v13, v14, v15, v16, v17, ()), ()), v21, ())))
noncomputable def u5_9 (z : X5_9) : Option (R3 X5_9 Y5_9 Z5_9) := t5_9 z.1.2.2.1 z.2.1.1.1 z.2.1.1.2.1 z.2.1.1.2.2.1 z.2.1.1.2.2.2.1 z.2.1.1.2.2.2.2.1 z.2.1.1.2.2.2.2.2.1 z.2.1.1.2.2.2.2.2.2.1 z.2.1.1.2.2.2.2.2.2.2.1 z.2.1.1.2.2.2.2.2.2.2.2.1 z.2.1.1.2.2.2.2.2.2.2.2.2.1 z.2.1.1.2.2.2.2.2.2.2.2.2.2.1 z.2.1.1.2.2.2.2.2.2.2.2.2.2.2.1 z.2.1.1.2.2.2.2.2.2.2.2.2.2.2.2.1 z.2.1.1.2.2.2.2.2.2.2.2.2.2.2.2.2.1 z.2.1.1.2.2.2.2.2.2.2.2.2.2.2.2.2.2.1 z.2.1.1.2.2.2.2.2.2.2.2.2.2.2.2.2.2.2.1 z.2.1.2.1.1 z.2.1.2.1.2.1 z.2.1.2.1.2.2.1 z.2.2.1
noncomputable def f5 (v1 v2 v3 v4 v5 v6 v7 v8 v9 v10 v11 : Int) (v12 : Bool) (v13 : (List (Int × Int × Int × Int × Int × Int × Int × Int × Bool))) (v14 : Int) : Option (Bool × Unit) :=
 (f11).bind fun y15 =>
 ((f16 v1 v2 v3 v4 v5 v6 v7 v8 v9 v10 v11 v12)).bind fun y16 =>
 cond (!y15.1) (
  some (y15.1, ())) (
  cond (!y16.2.1) (
   some (y15.1, ())) (
   cond (decide (60 < (v13.length : Int))) (
    some (y15.1, ())) (
    ((f17 y16.1.1.1.1 y16.1.1.1.2 y16.1.1.2.1.1 y16.1.1.2.1.2 y16.1.1.2.2.1 y16.1.1.2.2.2.1 y16.1.1.2.2.2.2.1 y16.1.1.2.2.2.2.2 y16.1.2.1.1 y16.1.2.1.2.1 y16.1.2.1.2.2.1 y16.1.2.1.2.2.2 y16.1.2.2.1 y16.1.2.2.2.1 y16.1.2.2.2.2.1 y16.1.2.2.2.2.2 v13)).bind fun y17 =>
    ((f21 y17.1.2.2.2.2.1 v14)).bind fun y18 =>
    ((f19 v1 v2 v3 v4 v5 v6 v7 v8 v14)).bind fun y19 =>
    ((iter big u5_9 (((), (), 0, ()), ((y17.1.1.1.1, y17.1.1.1.2, y17.1.1.2.1.1, y17.1.1.2.1.2, y17.1.1.2.2.1, y17.1.1.2.2.2.1, y17.1.1.2.2.2.2.1, y17.1.1.2.2.2.2.2, y17.1.2.1.1, y17.1.2.1.2.1, y17.1.2.1.2.2.1, y17.1.2.1.2.2.2, y17.1.2.2.1, y17.1.2.2.2.1, y17.1.2.2.2.2.1, y17.1.2.2.2.2.2, ()), (y19.1.1, y19.1.2.1, y19.1.2.2, ()), ()), y18.1, ()))).bind fun r => match r with
    | .inl y20 =>
      cond (decide ((y20.2.2.1.length : Int) ≤ y20.2.1.1.2.2.2.2.2.2.2.2.1)) (
       some ((decide (y20.2.1.1.2.2.2.2.2.2.2.2.1 ≤ 8)), ())) (
       some (false, ()))
    | .inr z21 =>
      some (z21.1.1, ()))))
set_option maxHeartbeats 0
abbrev ps5 : List Ty := [.pair (.pair (.int .i64) (.int .i64)) (.pair (.pair (.int .i64) (.int .i64)) (.pair (.int .i64) (.pair (.int .i64) (.pair (.int .i64) (.int .i64))))), .pair (.int .i64) (.pair (.int .i64) (.pair (.int .i64) (.bool))), .row (.pair (.int .i64) (.pair (.int .i64) (.pair (.int .i64) (.pair (.int .i64) (.pair (.int .i64) (.pair (.int .i64) (.pair (.int .i64) (.pair (.int .i64) (.bool))))))))), .int .i64]
abbrev rs5 : List RTy := [.val (.bool)]
noncomputable abbrev L5 : List (Nat × Con) := [(11, con11), (16, con16), (17, con17), (19, con19), (21, con21)]
noncomputable abbrev U5 : List (Nat × UCon) := []
noncomputable abbrev C5 : Cons := lookC L5 U5
abbrev s5_9 : LShape := ⟨103, [(10, .fix (.ptr 4294975584 0)), (13, .fix (.ptr 4294996064 0)), (15, .int .i64)], [], [(4294975584, .box 32 [.int .i64, .int .i64, .int .i64, .int .i64, .int .i64, .int .i64, .int .i64, .int .i64, .int .i64, .int .i64, .int .i64, .bool, .int .i64, .cont (.pair (.int .i64) (.pair (.int .i64) (.int .i64))), .cont (.pair (.int .i64) (.pair (.int .i64) (.pair (.int .i64) (.pair (.int .i64) (.int .i64))))), .cont (.pair (.int .i64) (.pair (.int .i64) (.int .i64)))]), (4294996064, .box 51 [.int .i64, .int .i64, .int .i64])], [⟨.t 12, 8294967872, 3, (.int .i64)⟩]⟩
abbrev o5_9 : LShape := ⟨103, [(10, .fix (.ptr 4294975584 0))], [], [(4294975584, .box 32 [.int .i64, .int .i64, .int .i64, .int .i64, .int .i64, .int .i64, .int .i64, .int .i64, .int .i64, .int .i64, .int .i64, .bool, .int .i64, .cont (.pair (.int .i64) (.pair (.int .i64) (.int .i64))), .cont (.pair (.int .i64) (.pair (.int .i64) (.pair (.int .i64) (.pair (.int .i64) (.int .i64))))), .cont (.pair (.int .i64) (.pair (.int .i64) (.int .i64)))])], [⟨.t 12, 8294967904, 3, (.int .i64)⟩]⟩
abbrev q5_9 : LShape := ⟨103, [(8, .bool)], [], [], []⟩
noncomputable def l5_9 : LSum := ⟨9, 5, s5_9, 0, o5_9, q5_9, u5_9, false, none, none, []⟩
noncomputable abbrev S5 : List (Nat × Nat × LSum) := [(4294967296, 9, l5_9)]
noncomputable def con5 : Con := ⟨ps5, rs5, fun x => f5 x.1.1.1 x.1.1.2 x.1.2.1.1 x.1.2.1.2 x.1.2.2.1 x.1.2.2.2.1 x.1.2.2.2.2.1 x.1.2.2.2.2.2 x.2.1.1 x.2.1.2.1 x.2.1.2.2.1 x.2.1.2.2.2 x.2.2.1 x.2.2.2.1⟩
theorem r5_9 : Round Tryz.prog C5 (lookS S5) big 4294967296 9 l5_9 := ⟨by kernel_rfl, fun z => by kernel_rfl⟩
theorem e5 (x : Args ps5) : kTop Tryz.prog C5 (lookS S5) big 10 5 ps5 rs5 x = con5.f x := by kernel_rfl
theorem ok5 [Glob] [RngG Tryz.prog] (h : AllOK Tryz.prog L5) (h' : AllU Tryz.prog U5) : con5.OK Tryz.prog 5 := con_of_tree (lookC_ok h h') (rounds_of (l := S5) ⟨r5_9, trivial⟩) e5
theorem k5 : con5.OK Tryz.prog 5 := ok5 ⟨k11, k16, k17, k19, k21, trivial⟩ trivial
set_option linter.unusedSimpArgs false
theorem ofL_mem {L : List LT} {sub : Int} {n : Nat} {k : Int} (hn : n ≤ L.length) (h : k ∈ ofL L sub n) : ∃ (j : Nat), ∃ (hj : j < L.length), k = (j : Int) ∧ L[j].1 = sub := by
 unfold ofL at h
 obtain ⟨j, hj, rfl⟩ := List.mem_map.1 h
 obtain ⟨h1, h2⟩ := List.mem_filter.1 hj
 have h1 := List.mem_range.1 h1
 refine ⟨j, by omega, rfl, ?_⟩
 have h2 := of_decide_eq_true h2
 rw [List.getD_eq_getElem?_getD, List.getElem?_eq_getElem (by omega), Option.getD_some] at h2
 exact h2
abbrev st5 (s : ST) (b : Int × Int × Int × Unit) (of : List Int) (j : Int) : X5_9 :=
 (((), (), j, ()), ((s.1.1.1, s.1.1.2, s.1.2.1.1, s.1.2.1.2, s.1.2.2.1, s.1.2.2.2.1, s.1.2.2.2.2.1, s.1.2.2.2.2.2, s.2.1.1, s.2.1.2.1, s.2.1.2.2.1, s.2.1.2.2.2, s.2.2.1, s.2.2.2.1, s.2.2.2.2.1, s.2.2.2.2.2, ()), b, ()), of, ())
theorem it5 (s : ST) (M : MayS s) (sub : Int) (b : Int × Int × Int × Unit) (hb : SubP s.1 sub → b.1 = sub / rat s.1) :
  iter big u5_9 (st5 s b (ofL s.2.2.2.2.1 sub s.2.2.2.2.1.length) 0) =
   some (.inl (((), ()), ((st5 s b (ofL s.2.2.2.2.1 sub s.2.2.2.2.1.length) 0).2.1.1, ()), ofL s.2.2.2.2.1 sub s.2.2.2.2.1.length, ())) := by
 have hall := fun k (h : k ∈ ofL s.2.2.2.2.1 sub s.2.2.2.2.1.length) => ofL_mem (Nat.le_refl _) h
 have hlen := ofL_len s.2.2.2.2.1 sub s.2.2.2.2.1.length (Nat.le_refl _)
 have hc := cnt_le (s.2.2.2.2.1.take s.2.2.2.2.1.length) sub
 rw [List.length_take] at hc
 have hs := M.sm.l
 have hM := M.leases.each
 generalize ofL s.2.2.2.2.1 sub s.2.2.2.2.1.length = of at *
 refine it_all (u := u5_9) (fun j => st5 s b of ((j : Nat) : Int)) (n := of.length)
  (y := (((), ()), ((st5 s b of 0).2.1.1, ()), of, ())) (fun j hj => ?_) ?_ 0 big (Nat.zero_le _) (by unfold big; omega)
 ·obtain ⟨i, hi, e1, e2⟩ := hall _ (List.getElem_mem hj)
  simp only [u5_9, t5_9, ltn hj, ge0, cond_true, Bool.and_self, Int.toNat_natCast, rdI hj, nx hj (show of.length ≤ 9223372036854775807 by omega), decide_eq_true hj, e1,
   decide_eq_false (show ¬ ((i : Int) < 0) by omega), cond_false, decide_eq_false (show ¬ (((s.2.2.2.2.1.length : Nat) : Int) ≤ (i : Int)) by omega), ltn hi, rdL hi]
  have hx := hM _ (List.getElem_mem hi)
  by_cases hp : s.2.1.2.2.2 = true
  ·have h1 := hx.pair hp
   have h2 := hx.sub
   rw [e2] at h1 h2
   have hc : ∀ {α : Type} (a b : α), cond s.2.1.2.2.2 a b = a := fun a b => by rw [hp]; rfl
   rw [hc, decide_eq_true (show s.2.2.2.2.1[i].2.1 = b.1 by rw [hb h2, h1])]; rfl
  ·have hp' : s.2.1.2.2.2 = false := by simpa using hp
   have hc : ∀ {α : Type} (a b : α), cond s.2.1.2.2.2 a b = b := fun a b => by rw [hp']; rfl
   rw [hc]
 ·simp only [u5_9, t5_9, nlt, cond_false]
theorem f5_true (D : DT) (p : PT) (l : List RT) (sub : Int) :
  f5 D.1.1 D.1.2 D.2.1.1 D.2.1.2 D.2.2.1 D.2.2.2.1 D.2.2.2.2.1 D.2.2.2.2.2 p.1 p.2.1 p.2.2.1 p.2.2.2 l sub = some (true, ()) := by
 unfold f5
 rw [f11_eq, f16_eq]
 by_cases M : MayS (newS D p)
 case neg => rw [decide_eq_false M]; rfl
 rw [if_pos M, decide_eq_true M]
 simp only [Option.bind_some, Bool.not_true, cond_false]
 by_cases hl : 60 < ((l.length : Nat) : Int)
 ·rw [decide_eq_true hl]; rfl
 rw [decide_eq_false hl]
 have e17 := f17_eq (newS D p) M l (by omega)
 obtain ⟨M2, hD⟩ := run_may M l
 simp only at e17
 rw [e17]
 generalize (runS (newS D p) l).1 = t at *
 have e21 := f21_eq t.2.2.2.2.1 M2.sm.l sub
 have e19 := f19_eq (D := D) sub
 have e5 := it5 t M2 sub ((if SubP D sub then baseI D sub else (0, 0, 0)).1, (if SubP D sub then baseI D sub else (0, 0, 0)).2.1, (if SubP D sub then baseI D sub else (0, 0, 0)).2.2, ())
  (fun h => by rw [hD] at h ⊢; rw [if_pos h]; rfl)
 simp only [Option.bind_some, cond_false, e21, e19]
 rw [e5]
 have hlen := ofL_len t.2.2.2.2.1 sub t.2.2.2.2.1.length (Nat.le_refl _)
 rw [List.take_length] at hlen
 have hq : ((cnt t.2.2.2.2.1 sub : Nat) : Int) ≤ t.2.1.1 := by
  by_cases h0 : cnt t.2.2.2.2.1 sub = 0
  ·have := M2.pol.1.1; omega
  ·have : 0 < cnt t.2.2.2.2.1 sub := by omega
   unfold cnt at this
   obtain ⟨x, hx, he⟩ := List.countP_pos_iff.1 this
   have h1 := M2.leases.quota x hx
   rw [of_decide_eq_true he] at h1
   exact h1
 simp only [Option.bind_some, hlen, decide_eq_true hq, cond_true, decide_eq_true M2.pol.1.2]
end Go.Proofs.Zz
namespace Go.Proofs.YtpopildnbgbhlaaGreatDoor
open Go Go.Sy Go.RowKit Go.Proofs.Zz
set_option linter.unusedVariables false
set_option maxRecDepth 100000
theorem own : ownKnob Tryz.prog.godebug = none := by kernel_rfl
theorem laidOut : laidOutB Tryz.prog = true := by kernel_rfl
abbrev tabs : List (String × DataW Unit) := [("math/bits.deBruijn32tab", Rows.laid_math_bits_deBruijn32tab), ("math/bits.deBruijn64tab", Rows.laid_math_bits_deBruijn64tab)]
abbrev tab64 : List Int := Lib.deBruijn64tab.map fun (n : Nat) => (n : Int)
theorem tab64_eq : (Rows.laid_math_bits_deBruijn64tab : DataW Unit) = Lib.tabData .u8 tab64 := by kernel_rfl
theorem laidMet_next {P : Program} {x : String × DataW Unit} {r : List (String × DataW Unit)} {w : World} (h : laidMet P (x :: r) w) : laidMet P r w := by
 obtain ⟨ps, ⟨g, t, cs, fuel, p, q, _, _, _, _, h1, rfl⟩, hn, hp⟩ := h
 refine ⟨q, h1, ?_, fun b off hm => hp b off (List.mem_append.2 (.inr hm))⟩
 exact (List.nodup_append.1 hn).2.1
theorem tab64_of {W : World} (h : laidMet Tryz.prog tabs W) : Lib.TabIs Tryz.prog W "math/bits.deBruijn64tab" .u8 tab64 := by
 have h1 := laidMet_next h
 rw [tab64_eq] at h1
 exact Lib.tabIs_of_head (g := 1) (t := 233) (e := 5) (n := 64) (by kernel_rfl) (by kernel_rfl) (by kernel_rfl) (by kernel_rfl) (by kernel_rfl) (by kernel_rfl) h1
theorem tab_get : ∀ j : Fin 64, (tab64.map fun z => Value.int .u8 z)[j.val]? = some (Value.int .u8 ((Lib.deBruijn64tab.getD j.val 0 : Nat) : Int)) := by
 intro j
 simp only [tab64, List.getElem?_map]
 have h : Lib.deBruijn64tab[j.val]? = some (Lib.deBruijn64tab.getD j.val 0) := by
  have hl : Lib.deBruijn64tab.length = 64 := by decide
  have hj := j.isLt
  rw [List.getD_eq_getElem?_getD, List.getElem?_eq_getElem (by omega)]
  rfl
 rw [h]
 rfl
theorem glob_of {W : World} (h : laidMetH Tryz.prog tabs W) : Glob.pre (allS W) := by
 rw [MakeChecks.laidMetH_plain _ _ _ (by kernel_rfl)] at h
 intro w hw j hj
 have ht := tab64_of h
 unfold Lib.TabIs World.var? at ht
 have hg : Tryz.prog.globalNamed "math/bits.deBruijn64tab" = some 1 := by kernel_rfl
 rw [hg] at ht
 simp only [Option.bind_some] at ht
 have hl : Lib.deBruijn64tab.length = 64 := by decide
 have hget := tab_get ⟨j, by omega⟩
 cases hb : W.heap[1]? with
 | none => rw [hb] at ht; simp at ht
 | some o =>
  have hb' := hw 1 o hb
  rw [hb] at ht
  unfold World.cell?
  simp only
  rw [hb']
  cases o with
  | cells cs t x =>
   simp only at ht ⊢
   cases ht
   have e : ((tab64.map fun z => Value.int .u8 z).toArray)[j]? = (tab64.map fun z => Value.int .u8 z)[j]? := by simp
   rw [hget] at e
   simpa using e
  | _ => simp at ht
theorem shaped_tabs {os : Os} {args : Array Value} : ((World.laidAll Tryz.prog os tabs).forCall (fun _ _ => 0) ⟨#[], args, []⟩).Shaped Tryz.prog :=
 World.shaped_of_ZipB (by kernel_rfl) (by kernel_rfl)
theorem met_tabs (os : Os) (args : Array Value) : laidMetH Tryz.prog tabs ((World.laidAll Tryz.prog os tabs).forCall (fun _ _ => 0) ⟨#[], args, []⟩).memory := by
 rw [MakeChecks.laidMetH_plain _ _ _ (by kernel_rfl)]; exact laidMet_laidAll _ (by kernel_rfl) (by kernel_rfl)
end Go.Proofs.YtpopildnbgbhlaaGreatDoor
namespace Go.Proofs.YtpopildnbgbhlaaGreatDoor.allocQuota
open Go Go.Sy Go.RowKit Go.Proofs.Zz Go.ChangeShapes
set_option linter.unusedVariables false
set_option maxRecDepth 100000
theorem lifted (os : Os) (started : os.Started) (H : Type) (enc : TypeId × Value → H) :
  ReturnsInHanded {} Tryz.checked os 5 .any (fun w args => (Rows.allocQuotaSpec.pre enc Tryz.prog Tryz.f5 [] false w args ∧ laidMetH Tryz.prog tabs w) ∧ sizedMet enc Tryz.prog Tryz.f5 (OpenSpec.ofChange Rows.allocQuotaSpec) false w args)
   (Rows.allocQuotaSpec.post enc Tryz.prog Tryz.f5 false true false false) :=
 law_lifted (C := Tryz.checked) (X := fun w _ => laidMetH Tryz.prog tabs w) (Ts := ps5) (F := con5.f) (ts := [25, 27, 45, 3]) (tb := 4) (fun _ _ _ hh h => h.of_heap hh) own started (by kernel_rfl) Tryz.func5
  (ChangeSpec.witness_shaped (enc := enc) (C := Tryz.checked) (os := os) (X := fun w _ => laidMetH Tryz.prog tabs w) false (World.laidAll Tryz.prog os tabs) #[.agg #[.int .i64 0, .int .i64 0, .int .i64 0, .int .i64 0, .int .i64 0, .int .i64 0, .int .i64 0, .int .i64 0], .agg #[.int .i64 0, .int .i64 0, .int .i64 0, .bool false], .slice none 0 0, .int .i64 0] 8 (World.laidAll_os _ _ _)
   shaped_tabs (by kernel_rfl) (by kernel_rfl) (by kernel_rfl) (met_tabs os _))
  (fun W _ hs h => glob_of h) laidOut k5 Tryz.params5 (by kernel_rfl) Tryz.underlying4
  (fun t ht => by
   have h : ([25, 27, 45, 3].all fun t => Tryz.prog.readableRec t && decide (t < Tryz.prog.types.size)) = true := by kernel_rfl
   have := List.all_eq_true.1 h t ht
   rw [Bool.and_eq_true, decide_eq_true_eq] at this
   exact this)
  ⟨by kernel_rfl, by kernel_rfl, by kernel_rfl, by kernel_rfl, trivial⟩ rfl (fun ds hds => by
   match ds, hds with
   | [d1, d2, d3, d4], _ => rfl)
  (fun x hx => f5_true x.1 x.2.1 x.2.2.1 x.2.2.2.1)
theorem holds : Rows.AllocQuotaSaid :=
 OpenClaim.holds_of_wide 5 Tryz.f5 rfl rfl rfl rfl rfl rfl rfl ⟨rfl, rfl, rfl, rfl, rfl⟩ rfl rfl rfl rfl rfl (by kernel_rfl) Tryz.func5 (by kernel_rfl)
  (of_decide_eq_true (by kernel_rfl)) (by unfold Func.isWrapper; first | (rw [if_pos (by decide +kernel)]; kernel_rfl) | (rw [if_neg (by decide +kernel)]; exact ⟨rfl, rfl⟩))
  (fun os started H enc _ => lifted os started H enc)
theorem card_holds : Rows.AllocQuotaCardSaid :=
 Claim7.holds_tied_plain_at .later [] [.data, .data] true _ true holds (fun _ h => by cases h) (by kernel_rfl) (fun _ h => by cases h) allocQuota_row_tie rfl ⟨rfl, rfl⟩ (by kernel_rfl) rfl
  (fun f fn hf hfn => by
   obtain rfl : f = 5 := Option.some.inj ((show Tryz.prog.funcNamed "moorings/mooringslaw13.AllocQuota" = some 5 by kernel_rfl).symm.trans hf) |>.symm
   obtain rfl : fn = Tryz.f5 := (Option.some.inj (Tryz.func5.symm.trans hfn)).symm
   exact ⟨by kernel_rfl, fun j t ht => by
    rw [Tryz.params5] at ht
    have hm : t ∈ [25, 27, 45, 3] := by simpa using Array.mem_of_getElem? ht
    have hall : ([25, 27, 45, 3].all fun u => !Tryz.prog.wantsStandIn u) = true := by kernel_rfl
    exact (show Tryz.prog.wantsStandIn t = false by simpa using List.all_eq_true.1 hall t hm)⟩)
  (by kernel_rfl)
end Go.Proofs.YtpopildnbgbhlaaGreatDoor.allocQuota
namespace Go.Proofs.YtpopildnbgbhlaaGreatDoor
theorem allocQuota_holds : Rows.AllocQuotaCardSaid := allocQuota.card_holds
end Go.Proofs.YtpopildnbgbhlaaGreatDoor
