/- Contracts of the library's functions that chapter 21 calls, told of data. -/
import Derived.Test.YtojkjedljhjleaaGreatDoorShelf
import Derived.Test.YtojkjedljhjleaaGreatDoorLibF
import Derived.Lib.SplitLaws
namespace Go.Proofs.Zz
open Go Go.Sy Go.RowKit Go.Proofs
set_option linter.unusedVariables false

def preG (S : Stable) : Prop := ∀ w : World, (∀ b o, S b = some o → w.heap[b]? = some o) →
  Lib.TabIs Tryz.prog w "internal/strconv.uint64pow10" .u64 Lib.pow10Tab ∧ ∃ m, w.cell? ⟨0, 0, none⟩ = some (.int .i64 m)

noncomputable instance glob : Glob := ⟨preG, rangeIn Tryz.prog, fun S S' h hp w hw => hp w fun b o hb => hw b o (h b o hb)⟩
instance rngG : RngG Tryz.prog := ⟨fun _ _ => rfl⟩

def conItoa : Con := ⟨[.int .i64], [.val .str], fun x => fItoa x.1⟩

theorem below_grow (w : World) (k : Nat) (os : Array Obj) : Below w.heap.size w (Go.Sort.grow (w.drewN k) os) := by
  refine ⟨rfl, rfl, rfl, by simp [Go.Sort.grow], fun q hq => ?_⟩
  simp only [Go.Sort.grow, World.heap_drewN]
  rw [Array.getElem?_append_left hq]

/-- results that are plain data, over a memory that grew -/
theorem plain_done {S : Stable} {w w' : World} {c : Con} {y : Res c.rs} {vs : List Value} (hst : ∀ b o, S b = some o → w.heap[b]? = some o) (hb : Below w.heap.size w w') (hr : RdRs S c.rs y vs []) :
    ∃ us S' os, Ending.returned (resVal vs) = .returned (resVal us) ∧ Below w.heap.size w w' ∧ (∀ b o, S b = some o → S' b = some o) ∧
      (∀ b o, S' b = some o → w'.heap[b]? = some o) ∧ (∀ b, S' b ≠ none → S b ≠ none ∨ w.heap.size ≤ b) ∧ RdRs S' c.rs y us os ∧
      (∀ o ∈ os, OwnOK S' w' w.heap.size o) ∧ os.Pairwise ApartR := by
  refine ⟨vs, S, [], rfl, hb, fun _ _ h => h, fun b o h => ?_, fun b h => .inl h, hr, by simp, .nil⟩
  have h1 := hst b o h
  rw [hb.block b (Array.getElem?_eq_some_iff.1 h1).1]; exact h1

theorem okItoa : conItoa.OK Tryz.prog 41 := by
  intro x y hf S w vs hst hpre ha
  obtain ⟨n, u⟩ := x
  obtain ⟨v, r, rfl, h1, h2⟩ := ha
  simp only [RdArgs] at h2
  subst h2
  simp only [RdV, Ty.isAgg, Rd] at h1
  simp only [Bool.false_eq_true, if_false, List.cons.injEq, and_true] at h1
  subst h1
  obtain ⟨hc, rfl⟩ := cond_some (show cond (decide (-9223372036854775808 ≤ n) && decide (n ≤ 9223372036854775807)) (some (itoaB n, ())) none = some y from hf)
  simp only [Bool.and_eq_true, decide_eq_true_eq] at hc
  refine (Tryz.strconv_Itoa n hc.1 hc.2 w (hpre w hst).1).mono ?_
  rintro e w' ⟨rfl, k, os, rfl⟩
  exact plain_done (c := conItoa) (y := (itoaB n, ())) (vs := [.string (itoaB n)]) hst (below_grow w k os) ⟨_, [], [], [], rfl, rfl, by simp [RdRV, RTy.isAgg, Ty.isAgg, RdR, Rd], rfl, rfl⟩

def conCut : Con := ⟨[.str, .str], [.val .str, .val .str, .val .bool], fun x => fCut x.1 x.2.1⟩

theorem below_drewN (w : World) (k : Nat) : Below w.heap.size w (w.drewN k) := ⟨rfl, rfl, rfl, Nat.le_refl _, fun _ _ => rfl⟩

theorem okCut : conCut.OK Tryz.prog 46 := by
  intro x y hf S w vs hst hpre ha
  obtain ⟨s, p, u⟩ := x
  obtain ⟨v, r, rfl, h1, v2, r2, rfl, h2, h3⟩ := ha
  simp only [RdArgs] at h3
  subst h3
  simp only [RdV, Ty.isAgg, Rd, Bool.false_eq_true, if_false, List.cons.injEq, and_true] at h1 h2
  subst h1 h2
  obtain ⟨hc, rfl⟩ := cond_some (show cond (ltN s.size 4294967281) (some ((cutB s p).1, (cutB s p).2.1, (cutB s p).2.2, ())) none = some y from hf)
  obtain ⟨m, hm⟩ := (hpre w hst).2
  refine (Tryz.strings_Cut s p m w (of_ltN hc) hm).mono ?_
  rintro e w' ⟨rfl, n, rfl⟩
  exact plain_done (c := conCut) (y := ((cutB s p).1, (cutB s p).2.1, (cutB s p).2.2, ())) (vs := [.string (cutB s p).1, .string (cutB s p).2.1, .bool (cutB s p).2.2]) hst (below_drewN w n)
    ⟨_, _, [], [], rfl, rfl, by simp [RdRV, RTy.isAgg, Ty.isAgg, RdR, Rd], _, _, [], [], rfl, rfl, by simp [RdRV, RTy.isAgg, Ty.isAgg, RdR, Rd], _, _, [], [], rfl, rfl, by simp [RdRV, RTy.isAgg, Ty.isAgg, RdR, Rd], rfl, rfl⟩

def conSplit : Con := ⟨[.str, .str], [.own 9 .str], fun x => fSplit x.1 x.2.1⟩

theorem RdL_strs {S : Stable} : ∀ (l : List ByteArray), RdL S .str l (l.map Value.string)
  | [] => rfl
  | x :: l => ⟨[.string x], _, rfl, rfl, RdL_strs l⟩

theorem RdL_len {S : Stable} {e : Ty} {xs : List e.T} {cs : List Value} (h : RdL S e xs cs) : cs.length = xs.length * e.size := by
  letI := glob
  exact RdL_length h

/-- a result that is a row just laid -/
theorem row_done {S : Stable} {w w' : World} {te : TypeId} {e : Ty} {xs : List e.T} {n : Nat} {cs : List Value} (hst : ∀ b o, S b = some o → w.heap[b]? = some o) (hn : xs.length = n) (hm : n ≤ maxLen)
    (hw : w' = w.alloc (.cells cs.toArray te)) (hR : RdL S e xs cs) :
    ∃ us S' os, Ending.returned (.slice (some ⟨w.heap.size, 0, none⟩) n n) = .returned (resVal us) ∧ Below w.heap.size w w' ∧ (∀ b o, S b = some o → S' b = some o) ∧
      (∀ b o, S' b = some o → w'.heap[b]? = some o) ∧ (∀ b, S' b ≠ none → S b ≠ none ∨ w.heap.size ≤ b) ∧ RdRs S' [.own te e] (xs, ()) us os ∧
      (∀ o ∈ os, OwnOK S' w' w.heap.size o) ∧ os.Pairwise ApartR := by
  subst hw hn
  have hlen := RdL_len hR
  have hb : Below w.heap.size w (w.alloc (.cells cs.toArray te)) := (Below.refl _ _).alloc (Nat.le_refl _) _
  refine ⟨[.slice (some ⟨w.heap.size, 0, none⟩) xs.length xs.length], S, [⟨⟨some w.heap.size, xs.length⟩, te, e, xs⟩], rfl, hb, fun _ _ h => h, fun b o h => ?_, fun b h => .inl h, ?_, ?_, by simp⟩
  · have h1 := hst b o h
    rw [hb.block b (Array.getElem?_eq_some_iff.1 h1).1]; exact h1
  · exact ⟨_, [], _, [], rfl, rfl, by simp only [RdRV, RTy.isAgg, Bool.false_eq_true, if_false, RdR]; exact ⟨⟨some w.heap.size, xs.length⟩, rfl, rfl⟩, rfl, rfl⟩
  · intro o ho
    simp only [List.mem_singleton] at ho
    subst ho
    refine ⟨⟨Nat.le_refl _, hm⟩, .inr ⟨w.heap.size, cs.toArray, rfl, Nat.le_refl _, ?_, heap_alloc_new w _, by simpa using hlen, fun j x hj => ?_⟩⟩
    · cases h : S w.heap.size with
      | none => rfl
      | some o => have := (Array.getElem?_eq_some_iff.1 (hst _ _ h)).1; omega
    · letI := glob
      obtain ⟨c, k1, k2⟩ := RdL_get hR j x hj
      exact ⟨c, k1, fun m v hv => by simpa using k2 m v hv⟩

theorem okSplit : conSplit.OK Tryz.prog 44 := by
  intro x y hf S w vs hst hpre ha
  obtain ⟨s, p, u⟩ := x
  obtain ⟨v, r, rfl, h1, v2, r2, rfl, h2, h3⟩ := ha
  simp only [RdArgs] at h3
  subst h3
  simp only [RdV, Ty.isAgg, Rd, Bool.false_eq_true, if_false, List.cons.injEq, and_true] at h1 h2
  subst h1 h2
  obtain ⟨hc, rfl⟩ := cond_some (show cond (ltN s.size 4294967281 && Nat.ble 1 p.size) (some (splitL s p, ())) none = some y from hf)
  simp only [Bool.and_eq_true] at hc
  have c1 := of_ltN hc.1
  have c2 := Nat.le_of_ble_eq_true hc.2
  obtain ⟨m, hm⟩ := (hpre w hst).2
  refine (Tryz.strings_Split s p m w c1 hm c2).mono ?_
  rintro e w' ⟨rfl, hw⟩
  have hl : (splitL s p).length = Lib.countB s p + 1 := Lib.splitB_all p c2 0 _ s rfl
  refine row_done (te := 9) (e := .str) (xs := splitL s p) (cs := (splitL s p).map Value.string) hst hl ?_ hw (RdL_strs _)
  have := Lib.countB_le p c2 s.size s (Nat.le_refl _)
  rw [show maxLen = 9223372036854775807 from rfl]; omega

def conJoin : Con := ⟨[.row .str, .str], [.val .str], fun x => fJoin x.1 x.2.1⟩

theorem okJoin : conJoin.OK Tryz.prog 42 := by
  intro x y hf S w vs hst hpre ha
  obtain ⟨xs, p, u⟩ := x
  obtain ⟨v, r, rfl, h1, v2, r2, rfl, h2, h3⟩ := ha
  simp only [RdArgs] at h3
  subst h3
  simp only [RdV, Ty.isAgg, Rd, Bool.false_eq_true, if_false, List.cons.injEq, and_true] at h1 h2
  subst h2
  obtain ⟨a, cap, rfl, ⟨hcap, hnil⟩, hel⟩ := h1
  obtain ⟨hc, rfl⟩ := cond_some (show cond (Nat.ble xs.length 140737488355328 && Nat.ble (joinB xs p).size 140737488355328) (some (joinB xs p, ())) none = some y from hf)
  simp only [Bool.and_eq_true] at hc
  have c1 := Nat.le_of_ble_eq_true hc.1
  have c2 := Nat.le_of_ble_eq_true hc.2
  have fin : ∀ w', Below w.heap.size w w' → _ := fun w' hb => plain_done (c := conJoin) (y := (joinB xs p, ())) (vs := [.string (joinB xs p)]) hst hb ⟨_, [], [], [], rfl, rfl, by simp [RdRV, RTy.isAgg, Ty.isAgg, RdR, Rd], rfl, rfl⟩
  cases xs with
  | nil =>
    refine (Tryz.strings_Join_none a cap p w).mono ?_
    rintro e w' ⟨rfl, rfl⟩
    exact fin w' (Below.refl _ _)
  | cons x0 l =>
    obtain ⟨ad, c0, rfl, q1, q2⟩ := hel 0 x0 rfl
    have hcell : ∀ (ad : Addr) v, cellS S ad = some v → ad.spot = none ∧ ad.block < w.heap.size ∧ w.cell? ad = some v := by
      intro ad v h
      unfold cellS at h
      cases hS : S ad.block with
      | none => rw [hS] at h; simp at h
      | some o =>
        rw [hS] at h
        have hb := hst _ _ hS
        cases o with
        | cells c t f =>
          simp only at h
          split at h
          · simp at h
          · rename_i hsp
            refine ⟨by simpa using hsp, (Array.getElem?_eq_some_iff.1 hb).1, ?_⟩
            simp only [World.cell?, hb]
            simp [hsp, h]
        | _ => simp at h
    have k0 := hcell _ _ (q2 0 (.string x0) (by rw [q1]; rfl))
    obtain ⟨bk, o, sp⟩ := ad
    have hsp : sp = none := by
      have := k0.1
      unfold Addr.add at this
      simpa using this
    subst hsp
    have hbk : bk < w.heap.size := by
      have := k0.2.1
      rw [plain_add] at this
      exact this
    refine (Tryz.strings_Join bk o cap (x0 :: l) p w (fun j x hj => ?_) hbk c1 hcap (by have e : (joinB (x0 :: l) p).size = (Lib.join ((x0 :: l).map (·.data.toList)) p.data.toList).length := by simp [joinB, ByteArray.size]
                                                                                        rw [← e]; exact c2)).mono ?_
    · obtain ⟨ad, c, e1, r1, r2⟩ := hel j x hj
      cases e1
      have := (hcell _ _ (r2 0 (.string x) (by rw [r1]; rfl))).2.2
      rw [plain_add] at this
      simpa [Ty.size] using this
    · rintro e w' ⟨rfl, hb⟩
      exact fin w' hb
end Go.Proofs.Zz
