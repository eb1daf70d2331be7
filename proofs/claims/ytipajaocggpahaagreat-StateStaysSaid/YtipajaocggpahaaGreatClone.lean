/- slices.Clone at any element type, at any address: a contract told of data; slices.Insert's. -/
import Derived.Test.YtipajaocggpahaaGreatIns
import Derived.Shelf.SlLaysE0
import Derived.Shelf.RegionOpenPlain
namespace Go.Sy
open Go Go.RowKit Go.Shelf Go.Lib Go.Proofs
set_option linter.unusedVariables false
set_option linter.unusedSimpArgs false
variable {P : Program} {ρ : Ren} {i0 : TypeInfo} {z : Value} {size bytes : Nat}

set_option maxHeartbeats 2000000 in
set_option maxRecDepth 100000 in
theorem clone_row (L : SlLaysE0.n41 P ρ) (hi : P.info? (ρ.t 23) = some i0) (hz0 : i0.zero = some z) (hz1 : i0.size = size) (hz2 : i0.bytes = bytes) (hzs : z.cells.size = size) (hsz : 0 < size)
    (z23 : ∀ w, (Go.sizeOf (ρ.t 23)).run P w = .ok size w) (ad : Addr) (n c : Nat) (news : List Value) (w : World) (hl : news.length = n * size) (hn : n ≤ maxLen) (hbig : n * bytes ≤ 140737488355328)
    (hc : ∀ j u, news[j]? = some u → w.cell? (ad.add j) = some u) (h1 : ∀ u ∈ news, u.oneCell' = true) :
    Calls P (ρ.f 41) #[.slice (some ad) n c] w fun e w' => ∃ v', e = .returned v' ∧ w'.ownsRow w.heap.size (ρ.t 23) size v' n news ∧ Below w.heap.size w w' := by
  have mixed := L.mixed; have t4 := L.t4; have a4 := L.a4; have z4 := L.z4; have v4 := L.v4; have t22 := L.t22; have a22 := L.a22; have z22 := L.z22; have v22 := L.v22
  have q22 : ∀ (w : World) (a : Option Addr) (n c n' c' : Nat), (binOp .eql (ρ.t 22) (.slice a n c) (.slice none n' c')).run P w = .ok (.bool a.isNone) w := fun w a n c n' c' => Lib.run_eql_slice_nil w _ _ a n c n' c' L.t22
  have u22 : ∀ w, Sem.run P (underlying (ρ.t 22)) w = .ok (TypeDesc.slice (ρ.t 23)) w := run_underlying t22
  have A : Aside (∀ j u, news[j]? = some u → w.cell? (ad.add j) = some u) := hc
  clear hc
  have hl0 : 0 + n ≤ maxLen := by rw [Nat.zero_add]; exact hn
  have hl1 : (0 + n) * bytes ≤ 140737488355328 := by rw [Nat.zero_add]; exact hbig
  obtain ⟨_, _, FG⟩ := L.f41
  go_enter FG, SlBodyN.n41_ntmps ρ
  go_wp2_with (at_builtin; refine wpList_append_own _ rfl _ _ (ρ.t 22) rfl w.heap.size (ρ.t 23) i0 z size bytes t22 hi hz0 hz1 hz2 hzs hsz _ _ _ rfl (World.ownsRow_made w #[] 0 (Nat.le_refl _) (Nat.zero_le _) (by simp)) ad n c news rfl hl (fun j u hj => Lib.cell?_alloc_some _ (A.out j u hj)) h1 hl0 hl1 (by simp) ?_)
  intro v' w1 hown hgrow hnil
  go_wp2
  go_ret
  refine ⟨v', rfl, by simpa using hown, ?_⟩
  exact ((Below.refl _ w).alloc (Nat.le_refl _) _).grown hgrow (by simp) (by intro k hk; simp [Value.ownBlock] at hk; omega)

set_option maxHeartbeats 1000000 in
theorem clone_nil (L : SlLaysE0.n41 P ρ) (n c : Nat) (w : World) :
    Calls P (ρ.f 41) #[.slice none n c] w fun e w' => e = .returned (.slice none 0 0) ∧ w' = w := by
  have mixed := L.mixed; have t4 := L.t4; have a4 := L.a4; have z4 := L.z4; have v4 := L.v4; have t22 := L.t22; have a22 := L.a22; have z22 := L.z22; have v22 := L.v22
  have q22 : ∀ (w : World) (a : Option Addr) (n c n' c' : Nat), (binOp .eql (ρ.t 22) (.slice a n c) (.slice none n' c')).run P w = .ok (.bool a.isNone) w := fun w a n c n' c' => Lib.run_eql_slice_nil w _ _ a n c n' c' L.t22
  obtain ⟨_, _, FG⟩ := L.f41
  go_enter FG, SlBodyN.n41_ntmps ρ
  go_wp2
  go_ret
  exact ⟨rfl, rfl⟩
theorem own_of_row {S : Stable} {w : World} {B : Nat} {te : TypeId} {e : Ty} {v : Value} {xs : List e.T} {cs : List Value} (h : w.ownsRow B te e.size v xs.length cs) (hr : RdL S e xs cs) (hS : ∀ b, B ≤ b → S b = none) :
    ∃ l : Lc, v = .slice l.addr xs.length l.cap ∧ OwnOK S w B ⟨l, te, e, xs⟩ := by
  rcases h.2 with ⟨rfl, h0⟩ | ⟨g, cap, cur, rfl, hB, hg, h1, h2, h3, h4⟩
  · refine ⟨⟨none, 0⟩, by rw [h0]; rfl, ⟨by simp only; omega, Nat.zero_le _⟩, .inl ⟨rfl, rfl⟩⟩
  · refine ⟨⟨some g, cap⟩, rfl, ⟨h1, h2⟩, .inr ⟨g, cur, rfl, hB, hS g hB, hg, h3, fun j x hj => ?_⟩⟩
    obtain ⟨c, q1, q2⟩ := RdL_get hr j x hj
    refine ⟨c, q1, fun m v hm => ?_⟩
    have := q2 m v hm
    rw [← h4, List.getElem?_take] at this
    split at this
    · simpa using this
    · cases this

def fClone {α : Type} (bytes : Nat) (xs : List α) : Option (List α × Unit) := cond (Nat.ble (xs.length * bytes) 140737488355328) (some (xs, ())) none

theorem clone_ok [Glob] {e : Ty} (L : SlLaysE0.n41 P ρ) (hi : P.info? (ρ.t 23) = some i0) (hz0 : i0.zero = some z) (hz1 : i0.size = e.size) (hz2 : i0.bytes = bytes) (hzs : z.cells.size = e.size) (hsz : 0 < e.size) (hb : 0 < bytes)
    (z23 : ∀ w, (Go.sizeOf (ρ.t 23)).run P w = .ok e.size w) : (⟨[.row e], [.own (ρ.t 23) e], fun x => fClone bytes x.1⟩ : Con).OK P (ρ.f 41) := by
  rintro ⟨xs, ⟨⟩⟩ y hy S w vs hS hG ⟨v, r, rfl, hv, rfl⟩
  simp only [fClone] at hy
  cases hble : Nat.ble (List.length xs * bytes) 140737488355328 with
  | false => rw [hble] at hy; cases hy
  | true =>
    rw [hble] at hy
    cases hy
    have hbig := Nat.le_of_ble_eq_true hble
    have hn : List.length xs ≤ maxLen := by
      have : List.length xs * 1 ≤ List.length xs * bytes := Nat.mul_le_mul_left _ hb
      unfold maxLen
      omega
    have hSn : ∀ b, w.heap.size ≤ b → S b = none := by
      intro b hb
      cases h : S b with
      | none => rfl
      | some o =>
        have := hS b o h
        rw [Array.getElem?_eq_none hb] at this
        cases this
    unfold RdV at hv
    simp only [Ty.isAgg, Bool.false_eq_true, if_false] at hv
    obtain ⟨a, cap, he, ⟨hcap, hnil⟩, hel⟩ := hv
    cases he
    cases a with
    | none =>
      have h0 : xs = [] := by
        cases xs with
        | nil => rfl
        | cons x r => obtain ⟨_, _, h, _⟩ := hel 0 x rfl; cases h
      subst h0
      refine (clone_nil L 0 cap w).mono ?_
      rintro e' w' ⟨rfl, rfl⟩
      obtain ⟨l, k1, k2⟩ := own_of_row (S := S) (e := e) (xs := []) (w := w') (cs := []) (World.ownsRow_nil w' w'.heap.size (ρ.t 23) e.size) rfl hSn
      refine ⟨[.slice none 0 0], S, [⟨l, ρ.t 23, e, []⟩], rfl, Below.refl _ _, fun _ _ h => h, hS, fun b h => .inl h, ⟨_, [], [⟨l, ρ.t 23, e, []⟩], [], rfl, rfl, ?_, rfl, rfl⟩, ?_, List.pairwise_singleton _ _⟩
      · unfold RdRV
        simp only [RTy.isAgg, Bool.false_eq_true, if_false]
        exact ⟨l, congrArg (fun v => [v]) k1, rfl⟩
      · intro o ho
        simp only [List.mem_singleton] at ho
        subst ho; exact k2
    | some ad =>
      obtain ⟨cs, r1, r2⟩ := RdL_exists (S := S) (e := e) (xs := xs) (fun j => cellS S (ad.add j)) (fun j x hj => by
        obtain ⟨ad', c, h1, h2, h3⟩ := hel j x hj
        cases h1
        exact ⟨c, h2, h3⟩)
      have cw : ∀ {a : Addr} {v : Value}, cellS S a = some v → w.cell? a = some v := by
        intro a v h
        unfold cellS at h
        unfold World.cell?
        split at h
        · rename_i hh
          rw [hS _ _ hh]; exact h
        · cases h
      refine (clone_row (z := z) L hi hz0 hz1 hz2 hzs hsz z23 ad (List.length xs) cap cs w (RdL_length r1) hn hbig (fun j u hj => cw (r2 j u hj)) (RdL_one r1)).mono ?_
      rintro e' w' ⟨v, rfl, hown, hbel⟩
      obtain ⟨l, k1, k2⟩ := own_of_row (S := S) (e := e) hown r1 hSn
      refine ⟨[v], S, [⟨l, ρ.t 23, e, xs⟩], rfl, hbel, fun _ _ h => h, fun b o h => ?_, fun b h => .inl h, ⟨_, [], [⟨l, ρ.t 23, e, xs⟩], [], rfl, rfl, ?_, rfl, rfl⟩, ?_, List.pairwise_singleton _ _⟩
      · rw [hbel.block b (Array.getElem?_eq_some_iff.1 (hS b o h)).1]; exact hS b o h
      · unfold RdRV
        simp only [RTy.isAgg, Bool.false_eq_true, if_false]
        exact ⟨l, congrArg (fun v => [v]) k1, rfl⟩
      · intro o ho
        simp only [List.mem_singleton] at ho
        subst ho; exact k2
theorem RdL_take {S : Stable} {e : Ty} : ∀ {xs : List e.T} {cs : List Value} (k : Nat), RdL S e xs cs → RdL S e (xs.take k) (cs.take (k * e.size)) ∧ RdL S e (xs.drop k) (cs.drop (k * e.size))
  | xs, cs, 0, h => by simpa [RdL] using h
  | [], cs, k + 1, h => by simp only [RdL] at h; subst h; simp [RdL]
  | x :: xs, cs, k + 1, h => by
    obtain ⟨c, d, rfl, h1, h2⟩ := h
    obtain ⟨k1, k2⟩ := RdL_take k h2
    have hl := Rd_length _ _ _ h1
    have e1 : (k + 1) * e.size = c.length + k * e.size := by rw [hl, Nat.add_mul, Nat.one_mul, Nat.add_comm]
    rw [e1]
    refine ⟨⟨c, d.take (k * e.size), ?_, h1, k1⟩, ?_⟩
    · rw [List.take_append, List.take_of_length_le (by omega), Nat.add_sub_cancel_left]
    · have : (c ++ d).drop (c.length + k * e.size) = d.drop (k * e.size) := by
        rw [List.drop_append, List.drop_eq_nil_of_le (by omega), Nat.add_sub_cancel_left, List.nil_append]
      rw [this]
      exact k2

def fIns {α : Type} (bytes : Nat) (zs : List α) (i : Int) : List α → Option (List α)
  | [y] => cond (decide (0 ≤ i) && decide (i ≤ (zs.length : Int)) && Nat.ble ((zs.length + 1) * bytes) 140737488355328) (some (zs.take i.toNat ++ y :: zs.drop i.toNat)) none
  | _ => none

theorem toNat_ex {i : Int} (h : 0 ≤ i) : ∃ k : Nat, i = k := ⟨i.toNat, by omega⟩

theorem insert_ok [Glob] {e : Ty} (L : InsLay P ρ i0 z e.size bytes) (hb : 0 < bytes) : (⟨ρ.t 9, e, [.int .i64, .row e], false, fun zs x => fIns bytes zs x.1 x.2.1⟩ : UCon).OK P (ρ.f 22) := by
  rintro zs ⟨i, vs, ⟨⟩⟩ ys hy S w B v0 cs0 us hS hG ⟨vi, r, rfl, hvi, v, r', rfl, hv, rfl⟩ hzs hown hSb hB
  simp only at hzs hown hy
  match vs, hv with
  | [], _ => cases hy
  | _ :: _ :: _, _ => cases hy
  | [y], hv =>
    simp only [fIns] at hy
    obtain ⟨hc, hy⟩ : (decide (0 ≤ i) && decide (i ≤ (zs.length : Int)) && Nat.ble ((zs.length + 1) * bytes) 140737488355328) = true ∧ zs.take i.toNat ++ y :: zs.drop i.toNat = ys := by
      cases hq : (decide (0 ≤ i) && decide (i ≤ (zs.length : Int)) && Nat.ble ((zs.length + 1) * bytes) 140737488355328) with
      | true => rw [hq] at hy; exact ⟨rfl, Option.some.inj hy⟩
      | false => rw [hq] at hy; cases hy
    subst hy
    simp only [Bool.and_eq_true, decide_eq_true_eq] at hc
    obtain ⟨⟨hi0, hin⟩, hbig⟩ := hc
    have hbig := Nat.le_of_ble_eq_true hbig
    have hn1 : zs.length + 1 ≤ maxLen := by
      have : (zs.length + 1) * 1 ≤ (zs.length + 1) * bytes := Nat.mul_le_mul_left _ hb
      rw [max_eq]; omega
    obtain ⟨k, rfl⟩ := toNat_ex hi0
    simp only [Int.toNat_natCast] at *
    have hk : k ≤ zs.length := Int.ofNat_le.1 hin
    unfold RdV at hvi hv
    simp only [Ty.isAgg, Bool.false_eq_true, if_false] at hvi hv
    cases hvi
    obtain ⟨a, cap, he, ⟨hcap, hnil⟩, hel⟩ := hv
    cases he
    obtain ⟨ad, c, ha, hc1, hc2⟩ := hel 0 y rfl
    subst ha
    have hcl := Rd_length _ _ _ hc1
    have hsz := L.hsz
    have hsp : ad.spot = none ∧ ∃ o, S ad.block = some o := by
      have h0 := hc2 0 _ (List.getElem?_eq_getElem (by omega))
      have e1 : ad.add (0 * e.size + 0) = ad := by rw [Nat.zero_mul]; rfl
      rw [e1] at h0
      unfold cellS at h0
      split at h0
      · rename_i hh
        refine ⟨?_, _, hh⟩
        cases hs : ad.spot with
        | none => rfl
        | some q => rw [hs] at h0; cases h0
      · cases h0
    obtain ⟨hs1, o, hs2⟩ := hsp
    obtain ⟨vb, voff, vs0⟩ := ad
    simp only at hs1 hs2
    subst hs1
    have hvs : ∀ j v, c[j]? = some v → w.cell? ⟨vb, voff + j, none⟩ = some v := by
      intro j v hj
      have := hc2 j v hj
      rw [Nat.zero_mul, Nat.zero_add, Addr.add_lit] at this
      unfold cellS at this
      unfold World.cell?
      split at this
      · rename_i hh
        rw [hS _ _ hh]; exact this
      · cases this
    have hbl : ∀ b, v0.ownBlock = some b → vb ≠ b := fun b h1 h2 => by subst h2; rw [hSb _ h1] at hs2; cases hs2
    have hly : (zs.take k ++ y :: zs.drop k).length = zs.length + 1 := by simp; omega
    obtain ⟨t1, t2⟩ := RdL_take k hzs
    have hres : RdL S e (zs.take k ++ y :: zs.drop k) (cs0.take (k * e.size) ++ c ++ cs0.drop (k * e.size)) := by
      rw [List.append_assoc]
      exact RdL_append t1 ⟨c, _, rfl, hc1, t2⟩
    have goal : Calls P (ρ.f 22) #[v0, .int .i64 k, .slice (some ⟨vb, voff, none⟩) 1 cap] w fun e' w' => ∃ v, e' = .returned v ∧ w'.ownsRow B (ρ.t 9) e.size v (zs.length + 1) (cs0.take (k * e.size) ++ c ++ cs0.drop (k * e.size)) ∧ w.grownBy w' v0.ownBlock ∧
        (v.ownBlock = v0.ownBlock ∨ v.ownBlock = some w.heap.size) := by
      rcases Nat.lt_or_ge k zs.length with hlt | hge
      · rcases hown.2 with ⟨rfl, h0⟩ | ⟨g, cp, cur, rfl, hBg, hg, h1, h2, h3, h4⟩
        · omega
        · rcases Nat.lt_or_ge cp (zs.length + 1) with hro | hro
          · refine (insert_grow L B g zs.length cp k vb voff cap cur cs0 c w hlt h1 hro hB hg h3 h4 (RdL_one hzs) hn1 hbig hcl hvs (Rd_one _ _ _ hc1)).mono ?_
            rintro e' w' ⟨v, q1, q2, q3, q4⟩
            exact ⟨v, q1, q2, q3, .inr q4⟩
          · refine (insert_shift L B g zs.length cp k vb voff cap cur cs0 c w hlt hro h2 (hbl g rfl) hBg hg h3 h4 (RdL_one hzs) hcl hvs (Rd_one _ _ _ hc1)).mono ?_
            rintro e' w' ⟨v, q1, q2, q3, q4⟩
            exact ⟨v, q1, q2, q3, .inl q4⟩
      · have hkn : k = zs.length := by omega
        subst hkn
        have hcs := RdL_length hzs
        rw [List.take_of_length_le (by omega), List.drop_eq_nil_of_le (by omega), List.append_nil]
        exact insert_end L B v0 zs.length vb voff cap cs0 c w hown hcl hvs (Rd_one _ _ _ hc1) hn1 hbig hB
    refine goal.mono ?_
    rintro e' w' ⟨v, rfl, q2, q3, q4⟩
    refine ⟨v, _, rfl, fun h => (by cases h), hres, by rw [hly]; exact q2, fun b hb => ?_, q3⟩
    rcases q4 with q4 | q4
    · left; rw [← q4]; exact hb
    · right; rw [q4] at hb; cases hb; exact Nat.le_refl _
end Go.Sy
