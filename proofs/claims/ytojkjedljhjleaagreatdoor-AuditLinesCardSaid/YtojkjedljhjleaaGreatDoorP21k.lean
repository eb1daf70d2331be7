/- Plain laws of chapter 21: AuditCount. -/
import Derived.Test.YtojkjedljhjleaaGreatDoorP21i
import Derived.Test.YtojkjedljhjleaaGreatDoorP21j
namespace Go.Proofs.Zz
open Go Go.Sy
set_option linter.unusedSimpArgs false
set_option linter.unusedVariables false

/-! sums over what is below -/
def sumN (f : Nat → Nat) : Nat → Nat
  | 0 => 0
  | k + 1 => sumN f k + f k

theorem sumN_le {f g : Nat → Nat} : ∀ {k : Nat}, (∀ j, j < k → f j ≤ g j) → sumN f k ≤ sumN g k
  | 0, _ => Nat.le_refl _
  | k + 1, h => by
    have := sumN_le (k := k) (f := f) (g := g) fun j hj => h j (by omega)
    have := h k (by omega)
    unfold sumN; omega

theorem sumN_eq {f g : Nat → Nat} : ∀ {k : Nat}, (∀ j, j < k → f j = g j) → sumN f k = sumN g k
  | 0, _ => rfl
  | k + 1, h => by
    have := sumN_eq (k := k) (f := f) (g := g) fun j hj => h j (by omega)
    have := h k (by omega)
    unfold sumN; omega

theorem sumN_add (f g : Nat → Nat) : ∀ k : Nat, sumN (fun j => f j + g j) k = sumN f k + sumN g k
  | 0 => rfl
  | k + 1 => by
    have := sumN_add f g k
    simp only [sumN]; omega

theorem sumN_if (c : Nat → Bool) (n : Nat) : ∀ k : Nat, sumN (fun j => if c j = true then n else 0) k = (List.range k).countP c * n
  | 0 => by simp [sumN]
  | k + 1 => by
    simp only [sumN]
    rw [sumN_if c n k, List.range_succ, List.countP_append, List.countP_singleton, Nat.add_mul]
    split <;> simp

theorem sumN_one (x : Int) : ∀ k : Nat, sumN (fun j => if decide (x = (j : Int)) = true then 1 else 0) k = if 0 ≤ x ∧ x < (k : Int) then 1 else 0
  | 0 => by rw [if_neg (by omega)]; rfl
  | k + 1 => by
    simp only [sumN]
    rw [sumN_one x k]
    simp only [decide_eq_true_eq]
    split <;> split <;> split <;> omega

theorem sumN_cnt {y : Nat} : ∀ (B : List (Int × Int)), (∀ b ∈ B, 0 ≤ b.1 ∧ b.1 < (y : Int)) → sumN (fun j => B.countP fun b => decide (b.1 = (j : Int))) y = B.length
  | [], _ => by
    have : sumN (fun j => ([] : List (Int × Int)).countP fun b => decide (b.1 = (j : Int))) y = sumN (fun j => if (fun _ : Nat => false) j = true then 0 else 0) y := sumN_eq fun j _ => by simp
    rw [this, sumN_if, Nat.mul_zero]; rfl
  | b :: B, h => by
    have ih := sumN_cnt B fun x hx => h x (List.mem_cons_of_mem _ hx)
    have hb := h b (by simp)
    have : sumN (fun j => (b :: B).countP fun b => decide (b.1 = (j : Int))) y = sumN (fun j => (B.countP fun b => decide (b.1 = (j : Int))) + (if decide (b.1 = (j : Int)) = true then 1 else 0)) y := sumN_eq fun j _ => by rw [List.countP_cons]
    rw [this, sumN_add, ih, sumN_one, if_pos hb, List.length_cons]

/-! addresses of pools -/
theorem countP_between (a b : Nat) (hab : a ≤ b) : ∀ y : Nat, (List.range y).countP (fun j => decide (a ≤ j) && decide (j < b)) = min b y - min a y
  | 0 => by simp
  | y + 1 => by
    rw [List.range_succ, List.countP_append, List.countP_singleton, countP_between a b hab y]
    simp only [Bool.and_eq_true, decide_eq_true_eq]
    split <;> omega

theorem countP_or_disj (p q : Nat → Bool) (l : List Nat) (h : ∀ j ∈ l, p j = true → q j = false) : l.countP (fun j => p j || q j) = l.countP p + l.countP q := by
  induction l with
  | nil => rfl
  | cons x l ih =>
    have ih := ih fun j hj => h j (List.mem_cons_of_mem _ hj)
    have hx := h x (by simp)
    rw [List.countP_cons, List.countP_cons, List.countP_cons, ih]
    cases hp : p x with
    | true => rw [hx hp]; simp; omega
    | false => cases q x <;> simp <;> omega

theorem hasB_cnt {p : HT} {y : Nat} (hy : y ≤ 4) (hf : FitsP p (y : Int)) : (((List.range y).countP fun (j : Nat) => hasB p (j : Int) : Nat) : Int) = p.2.1 := by
  obtain ⟨h1, h2, h3, h4⟩ := hf
  have : ((List.range y).countP fun (j : Nat) => hasB p (j : Int)) = (List.range y).countP (fun j => decide (p.1.toNat ≤ j) && decide (j < (p.1 + p.2.1).toNat)) := by
    refine List.countP_congr fun j hj => ?_
    unfold hasB
    simp only [Bool.and_eq_true, decide_eq_true_eq]
    omega
  rw [this, countP_between _ _ (by omega)]
  omega

theorem pools_cnt {y : Nat} (hy : y ≤ 4) : ∀ (P : List HT), (∀ p ∈ P, FitsP p (y : Int)) → P.Pairwise (fun p q => meetB q p = false) →
    (((List.range y).countP fun (j : Nat) => P.any fun p => hasB p (j : Int) : Nat) : Int) = (P.map fun p => p.2.1).sum
  | [], _, _ => by simp
  | p :: P, hf, ha => by
    have ih := pools_cnt hy P (fun q hq => hf q (List.mem_cons_of_mem _ hq)) (List.pairwise_cons.1 ha).2
    have hp := hf p (by simp)
    have : ((List.range y).countP fun (j : Nat) => (p :: P).any fun p => hasB p (j : Int)) = (List.range y).countP (fun (j : Nat) => hasB p (j : Int) || P.any fun p => hasB p (j : Int)) :=
      List.countP_congr fun j _ => by rw [List.any_cons]
    rw [this, countP_or_disj, Int.natCast_add, hasB_cnt hy hp, ih, List.map_cons, List.sum_cons]
    intro j _ h1
    rw [Bool.eq_false_iff]
    intro h2
    obtain ⟨q, hq, h2⟩ := List.any_eq_true.1 h2
    have := (List.pairwise_cons.1 ha).1 q hq
    unfold meetB at this
    unfold hasB at h1 h2
    simp only [Bool.and_eq_true, decide_eq_true_eq] at h1 h2
    rw [Bool.and_eq_false_iff, decide_eq_false_iff_not, decide_eq_false_iff_not] at this
    omega

/-- the address lies in a pool -/
def inB (P : List HT) (at' : Int) : Bool := decide (P.findIdx (fun p => hasB p at') < P.length)
/-- the address lies in a pool that gives -/
def givB (P : List HT) (at' : Int) : Bool := match P[P.findIdx (fun p => hasB p at')]? with
  | some p => decide (p.2.2 = 0)
  | none => false

theorem inB_any (P : List HT) (at' : Int) : inB P at' = P.any fun p => hasB p at' := by
  unfold inB
  rw [Bool.eq_iff_iff, decide_eq_true_eq, List.findIdx_lt_length, List.any_eq_true]

theorem f14_eq {P : List HT} (hP : Sz P) (at' : Int) : f14 P at' = some (givB P at', ()) := by
  unfold f14 givB
  rw [f35_eq P hP]
  simp only [Option.bind_some]
  by_cases h : P.findIdx (fun p => hasB p at') < P.length
  · rw [if_pos h, List.getElem?_eq_getElem h, decide_eq_false (by omega), ge0, ltn h, Int.toNat_natCast, rdH h]; rfl
  · rw [if_neg h, List.getElem?_eq_none (by omega)]; rfl

section
variable {a b c d e f g h q i' o : Int} {p : Bool} {now : Int} {P H : List HT} {L : List LT}

/-- the blocks of leases are not twice -/
theorem MayS.nodup (M : MayS a b c d e f g h P L H) : (L.map blkL ++ H.map blkH).Nodup := by
  have hHlt : ∀ j k (hj : j < H.length) (hk : k < H.length), j < k → ltB H[j].1 H[j].2.1 H[k].1 H[k].2.1 := by
    intro j k
    induction k with
    | zero => intro _ _ h; omega
    | succ k ih =>
      intro hj hk hjk
      have hs := M.helds.srt k hk
      by_cases e : j = k
      · subst e; exact hs
      · have := ih hj (by omega) (by omega)
        unfold ltB at *
        omega
  refine List.nodup_append.2 ⟨?_, ?_, ?_⟩
  · refine List.pairwise_iff_getElem.2 fun j k hj hk hjk he => ?_
    simp only [List.length_map] at hj hk
    have := M.leases.lt j k hj hk hjk
    simp only [List.getElem_map, Prod.mk.injEq] at he
    unfold ltB at this
    omega
  · refine List.pairwise_iff_getElem.2 fun j k hj hk hjk he => ?_
    simp only [List.length_map] at hj hk
    have := hHlt j k hj hk hjk
    simp only [List.getElem_map, Prod.mk.injEq] at he
    unfold ltB at this
    omega
  · rintro x hx y hy rfl
    obtain ⟨l, hl, rfl⟩ := List.mem_map.1 hx
    obtain ⟨k, hk, he⟩ := List.mem_map.1 hy
    refine M.helds.free k hk ?_
    rw [List.findIdx_lt_length]
    simp only [Prod.mk.injEq] at he
    exact ⟨l, hl, by simp [he.1, he.2]⟩

theorem isBlk_r {at' blk : Int} {y n : Nat} (hy : sizeI c d = (y : Int)) (hn : g / h = (n : Int)) (hb : isBlk a b c d e f g h at' blk = true) : (0 ≤ at' ∧ at' < (y : Int)) ∧ (0 ≤ blk ∧ blk < (n : Int)) := by
  unfold isBlk at hb
  simp only [Bool.and_eq_true, decide_eq_true_eq] at hb
  omega

theorem MayS.rng (M : MayS a b c d e f g h P L H) {y n : Nat} (hy : sizeI c d = (y : Int)) (hn : g / h = (n : Int)) : ∀ x ∈ L.map blkL ++ H.map blkH, (0 ≤ x.1 ∧ x.1 < (y : Int)) ∧ (0 ≤ x.2 ∧ x.2 < (n : Int)) := by
  intro x hx
  rcases List.mem_append.1 hx with hx | hx
  · obtain ⟨l, hl, rfl⟩ := List.mem_map.1 hx
    exact isBlk_r hy hn (M.leases.blk l hl)
  · obtain ⟨l, hl, rfl⟩ := List.mem_map.1 hx
    exact isBlk_r hy hn (M.helds.blk l hl)

abbrev cL (L : List LT) (j : Nat) : Nat := (L.map blkL).countP fun b => decide (b.1 = (j : Int))
abbrev cH (H : List HT) (j : Nat) : Nat := (H.map blkH).countP fun b => decide (b.1 = (j : Int))
def hadF (P : List HT) (L : List LT) (j : Nat) : Nat := if inB P (j : Int) = true then cL L j else 0
def heldF (P : List HT) (H : List HT) (j : Nat) : Nat := if inB P (j : Int) = true then cH H j else 0
def freeF (n : Nat) (P : List HT) (L : List LT) (H : List HT) (j : Nat) : Nat := if inB P (j : Int) = true then (if givB P (j : Int) = true then n - (cL L j + cH H j) else 0) else 0

theorem cnt_le (M : MayS a b c d e f g h P L H) {y n : Nat} (hy : sizeI c d = (y : Int)) (hn : g / h = (n : Int)) (j : Nat) : cL L j + cH H j ≤ n := by
  have := cntB_use (n := n) (j : Int) _ M.nodup fun x hx => (M.rng hy hn x hx).2
  rw [List.countP_append] at this
  rw [← this]
  unfold cntB
  exact Nat.le_trans List.countP_le_length (by simp)

theorem f12_eq (hP : Sz P) (hL : L.length ≤ 40) (hH : H.length ≤ 40) {y n : Nat} (hm : mayB a b c d e f g h q i' o p now P L H = true) (hy : sizeI c d = (y : Int)) (hn : g / h = (n : Int)) (hy4 : y ≤ 4) (hn8 : n ≤ 8) :
    f12 a b c d e f g h q i' o p now P L H = some (((sumN (hadF P L) y : Nat) : Int), (((sumN (heldF P H) y : Nat) : Int), (((sumN (freeF n P L H) y : Nat) : Int), ()))) := by
  have hL' : Sz L := by unfold Sz; omega
  have hH' : Sz H := by unfold Sz; omega
  have M := mayB_spec hP hL' hH' hm
  unfold f12
  rw [f11_eq hP hL' hH', hm, f34_eq, hy]
  simp only [Option.bind_some, Bool.not_true, cond_false]
  have hlr := M.rng hy hn
  have hbd : ∀ j, hadF P L j ≤ 8 ∧ heldF P H j ≤ 8 ∧ freeF n P L H j ≤ 8 := by
    intro j
    have := cnt_le M hy hn j
    unfold hadF heldF freeF
    split
    · split <;> omega
    · omega
  have hsum : ∀ k, k ≤ 4 → sumN (hadF P L) k ≤ 8 * k ∧ sumN (heldF P H) k ≤ 8 * k ∧ sumN (freeF n P L H) k ≤ 8 * k := by
    intro k
    induction k with
    | zero => intro _; exact ⟨Nat.le_refl _, Nat.le_refl _, Nat.le_refl _⟩
    | succ k ih =>
      intro hk
      have := ih (by omega)
      have := hbd k
      simp only [sumN]
      omega
  have := it_all (u := u12_5) (fun j => (((), (((sumN (hadF P L) j : Nat) : Int), (((sumN (heldF P H) j : Nat) : Int), (((sumN (freeF n P L H) j : Nat) : Int), (((y : Nat) : Int), (((j : Nat) : Int), ())))))), (((a, (b, (c, (d, (e, (f, (g, (h, (q, (i', (o, (p, (now, (P, (L, (H, ())))))))))))))))), ()), ()))) (n := y)
    (y := ((((sumN (hadF P L) y : Nat) : Int), (((sumN (heldF P H) y : Nat) : Int), (((sumN (freeF n P L H) y : Nat) : Int), ()))), ((), ())))
    (fun j hj => by
      have b1 := hbd j
      have b2 := hsum j (by omega)
      have hc := cnt_le M hy hn j
      have cu : cntB n (useU n (j : Int) 0 (L.map blkL)) = cL L j := cntB_use (j : Int) _ (List.nodup_append.1 M.nodup).1 fun x hx => (hlr x (List.mem_append_left _ hx)).2
      have cu2 : cntB n (useU n (j : Int) 0 (L.map blkL ++ H.map blkH)) = cL L j + cH H j := by
        rw [cntB_use (j : Int) _ M.nodup fun x hx => (hlr x hx).2, List.countP_append]
      have e36 := f36_ok M.fit hn8 hn L [] hL (by simp) (j : Int)
      rw [List.map_nil, List.append_nil] at e36
      have e37 := f37_ok hn8 (useU_lt (n := n) (j : Int) (L.map blkL) (Nat.two_pow_pos n))
      have e37' := f37_ok hn8 (useU_lt (n := n) (j : Int) (L.map blkL ++ H.map blkH) (Nat.two_pow_pos n))
      rw [cu] at e37
      rw [cu2] at e37'
      simp only [u12_5, t12_5, ltn hj, cond_true, f35_eq P hP, Option.bind_some, nx hj (show y ≤ 9223372036854775807 by omega)]
      simp only [sumN]
      unfold hadF heldF freeF inB at *
      by_cases hi : P.findIdx (fun p => hasB p (j : Int)) < P.length
      · rw [if_pos hi, decide_eq_false (show ¬ ((P.findIdx (fun p => hasB p (j : Int)) : Nat) : Int) = -1 by omega)]
        simp only [cond_false, e36, f36_ok M.fit hn8 hn L H hL hH (j : Int), Option.bind_some, e37, e37', f14_eq hP]
        simp only [decide_eq_true hi, if_true] at b1 b2 ⊢
        generalize cL L j = x1 at *
        generalize cH H j = x2 at *
        have w1 : IntKind.wrap .i64 (((x1 + x2 : Nat) : Int) - (x1 : Int)) = (x2 : Int) := by rw [w64 (by omega) (by omega)]; omega
        have w2 : IntKind.wrap .i64 ((n : Int) - ((x1 + x2 : Nat) : Int)) = ((n - (x1 + x2) : Nat) : Int) := by rw [w64 (by omega) (by omega)]; omega
        have ad : ∀ u v : Nat, u ≤ 100 → v ≤ 100 → IntKind.wrap .i64 ((u : Int) + (v : Int)) = ((u + v : Nat) : Int) := fun u v h1 h2 => by rw [w64 (by omega) (by omega)]; omega
        rw [w1, w2, ad _ x1 (by omega) (by omega), ad _ x2 (by omega) (by omega), ad _ (n - (x1 + x2)) (by omega) (by omega)]
        cases givB P (j : Int) <;> rfl
      · rw [if_neg hi]
        simp only [decide_eq_false hi, decide_true, cond_true]
        rfl)
    (by simp only [u12_5, t12_5, nlt, cond_false])
    0 big (Nat.zero_le _) (by unfold big; omega)
  have e1 : iter big u12_5 (((), (0, (0, (0, (((y : Nat) : Int), (0, ())))))), (((a, (b, (c, (d, (e, (f, (g, (h, (q, (i', (o, (p, (now, (P, (L, (H, ())))))))))))))))), ()), ())) = _ := this
  rw [e1]
  rfl

theorem all_ok (v1 v2 v3 a b c d e f g h q i' o : Int) (p : Bool) (now : Int) (P : List HT) (L : List LT) (H : List HT) (hP : P.length ≤ 3) (hf : fitB a b c d e f g h = true) {n : Nat} (hn : g / h = (n : Int)) (hn8 : n ≤ 8) (h4 : ∀ x ∈ P, 0 ≤ x.2.1 ∧ x.2.1 ≤ 4) :
    iter big u4_11 (((), (v1, (v2, (v3, (0, (false, (0, ()))))))), (((a, (b, (c, (d, (e, (f, (g, (h, (q, (i', (o, (p, (now, (P, (L, (H, ())))))))))))))))), ()), ())) =
      some (.inl (((), (v1, (v2, (v3, ((P.map fun x => x.2.1).sum * (n : Int), (P.any (fun x => !givB P x.1), ())))))), (((a, (b, (c, (d, (e, (f, (g, (h, (q, (i', (o, (p, (now, (P, (L, (H, ())))))))))))))))), ()), ()))) := by
  have hs : ∀ j, 0 ≤ ((P.take j).map fun x => x.2.1).sum ∧ ((P.take j).map fun x => x.2.1).sum ≤ 4 * ((P.take j).length : Int) := by
    have : ∀ l : List HT, (∀ x ∈ l, 0 ≤ x.2.1 ∧ x.2.1 ≤ 4) → 0 ≤ (l.map fun x => x.2.1).sum ∧ (l.map fun x => x.2.1).sum ≤ 4 * (l.length : Int) := by
      intro l
      induction l with
      | nil => intro _; simp
      | cons x l ih =>
        intro hx
        have h1 := ih fun y hy => hx y (List.mem_cons_of_mem _ hy)
        have h2 := hx x (by simp)
        rw [List.map_cons, List.sum_cons, List.length_cons]
        omega
    intro j
    exact this _ fun x hx => h4 x (List.mem_of_mem_take hx)
  have := it_all (u := u4_11) (fun j => (((), (v1, (v2, (v3, (((P.take j).map fun x => x.2.1).sum * (n : Int), ((P.take j).any (fun x => !givB P x.1), (((j : Nat) : Int), ()))))))), (((a, (b, (c, (d, (e, (f, (g, (h, (q, (i', (o, (p, (now, (P, (L, (H, ())))))))))))))))), ()), ()))) (n := P.length)
    (y := (((), (v1, (v2, (v3, ((P.map fun x => x.2.1).sum * (n : Int), (P.any (fun x => !givB P x.1), ())))))), (((a, (b, (c, (d, (e, (f, (g, (h, (q, (i', (o, (p, (now, (P, (L, (H, ())))))))))))))))), ()), ())))
    (fun j hj => by
      have b1 := hs j
      rw [List.length_take] at b1
      have b2 := h4 _ (List.getElem_mem hj)
      have m1 : 0 ≤ P[j].2.1 * (n : Int) := Int.mul_nonneg b2.1 (by omega)
      have m2 : P[j].2.1 * (n : Int) ≤ 4 * 8 := Int.mul_le_mul b2.2 (by omega) (by omega) (by omega)
      have m3 : 0 ≤ ((P.take j).map fun x => x.2.1).sum * (n : Int) := Int.mul_nonneg b1.1 (by omega)
      have m4 : ((P.take j).map fun x => x.2.1).sum * (n : Int) ≤ 12 * 8 := Int.mul_le_mul (by omega) (by omega) (by omega) (by omega)
      have w1 : IntKind.wrap .i64 (P[j].2.1 * (n : Int)) = P[j].2.1 * (n : Int) := w64 (by omega) (by omega)
      have w2 : IntKind.wrap .i64 (((P.take j).map fun x => x.2.1).sum * (n : Int) + P[j].2.1 * (n : Int)) = ((P.take (j + 1)).map fun x => x.2.1).sum * (n : Int) := by
        rw [w64 (by omega) (by omega), List.take_succ_eq_append_getElem hj, List.map_append, List.sum_append, Int.add_mul]
        simp
      simp only [u4_11, t4_11, ltn hj, ge0, cond_true, Bool.and_self, Int.toNat_natCast, rdH hj, f13_eq, hf, if_true, hn, Option.bind_some, nx hj (show P.length ≤ 9223372036854775807 by omega), w1, w2, f14_eq (show Sz P by unfold Sz; omega)]
      rw [show ((P.take (j + 1)).any fun x => !givB P x.1) = ((P.take j).any (fun x => !givB P x.1) || !givB P P[j].1) by rw [List.take_succ_eq_append_getElem hj, List.any_append]; simp]
      cases (P.take j).any (fun x => !givB P x.1) <;> rfl)
    (by simp only [u4_11, t4_11, nlt, cond_false, List.take_length])
    0 big (Nat.zero_le _) (by unfold big; omega)
  simp only [List.take_zero, List.map_nil, List.sum_nil, Int.zero_mul, List.any_nil] at this
  exact this

/-- the sums, told of what there is -/
theorem sums_ok (M : MayS a b c d e f g h P L H) {y n : Nat} (hy : sizeI c d = (y : Int)) (hn : g / h = (n : Int)) :
    sumN (hadF P L) y = L.length ∧ sumN (heldF P H) y ≤ H.length ∧ (((sumN (hadF P L) y + sumN (heldF P H) y + sumN (freeF n P L H) y : Nat) : Int) ≤ (P.map fun x => x.2.1).sum * (n : Int)) ∧
      ((P.any fun x => !givB P x.1) = false → (((sumN (hadF P L) y + sumN (heldF P H) y + sumN (freeF n P L H) y : Nat) : Int) = (P.map fun x => x.2.1).sum * (n : Int))) := by
  have hrng := M.rng hy hn
  have y4 : y ≤ 4 := by have := M.pools.out4; omega
  have s1 : sumN (hadF P L) y = L.length := by
    rw [show L.length = (L.map blkL).length by simp, ← sumN_cnt (y := y) (L.map blkL) fun x hx => (hrng x (List.mem_append_left _ hx)).1]
    refine sumN_eq fun j hj => ?_
    unfold hadF
    split
    · rfl
    · rename_i hi
      symm
      rw [List.countP_eq_zero]
      intro x hx hxj
      obtain ⟨l, hl, rfl⟩ := List.mem_map.1 hx
      have := M.leases.pool l hl
      simp only [decide_eq_true_eq] at hxj
      refine hi ?_
      unfold inB
      rw [← hxj]
      exact decide_eq_true this
  have s2 : sumN (heldF P H) y ≤ H.length := by
    rw [show H.length = (H.map blkH).length by simp, ← sumN_cnt (y := y) (H.map blkH) fun x hx => (hrng x (List.mem_append_right _ hx)).1]
    refine sumN_le fun j hj => ?_
    unfold heldF
    split
    · exact Nat.le_refl _
    · exact Nat.zero_le _
  have pc := pools_cnt y4 P (fun x hx => hy ▸ M.pools.fits x hx) (List.pairwise_iff_getElem.2 fun i j hi hj hij => M.pools.apart i j hi hj hij)
  have e3 : sumN (fun j => if inB P (j : Int) = true then n else 0) y = (List.range y).countP (fun (j : Nat) => P.any fun x => hasB x (j : Int)) * n := by
    rw [sumN_if (fun j => inB P (j : Int))]
    congr 1
    exact List.countP_congr fun j _ => by rw [inB_any]
  have s3 : sumN (hadF P L) y + sumN (heldF P H) y + sumN (freeF n P L H) y = sumN (fun j => hadF P L j + heldF P H j + freeF n P L H j) y := by
    rw [sumN_add, sumN_add]
  refine ⟨s1, s2, ?_, fun hg => ?_⟩
  · rw [← pc, ← Int.natCast_mul, ← e3, s3]
    refine Int.ofNat_le.2 (sumN_le fun j hj => ?_)
    have := cnt_le M hy hn j
    unfold hadF heldF freeF
    split
    · split <;> omega
    · omega
  · rw [← pc, ← Int.natCast_mul, ← e3, s3]
    refine congrArg _ (sumN_eq fun j hj => ?_)
    have := cnt_le M hy hn j
    unfold hadF heldF freeF
    split
    · rename_i hi
      have hi' : P.findIdx (fun p => hasB p (j : Int)) < P.length := by unfold inB at hi; exact of_decide_eq_true hi
      have hgive : givB P (j : Int) = true := by
        have hmem := List.getElem_mem hi'
        have hall := List.any_eq_false.1 hg _ hmem
        simp only [Bool.not_eq_true, Bool.not_eq_false'] at hall
        -- the pool of its first address is itself
        have hk : P.findIdx (fun p => hasB p (P[P.findIdx (fun p => hasB p (j : Int))]'hi').1) = P.findIdx (fun p => hasB p (j : Int)) := by
          generalize P.findIdx (fun p => hasB p (j : Int)) = k at hi' hmem ⊢
          have hfit := hy ▸ M.pools.fits _ hmem
          unfold FitsP at hfit
          have hself : hasB P[k] P[k].1 = true := by
            unfold hasB
            simp only [Bool.and_eq_true, decide_eq_true_eq]
            omega
          have hlt : P.findIdx (fun p => hasB p P[k].1) < P.length := List.findIdx_lt_length.2 ⟨_, hmem, hself⟩
          have hh : hasB (P[P.findIdx (fun p => hasB p P[k].1)]'hlt) P[k].1 = true := List.findIdx_getElem (w := hlt)
          generalize P.findIdx (fun p => hasB p P[k].1) = m at hlt hh ⊢
          have hfm := hy ▸ M.pools.fits _ (List.getElem_mem hlt)
          unfold FitsP at hfm
          unfold hasB at hh
          simp only [Bool.and_eq_true, decide_eq_true_eq] at hh
          rcases Nat.lt_trichotomy m k with h | h | h
          · have := M.pools.apart m k hlt hi' h
            unfold meetB at this
            rw [Bool.and_eq_false_iff, decide_eq_false_iff_not, decide_eq_false_iff_not] at this
            omega
          · exact h
          · have := M.pools.apart k m hi' hlt h
            unfold meetB at this
            rw [Bool.and_eq_false_iff, decide_eq_false_iff_not, decide_eq_false_iff_not] at this
            omega
        unfold givB at hall ⊢
        rw [hk] at hall
        exact hall
      rw [if_pos hgive]; omega
    · rfl

theorem law4 (a b c d e f g h q i' o : Int) (p : Bool) (now : Int) (P : List HT) (L : List LT) (H : List HT) : f4 a b c d e f g h q i' o p now P L H = some (true, ()) := by
  unfold f4
  rw [f7_eq, f8_eq]
  simp only [Option.bind_some, Bool.not_true, cond_false]
  cases hf : (decide (L.length ≤ 40) && (decide (H.length ≤ 40) && decide (P.length ≤ 6))) with
  | false => rfl
  | true =>
  simp only [Bool.and_eq_true, decide_eq_true_eq] at hf
  obtain ⟨hL, hH, hP⟩ := hf
  have hPs : Sz P := by unfold Sz; omega
  have hHs : Sz H := by unfold Sz; omega
  have hLs : Sz L := by unfold Sz; omega
  simp only [Bool.not_true, cond_false]
  rw [f11_eq hPs hLs hHs]
  cases hm : mayB a b c d e f g h q i' o p now P L H with
  | false =>
    have : f12 a b c d e f g h q i' o p now P L H = some (0, (0, (0, ()))) := by
      unfold f12
      rw [f11_eq hPs hLs hHs, hm]; rfl
    rw [this]; rfl
  | true =>
  have M := mayB_spec hPs hLs hHs hm
  have F := fitB_spec M.fit
  have := F.y1
  have := F.y2
  have hy : sizeI c d = (((sizeI c d).toNat : Nat) : Int) := by omega
  have hg0 : 0 ≤ g / h := Int.ediv_nonneg F.g1 (by have := F.h1; omega)
  have hg8 := F.blk
  have hn : g / h = (((g / h).toNat : Nat) : Int) := by omega
  have hy4 : (sizeI c d).toNat ≤ 4 := by omega
  have hn8 : (g / h).toNat ≤ 8 := by omega
  generalize (sizeI c d).toNat = y at hy hy4
  generalize (g / h).toNat = n at hn hn8
  have hfits : ∀ x ∈ P, 0 ≤ x.2.1 ∧ x.2.1 ≤ 4 := fun x hx => by
    obtain ⟨h1, h2, h3, h4⟩ := M.pools.fits x hx
    omega
  obtain ⟨s1, s2, s3, s4⟩ := sums_ok M hy hn
  rw [f12_eq hPs hL hH hm hy hn hy4 hn8]
  simp only [Option.bind_some, Bool.not_true, cond_false]
  rw [all_ok _ _ _ _ _ _ _ _ _ _ _ _ _ _ _ _ P L H M.pools.len M.fit hn hn8 hfits]
  simp only [Option.bind_some]
  have l32 := M.leases.len
  generalize sumN (hadF P L) y = x1 at *
  generalize sumN (heldF P H) y = x2 at *
  have hall : (P.map fun x => x.2.1).sum * (n : Int) ≤ 1000 := by
    have : (P.map fun x => x.2.1).sum ≤ 24 := by
      have hs : ∀ l : List HT, (∀ x ∈ l, 0 ≤ x.2.1 ∧ x.2.1 ≤ 4) → 0 ≤ (l.map fun x => x.2.1).sum ∧ (l.map fun x => x.2.1).sum ≤ 4 * (l.length : Int) := by
        intro l
        induction l with
        | nil => intro _; simp
        | cons x l ih =>
          intro hx
          have h1 := ih fun y hy => hx y (List.mem_cons_of_mem _ hy)
          have h2 := hx x (by simp)
          rw [List.map_cons, List.sum_cons, List.length_cons]
          omega
      have := hs P hfits
      omega
    have := Int.mul_le_mul this (show (n : Int) ≤ 8 by omega) (by omega) (by omega)
    omega
  generalize sumN (freeF n P L H) y = x3 at *
  generalize (P.map fun x => x.2.1).sum * (n : Int) = al at *
  rw [decide_eq_true (show ((x1 : Nat) : Int) = ((L.length : Nat) : Int) by omega), decide_eq_true (show (0 : Int) ≤ (x2 : Int) by omega), decide_eq_true (show ((x2 : Nat) : Int) ≤ ((H.length : Nat) : Int) by omega), decide_eq_true (show (0 : Int) ≤ (x3 : Int) by omega)]
  rw [w64 (x := (x1 : Int) + (x2 : Int)) (by omega) (by omega), w64 (x := (x1 : Int) + (x2 : Int) + (x3 : Int)) (by omega) (by omega)]
  rw [decide_eq_true (show (x1 : Int) + (x2 : Int) + (x3 : Int) ≤ al by omega)]
  cases hd : (P.any fun x => !givB P x.1) with
  | true => rfl
  | false =>
    have := s4 hd
    rw [decide_eq_true (show (x1 : Int) + (x2 : Int) + (x3 : Int) = al by omega)]; rfl
end
end Go.Proofs.Zz
