/- The model: lists that stand in order by blocks; settled states; busy addresses. -/
import Derived.Test.YtipajaocggpahaaGreatM1
import Derived.Sort.OwnSortedInts
import Derived.Shelf.Slices.CompactI
import Derived.Lib.RowBridge
namespace Go.Proofs.Zz
open Go Go.Sy
set_option linter.unusedSimpArgs false
set_option linter.unusedVariables false

theorem lt_eq (a b : LT) : ((decide (a.1 = b.1)) && ((decide (a.2.1 = b.2.1)) && ((decide (a.2.2.1 = b.2.2.1)) && ((decide (a.2.2.2.1 = b.2.2.2.1)) && ((decide (a.2.2.2.2 = b.2.2.2.2)) && true))))) = decide (a = b) := by
  obtain ⟨a1, a2, a3, a4, a5⟩ := a
  obtain ⟨b1, b2, b3, b4, b5⟩ := b
  rw [Bool.eq_iff_iff]
  simp [Prod.ext_iff]

theorem ht_eq (a b : HT) : ((decide (a.1 = b.1)) && ((decide (a.2.1 = b.2.1)) && ((decide (a.2.2 = b.2.2)) && true))) = decide (a = b) := by
  obtain ⟨a1, a2, a3⟩ := a
  obtain ⟨b1, b2, b3⟩ := b
  rw [Bool.eq_iff_iff]
  simp [Prod.ext_iff]

theorem dec_le {a b : Nat} (h : a ≤ b) : decide ((a : Int) ≤ (b : Int)) = true := decide_eq_true (by omega)

/-! lists by their blocks -/
def kL (x : LT) : Int × Int := (x.2.1, x.2.2.1)
def kH (x : HT) : Int × Int := (x.1, x.2.1)
def ltP (b c : Int × Int) : Prop := ltB b.1 b.2 c.1 c.2
instance (b c : Int × Int) : Decidable (ltP b c) := by unfold ltP; infer_instance
theorem ltP_trans {a b c : Int × Int} (h1 : ltP a b) (h2 : ltP b c) : ltP a c := ltB_trans h1 h2
theorem ltP_irrefl {a : Int × Int} (h : ltP a a) : False := by unfold ltP ltB at h; omega
theorem ltP_tri (a b : Int × Int) : ltP a b ∨ a = b ∨ ltP b a := by
  obtain ⟨a1, a2⟩ := a
  obtain ⟨b1, b2⟩ := b
  unfold ltP ltB
  simp only [Prod.mk.injEq]
  omega

section
variable {α : Type} {k : α → Int × Int}
abbrev behK (k : α → Int × Int) (b : Int × Int) (y : α) : Bool := decide (ltP b (k y))
abbrev isK (k : α → Int × Int) (b : Int × Int) (y : α) : Bool := decide (k y = b)
def insK (k : α → Int × Int) (l : List α) (x : α) : List α := l.take (l.findIdx (behK k (k x))) ++ x :: l.drop (l.findIdx (behK k (k x)))
def hasK (k : α → Int × Int) (l : List α) (b : Int × Int) : Bool := l.any (isK k b)
abbrev SrtK (k : α → Int × Int) (l : List α) : Prop := l.Pairwise fun x y => ltP (k x) (k y)

theorem insK_len (l : List α) (x : α) : (insK k l x).length = l.length + 1 := by
  have : l.findIdx (behK k (k x)) ≤ l.length := List.findIdx_le_length
  unfold insK
  simp only [List.length_append, List.length_take, List.length_cons, List.length_drop]; omega

theorem insK_perm (l : List α) (x : α) : (insK k l x).Perm (x :: l) := by
  unfold insK
  refine List.perm_middle.trans (List.Perm.cons x ?_)
  rw [List.take_append_drop]

theorem mem_insK {l : List α} {x y : α} : y ∈ insK k l x ↔ y = x ∨ y ∈ l := by
  rw [(insK_perm (k := k) l x).mem_iff, List.mem_cons]

theorem hasK_insK (l : List α) (x : α) (b : Int × Int) : hasK k (insK k l x) b = (decide (k x = b) || hasK k l b) := by
  unfold hasK
  rw [Bool.eq_iff_iff]
  simp only [List.any_eq_true, mem_insK, Bool.or_eq_true]
  constructor
  · rintro ⟨y, rfl | hy, h⟩
    · exact .inl h
    · exact .inr ⟨y, hy, h⟩
  · rintro (h | ⟨y, hy, h⟩)
    · exact ⟨x, .inl rfl, h⟩
    · exact ⟨y, .inr hy, h⟩

theorem hasK_false {l : List α} {b : Int × Int} (h : hasK k l b = false) : ∀ y ∈ l, k y ≠ b := by
  intro y hy he
  unfold hasK at h
  rw [List.any_eq_false] at h
  exact h y hy (decide_eq_true he)

theorem takeK_lt {l : List α} {x : α} (h : hasK k l (k x) = false) : ∀ y ∈ l.take (l.findIdx (behK k (k x))), ltP (k y) (k x) := by
  intro y hy
  obtain ⟨j, hj, rfl⟩ := List.mem_take_iff_getElem.1 hy
  have h1 : behK k (k x) (l[j]'(by omega)) = false := by
    simpa using List.not_of_lt_findIdx (p := behK k (k x)) (xs := l) (i := j) (by omega)
  rcases ltP_tri (k (l[j]'(by omega))) (k x) with h2 | h2 | h2
  · exact h2
  · exact absurd h2 (hasK_false h _ (List.getElem_mem _))
  · rw [behK, decide_eq_true h2] at h1; cases h1

theorem dropK_gt {l : List α} {x : α} (hs : SrtK k l) : ∀ y ∈ l.drop (l.findIdx (behK k (k x))), ltP (k x) (k y) := by
  intro y hy
  obtain ⟨j, hj, rfl⟩ := List.mem_drop_iff_getElem.1 hy
  have hlt : l.findIdx (behK k (k x)) < l.length := by omega
  have h0 : ltP (k x) (k (l[l.findIdx (behK k (k x))]'hlt)) := by
    have : behK k (k x) (l[l.findIdx (behK k (k x))]'hlt) = true := List.findIdx_getElem
    simpa [behK] using this
  cases j with
  | zero => exact h0
  | succ j => exact ltP_trans h0 (List.pairwise_iff_getElem.1 hs _ _ hlt (by omega) (by omega))

theorem srtK_ins {l : List α} {x : α} (hs : SrtK k l) (h : hasK k l (k x) = false) : SrtK k (insK k l x) := by
  unfold insK
  show List.Pairwise _ _
  rw [List.pairwise_append, List.pairwise_cons]
  refine ⟨hs.sublist (List.take_sublist _ _), ⟨dropK_gt hs, hs.sublist (List.drop_sublist _ _)⟩, fun y hy z hz => ?_⟩
  have h1 := takeK_lt h y hy
  rcases List.mem_cons.1 hz with rfl | hz
  · exact h1
  · exact ltP_trans h1 (dropK_gt hs z hz)

theorem srtK_ext : ∀ {l m : List α}, SrtK k l → SrtK k m → (∀ x, x ∈ l ↔ x ∈ m) → l = m
  | [], [], _, _, _ => rfl
  | [], y :: m, _, _, h => by have := (h y).2 (by simp); simp at this
  | x :: l, [], _, _, h => by have := (h x).1 (by simp); simp at this
  | x :: l, y :: m, hl, hm, h => by
    obtain ⟨hl1, hl2⟩ := List.pairwise_cons.1 hl
    obtain ⟨hm1, hm2⟩ := List.pairwise_cons.1 hm
    have hxy : x = y := by
      have h1 := (h x).1 (by simp)
      have h2 := (h y).2 (by simp)
      rcases List.mem_cons.1 h1 with h1 | h1
      · exact h1
      · rcases List.mem_cons.1 h2 with h2 | h2
        · exact h2.symm
        · exact (ltP_irrefl (ltP_trans (hm1 x h1) (hl1 y h2))).elim
    subst hxy
    congr 1
    refine srtK_ext hl2 hm2 fun z => ⟨fun hz => ?_, fun hz => ?_⟩
    · rcases List.mem_cons.1 ((h z).1 (by simp [hz])) with h1 | h1
      · subst h1; exact (ltP_irrefl (hl1 z hz)).elim
      · exact h1
    · rcases List.mem_cons.1 ((h z).2 (by simp [hz])) with h1 | h1
      · subst h1; exact (ltP_irrefl (hm1 z hz)).elim
      · exact h1
end

theorem hasL_K (L : List LT) (a b : Int) : hasL L a b = hasK kL L (a, b) := by
  unfold hasL hasK
  congr 1
  funext x
  simp [isL, isK, kL, Prod.ext_iff]

/-! what the program makes of lists -/
/-- those that still are -/
def cleanH (H : List HT) (now : Int) : List HT := H.filter fun x => !decide (x.2.2 ≤ now)
/-- a block held back -/
def holdH (H : List HT) (x : HT) : List HT := insK kH (H.filter fun y => !decide (kH y = kH x)) x
/-- a lease put -/
def putL (L : List LT) (x : LT) : List LT × Bool := if hasL L x.2.1 x.2.2.1 = true ∨ 32 ≤ L.length then (L, false) else (insK kL L x, true)
/-- .. and taken away -/
def delL (L : List LT) (a b : Int) : List LT := L.eraseIdx (L.findIdx (isL a b))
/-- all as if used at a tick -/
def useL (L : List LT) (now : Int) : List LT := L.map fun x => (x.1, (x.2.1, (x.2.2.1, (x.2.2.2.1, now))))
/-- a state as if all were used at a tick -/
def settleS (s : ST) (now : Int) : ST := (s.1, (s.2.1, (now, (s.2.2.2.1, (useL s.2.2.2.2.1 now, cleanH s.2.2.2.2.2 now)))))
def CanSettle (s : ST) (now : Int) : Prop := MayS s ∧ s.2.2.1 ≤ now ∧ now ≤ 1073741824
noncomputable instance (s : ST) (now : Int) : Decidable (CanSettle s now) := Classical.propDecidable _
noncomputable def settle (s : ST) (now : Int) : ST × Bool := if CanSettle s now then (settleS s now, true) else (s, false)

theorem compact_sorted (d : Array Int) (hs : ∀ i j, i ≤ j → j < d.size → d[i]! ≤ d[j]!) : ∀ m, m ≤ d.size →
    (Lib.compactUpTo d m).Pairwise (· < ·) ∧ ∀ x, x ∈ Lib.compactUpTo d m ↔ ∃ j, j < m ∧ d[j]! = x
  | 0, _ => by simp [Lib.compactUpTo]
  | m + 1, hm => by
    obtain ⟨h1, h2⟩ := compact_sorted d hs m (by omega)
    rw [Lib.compactUpTo_succ]
    cases hk : Lib.keeps d m with
    | true =>
      simp only [if_true]
      have hlt : ∀ x ∈ Lib.compactUpTo d m, x < d[m]! := by
        intro x hx
        obtain ⟨j, hj, rfl⟩ := (h2 x).1 hx
        have e1 := hs j (m - 1) (by omega) (by omega)
        have e2 := hs (m - 1) m (by omega) (by omega)
        have e3 : d[m]! ≠ d[m - 1]! := by
          intro he
          rw [Lib.keeps_neg (by omega) he] at hk
          cases hk
        omega
      refine ⟨List.pairwise_append.2 ⟨h1, List.pairwise_singleton _ _, fun x hx y hy => ?_⟩, fun x => ?_⟩
      · rw [List.mem_singleton] at hy; subst hy; exact hlt x hx
      · rw [List.mem_append, List.mem_singleton, h2]
        constructor
        · rintro (⟨j, hj, h⟩ | h)
          · exact ⟨j, by omega, h⟩
          · exact ⟨m, by omega, h.symm⟩
        · rintro ⟨j, hj, h⟩
          rcases Nat.lt_or_ge j m with h' | h'
          · exact .inl ⟨j, h', h⟩
          · have : j = m := by omega
            subst this; exact .inr h.symm
    | false =>
      simp only [Bool.false_eq_true, if_false, List.append_nil]
      refine ⟨h1, fun x => ?_⟩
      rw [h2]
      constructor
      · rintro ⟨j, hj, h⟩; exact ⟨j, by omega, h⟩
      · rintro ⟨j, hj, h⟩
        rcases Nat.lt_or_ge j m with h' | h'
        · exact ⟨j, h', h⟩
        · have : j = m := by omega
          subst this
          rcases Nat.eq_zero_or_pos j with h0 | h0
          · subst h0; rw [Lib.keeps_lt_one d 0 (by omega)] at hk; cases hk
          · refine ⟨j - 1, by omega, ?_⟩
            by_cases he : d[j]! = d[j - 1]!
            · rw [← he]; exact h
            · rw [Lib.keeps_pos he] at hk; cases hk

def busyL (l : List LT) : List Int := Lib.compact ((l.map (·.2.1)).mergeSort fun x y => decide (x ≤ y))

theorem busy_ok (l : List LT) : (busyL l).Pairwise (· < ·) ∧ ∀ x, x ∈ busyL l ↔ ∃ y ∈ l, y.2.1 = x := by
  unfold busyL Lib.compact
  have hp := List.pairwise_mergeSort (le := fun x y : Int => decide (x ≤ y)) (fun a b c h1 h2 => by simp only [decide_eq_true_eq] at *; omega) (fun a b => by simp only [Bool.or_eq_true, decide_eq_true_eq]; omega) (l.map (·.2.1))
  have hm := fun x => List.mem_mergeSort (a := x) (l := l.map (·.2.1)) (le := fun x y : Int => decide (x ≤ y))
  generalize ((l.map (·.2.1)).mergeSort fun x y => decide (x ≤ y)) = zs at hp hm
  have hg : ∀ j, j < zs.length → zs.toArray[j]! = zs.getD j 0 := fun j hj => by simp [hj]
  obtain ⟨h1, h2⟩ := compact_sorted zs.toArray (fun i j hij hj => by
    have hj' : j < zs.length := by simpa using hj
    rcases Nat.lt_or_ge i j with h | h
    · have := List.pairwise_iff_getElem.1 hp i j (by omega) hj' h
      simp only [decide_eq_true_eq] at this
      simpa [hj', show i < zs.length by omega] using this
    · have : i = j := by omega
      subst this; exact Int.le_refl _) zs.length (by simp)
  refine ⟨h1, fun x => ?_⟩
  rw [h2]
  have e : (∃ j, j < zs.length ∧ zs.toArray[j]! = x) ↔ x ∈ zs := by
    rw [List.mem_iff_getElem]
    constructor
    · rintro ⟨j, hj, h⟩; exact ⟨j, hj, by simpa [hj] using h⟩
    · rintro ⟨j, hj, h⟩; exact ⟨j, hj, by simpa [hj] using h⟩
  rw [e, hm]
  simp


theorem cleanH_idem (H : List HT) (now : Int) : cleanH (cleanH H now) now = cleanH H now := by
  unfold cleanH
  rw [List.filter_filter]
  simp

theorem useL_idem (L : List LT) (now : Int) : useL (useL L now) now = useL L now := by
  unfold useL
  rw [List.map_map]; rfl

theorem useL_len (L : List LT) (now : Int) : (useL L now).length = L.length := by unfold useL; rw [List.length_map]
theorem useL_cnt (L : List LT) (now s : Int) : cnt (useL L now) s = cnt L s := by
  unfold cnt useL
  rw [List.countP_map]; rfl
theorem useL_has (L : List LT) (now a b : Int) : hasL (useL L now) a b = hasL L a b := by
  unfold hasL useL
  rw [List.any_map]; rfl

/-- a state that may be may be, settled -/
theorem settle_may {s : ST} {now : Int} (h : CanSettle s now) : MayS (settleS s now) := by
  obtain ⟨M, h1, h2⟩ := h
  have hid := M.pol.2.1
  refine ⟨M.fit, M.pol, Int.le_trans M.now0 h1, h2, M.pools, ⟨fun x hx => ?_, fun x hx => ?_, ?_⟩, ?_, ⟨fun x hx => ?_, ?_⟩⟩
  · obtain ⟨y, hy, rfl⟩ := List.mem_map.1 hx
    have := M.leases.each y hy
    exact ⟨this.sub, this.blk, this.pool, this.pair, this.from0, by have a := this.last1; have b := this.last2; exact Int.le_trans a (Int.le_trans b h1), Int.le_refl _, by show now - s.2.1.2.1 < now; omega⟩
  · obtain ⟨y, hy, rfl⟩ := List.mem_map.1 hx
    show ((cnt (useL s.2.2.2.2.1 now) y.1 : Nat) : Int) ≤ s.2.1.1
    rw [useL_cnt]
    exact M.leases.quota y hy
  · exact List.Pairwise.map _ (fun _ _ h => h) M.leases.srt
  · show (useL s.2.2.2.2.1 now).length ≤ 32
    rw [useL_len]; exact M.len
  · have hx' : x ∈ s.2.2.2.2.2.filter fun x => !decide (x.2.2 ≤ now) := hx
    rw [List.mem_filter] at hx'
    obtain ⟨hx1, hx2⟩ := hx'
    have := M.helds.each x hx1
    have hlt : ¬ x.2.2 ≤ now := by simpa using hx2
    refine ⟨this.blk, by show now + 1 ≤ x.2.2; omega, Int.le_trans this.till2 (by show s.2.2.1 + 1048576 ≤ now + 1048576; omega), ?_⟩
    show hasL (useL s.2.2.2.2.1 now) x.1 x.2.1 = false
    rw [useL_has]; exact this.free
  · exact M.helds.srt.sublist List.filter_sublist

theorem settle_twice {s : ST} {now : Int} (h : CanSettle s now) : settle (settleS s now) now = (settleS s now, true) := by
  have h' : CanSettle (settleS s now) now := ⟨settle_may h, Int.le_refl _, h.2.2⟩
  unfold settle
  rw [if_pos h']
  unfold settleS
  simp only [useL_idem, cleanH_idem]

/-- settled at its own tick, of what was used then, it is what it was -/
theorem settle_same {s : ST} (M : MayS s) (h : ∀ x ∈ s.2.2.2.2.1, x.2.2.2.2 = s.2.2.1) : settleS s s.2.2.1 = s := by
  obtain ⟨D, p, now, P, L, H⟩ := s
  unfold settleS
  have e1 : useL L now = L := by
    unfold useL
    conv => rhs; rw [← List.map_id L]
    refine List.map_congr_left fun x hx => ?_
    have : x.2.2.2.2 = now := h x hx
    obtain ⟨x1, x2, x3, x4, x5⟩ := x
    simp only at this
    rw [this]; rfl
  have e2 : cleanH H now = H := by
    unfold cleanH
    rw [List.filter_eq_self]
    intro x hx
    have : now + 1 ≤ x.2.2 := (M.helds.each x hx).till1
    simp; omega
  simp only [e1, e2]
end Go.Proofs.Zz
