/- Plain laws of chapter 21: what a mapping's functions come to. -/
import Derived.Test.YtojkjedljhjleaaGreatDoorP21a
namespace Go.Proofs.Zz
open Go Go.Sy
set_option linter.unusedSimpArgs false
set_option linter.unusedVariables false

theorem f53_eq (a b c : Int) : f53 a b c = some (decide (b ≤ a) && decide (a ≤ c), ()) := by
  unfold f53
  cases decide (b ≤ a) <;> rfl

theorem f29_eq (a b c : Int) : f29 a b c = some (decide (b ≤ a) && decide (a ≤ c), ()) := by
  unfold f29
  cases decide (b ≤ a) <;> rfl

theorem sizeI_bound (b k : Int) : 0 ≤ sizeI b k ∧ sizeI b k ≤ 4294967296 := by
  unfold sizeI
  split
  · rename_i h
    have := szI_pos k
    have := szI_le h.1
    omega
  · omega

/-- how many subscribers share an address -/
def ratI (x y : Int) : Int := (x - 1) / y + 1

theorem f49_fit {a b c d e f g h : Int} (hx : 1 ≤ sizeI a b) (hy : 1 ≤ sizeI c d) : f49 a b c d e f g h = some (ratI (sizeI a b) (sizeI c d), ()) := by
  unfold f49
  rw [f34_eq, f34_eq]
  simp only [Option.bind_some]
  have hx2 := (sizeI_bound a b).2
  generalize sizeI a b = x at hx hx2 ⊢
  generalize sizeI c d = y at hy ⊢
  have : (cond (decide (y < x)) y x) ≠ 0 := by
    by_cases h : y < x
    · rw [decide_eq_true h]; show y ≠ 0; omega
    · rw [decide_eq_false h]; show x ≠ 0; omega
  rw [decide_eq_false this, decide_eq_false (show ¬ y = 0 by omega)]
  simp only [Bool.not_false, cond_true, cond_false]
  have e1 : IntKind.wrap .i64 (x - 1) = x - 1 := w64 (by omega) (by omega)
  have h1 : 0 ≤ (x - 1) / y := Int.ediv_nonneg (by omega) (by omega)
  have h2 : (x - 1) / y ≤ x - 1 := Int.ediv_le_self _ (by omega)
  have e2 : Int.tdiv (x - 1) y = (x - 1) / y := Int.tdiv_eq_ediv_of_nonneg (by omega)
  rw [e1, e2, w64 (x := (x - 1) / y) (by omega) (by omega), w64 (x := (x - 1) / y + 1) (by omega) (by omega)]
  rfl

theorem f49_some (a b c d e f g h : Int) : ∃ r, f49 a b c d e f g h = some (r, ()) := by
  unfold f49
  rw [f34_eq, f34_eq]
  simp only [Option.bind_some]
  have h1 := (sizeI_bound a b).1
  have h2 := (sizeI_bound c d).1
  generalize sizeI a b = x at h1 ⊢
  generalize sizeI c d = y at h2 ⊢
  by_cases hy : y = 0
  · subst hy
    have : (cond (decide ((0 : Int) < x)) 0 x) = 0 := by
      by_cases hx : (0 : Int) < x
      · rw [decide_eq_true hx]; rfl
      · rw [decide_eq_false hx]; show x = 0; omega
    rw [decide_eq_true this]
    exact ⟨_, rfl⟩
  · rw [decide_eq_false hy]
    cases decide ((cond (decide (y < x)) y x) = 0) <;> exact ⟨_, rfl⟩

/-- a mapping that may be -/
structure FitP (a b c d e f g h : Int) : Prop where
  x1 : 1 ≤ sizeI a b
  x2 : sizeI a b ≤ 32
  y1 : 1 ≤ sizeI c d
  y2 : sizeI c d ≤ 4
  lo1 : 1 ≤ e
  lo2 : e ≤ f
  hi : f ≤ 65535
  g1 : 0 ≤ g
  g2 : g ≤ f - e
  h1 : 1 ≤ h
  h2 : h ≤ 65535
  blk : g / h ≤ 8
  sh : ratI (sizeI a b) (sizeI c d) ≤ f - e + 1 - g

theorem f60_eq {e f g : Int} (h1 : 1 ≤ e) (h2 : e ≤ f) (h3 : f ≤ 65535) (h4 : 0 ≤ g) (h5 : g ≤ f - e) (a b c d h : Int) : f60 a b c d e f g h = some (f - e + 1 - g, ()) := by
  unfold f60
  rw [w64 (x := f - e) (by omega) (by omega), w64 (x := f - e + 1) (by omega) (by omega), w64 (by omega) (by omega)]

theorem f27_ok (a b c d e f g h : Int) : ∃ r, f27 a b c d e f g h = some (r, ()) ∧ (r = true → FitP a b c d e f g h) := by
  obtain ⟨q, hq⟩ := f49_some a b c d e f g h
  unfold f27
  rw [f34_eq, f34_eq]
  simp only [Option.bind_some, f53_eq, f56_eq, hq]
  by_cases c1 : 1 ≤ sizeI a b ∧ sizeI a b ≤ 32
  · rw [decide_eq_true c1.1, decide_eq_true c1.2]
    by_cases c2 : 1 ≤ sizeI c d ∧ sizeI c d ≤ 4
    · rw [decide_eq_true c2.1, decide_eq_true c2.2]
      simp only [Bool.and_self, cond_true, Bool.not_true, cond_false, Bool.not_not]
      cases decide (MeetP a b c d) with
      | true => exact ⟨_, rfl, fun h => by simp at h⟩
      | false =>
        simp only [cond_false]
        by_cases c3 : 1 ≤ e ∧ e ≤ f
        · rw [decide_eq_true c3.1, decide_eq_true c3.2]
          simp only [Bool.and_self, cond_true]
          by_cases c4 : f ≤ 65535
          · rw [decide_eq_true c4, w64 (x := f - e) (by omega) (by omega)]
            simp only [Bool.not_true, cond_false]
            by_cases c6 : 0 ≤ g ∧ g ≤ f - e
            · rw [decide_eq_true c6.1, decide_eq_true c6.2]
              simp only [Bool.and_self, cond_true]
              by_cases c7 : 1 ≤ h ∧ h ≤ 65535
              · rw [decide_eq_true c7.1, decide_eq_true c7.2, decide_eq_false (show ¬ h = 0 by omega)]
                simp only [Bool.and_self, cond_true, Bool.not_false]
                have e2 : Int.tdiv g h = g / h := Int.tdiv_eq_ediv_of_nonneg c6.1
                have p1 : 0 ≤ g / h := Int.ediv_nonneg c6.1 (by omega)
                have p2 : g / h ≤ g := Int.ediv_le_self _ c6.1
                rw [e2, w64 (by omega) (by omega)]
                by_cases c8 : g / h ≤ 8
                · rw [decide_eq_true c8, f60_eq c3.1 c3.2 c4 c6.1 c6.2]
                  simp only [Bool.not_true, cond_false, Option.bind_some]
                  rw [f49_fit c1.1 c2.1, Option.some.injEq, Prod.mk.injEq] at hq
                  obtain ⟨hq, _⟩ := hq
                  by_cases c9 : q ≤ f - e + 1 - g
                  · rw [decide_eq_true c9]
                    exact ⟨_, rfl, fun _ => ⟨c1.1, c1.2, c2.1, c2.2, c3.1, c3.2, c4, c6.1, c6.2, c7.1, c7.2, c8, by rw [hq]; exact c9⟩⟩
                  · rw [decide_eq_false c9]
                    exact ⟨_, rfl, fun h => by simp at h⟩
                · rw [decide_eq_false c8]
                  exact ⟨_, rfl, fun h => by simp at h⟩
              · have : (decide (1 ≤ h) && decide (h ≤ 65535)) = false := by rw [Bool.and_eq_false_iff, decide_eq_false_iff_not, decide_eq_false_iff_not]; omega
                rw [this]
                exact ⟨_, rfl, fun h => by simp at h⟩
            · have : (decide (0 ≤ g) && decide (g ≤ f - e)) = false := by rw [Bool.and_eq_false_iff, decide_eq_false_iff_not, decide_eq_false_iff_not]; omega
              rw [this]
              exact ⟨_, rfl, fun h => by simp at h⟩
          · rw [decide_eq_false c4]
            exact ⟨_, rfl, fun h => by simp at h⟩
        · have : (decide (1 ≤ e) && decide (e ≤ f)) = false := by rw [Bool.and_eq_false_iff, decide_eq_false_iff_not, decide_eq_false_iff_not]; omega
          rw [this]
          exact ⟨_, rfl, fun h => by simp at h⟩
    · have : (decide (1 ≤ sizeI c d) && decide (sizeI c d ≤ 4)) = false := by rw [Bool.and_eq_false_iff, decide_eq_false_iff_not, decide_eq_false_iff_not]; omega
      rw [this]
      exact ⟨_, rfl, fun h => by simp at h⟩
  · have : (decide (1 ≤ sizeI a b) && decide (sizeI a b ≤ 32)) = false := by rw [Bool.and_eq_false_iff, decide_eq_false_iff_not, decide_eq_false_iff_not]; omega
    rw [this]
    exact ⟨_, rfl, fun h => by simp at h⟩

/-- is it a mapping? -/
noncomputable def fitB (a b c d e f g h : Int) : Bool := match f27 a b c d e f g h with
  | some (r, _) => r
  | none => false

theorem f27_eq (a b c d e f g h : Int) : f27 a b c d e f g h = some (fitB a b c d e f g h, ()) := by
  obtain ⟨r, h1, h2⟩ := f27_ok a b c d e f g h
  unfold fitB
  rw [h1]

theorem fitB_spec {a b c d e f g h : Int} (hf : fitB a b c d e f g h = true) : FitP a b c d e f g h := by
  obtain ⟨r, h1, h2⟩ := f27_ok a b c d e f g h
  refine h2 ?_
  unfold fitB at hf
  rw [h1] at hf
  exact hf

section
variable {a b c d e f g h : Int}

theorem FitP.rat1 (F : FitP a b c d e f g h) : 1 ≤ ratI (sizeI a b) (sizeI c d) ∧ ratI (sizeI a b) (sizeI c d) ≤ 32 := by
  unfold ratI
  have h1 : 0 ≤ (sizeI a b - 1) / sizeI c d := Int.ediv_nonneg (by have := F.x1; omega) (by have := F.y1; omega)
  have h2 : (sizeI a b - 1) / sizeI c d ≤ sizeI a b - 1 := Int.ediv_le_self _ (by have := F.x1; omega)
  have := F.x2
  omega

/-- ports of each -/
def eachI (a b c d e f g : Int) : Int := (f - e + 1 - g) / ratI (sizeI a b) (sizeI c d)

theorem FitP.each (F : FitP a b c d e f g h) : 1 ≤ eachI a b c d e f g ∧ ratI (sizeI a b) (sizeI c d) * eachI a b c d e f g ≤ f - e + 1 - g := by
  have hr := F.rat1
  have hs := F.sh
  unfold eachI
  generalize ratI (sizeI a b) (sizeI c d) = n at hr hs ⊢
  refine ⟨?_, Int.mul_ediv_self_le (by omega)⟩
  exact (Int.le_ediv_iff_mul_le (by omega)).2 (by omega)

theorem f50_fit (hf : fitB a b c d e f g h = true) : f50 a b c d e f g h = some (eachI a b c d e f g, ()) := by
  have F := fitB_spec hf
  have hr := F.rat1
  have he := F.each
  unfold f50
  rw [f27_eq, hf, f60_eq F.lo1 F.lo2 F.hi F.g1 F.g2, f49_fit F.x1 F.y1]
  simp only [Option.bind_some, Bool.not_true, cond_false]
  rw [decide_eq_false (show ¬ ratI (sizeI a b) (sizeI c d) = 0 by omega)]
  simp only [Bool.not_false, cond_true]
  have hs : 0 ≤ f - e + 1 - g := by have := F.g2; omega
  have p2 : (f - e + 1 - g) / ratI (sizeI a b) (sizeI c d) ≤ f - e + 1 - g := Int.ediv_le_self _ hs
  have e2 : Int.tdiv (f - e + 1 - g) (ratI (sizeI a b) (sizeI c d)) = eachI a b c d e f g := Int.tdiv_eq_ediv_of_nonneg hs
  unfold eachI at he e2 ⊢
  rw [e2, w64 (by omega) (by have := F.hi; have := F.lo1; have := F.g1; omega)]

/-- the ports of a subscriber -/
def baseFrom (a b c d e f g sub : Int) : Int := e + sub % ratI (sizeI a b) (sizeI c d) * eachI a b c d e f g
def baseI (a b c d e f g sub : Int) : Int × (Int × Int) := (sub / ratI (sizeI a b) (sizeI c d), (baseFrom a b c d e f g sub, baseFrom a b c d e f g sub + eachI a b c d e f g - 1))

noncomputable def isSub (a b c d e f g h sub : Int) : Bool := fitB a b c d e f g h && (decide (0 ≤ sub) && decide (sub < sizeI a b))

theorem FitP.base (F : FitP a b c d e f g h) {sub : Int} (h0 : 0 ≤ sub) (h1 : sub < sizeI a b) :
    0 ≤ sub / ratI (sizeI a b) (sizeI c d) ∧ sub / ratI (sizeI a b) (sizeI c d) < sizeI c d ∧ e ≤ baseFrom a b c d e f g sub ∧ baseFrom a b c d e f g sub + eachI a b c d e f g - 1 ≤ f - g ∧ 0 ≤ sub % ratI (sizeI a b) (sizeI c d) * eachI a b c d e f g := by
  have hr := F.rat1
  have he := F.each
  have hx := F.x2
  have hy1 := F.y1
  have hy2 := F.y2
  have hxy : sizeI a b ≤ sizeI c d * ratI (sizeI a b) (sizeI c d) := by
    unfold ratI
    generalize sizeI a b = x at h1 hx ⊢
    generalize sizeI c d = y at hy1 hy2 ⊢
    have : y = 1 ∨ y = 2 ∨ y = 3 ∨ y = 4 := by omega
    rcases this with rfl | rfl | rfl | rfl <;> omega
  unfold baseFrom
  generalize ratI (sizeI a b) (sizeI c d) = n at hr he hxy ⊢
  generalize eachI a b c d e f g = w at he ⊢
  have m0 := Int.emod_nonneg sub (show n ≠ 0 by omega)
  have m1 := Int.emod_lt_of_pos sub (show 0 < n by omega)
  have k0 : 0 ≤ sub % n * w := Int.mul_nonneg m0 (by omega)
  have k1 : (sub % n + 1) * w ≤ n * w := Int.mul_le_mul_of_nonneg_right (by omega) (by omega)
  rw [Int.add_mul, Int.one_mul] at k1
  refine ⟨Int.ediv_nonneg h0 (by omega), Int.ediv_lt_of_lt_mul (by omega) (by omega), by omega, by omega, k0⟩

theorem f21_eq (sub : Int) : f21 a b c d e f g h sub = some (if isSub a b c d e f g h sub then (baseI a b c d e f g sub, (true, ())) else ((0, (0, 0)), (false, ()))) := by
  unfold f21 isSub
  rw [f27_eq]
  simp only [Option.bind_some]
  cases hf : fitB a b c d e f g h with
  | false => rfl
  | true =>
    have F := fitB_spec hf
    simp only [Bool.not_true, cond_false, Bool.true_and]
    by_cases h0 : sub < 0
    · rw [decide_eq_true h0, decide_eq_false (show ¬ 0 ≤ sub by omega)]; rfl
    · rw [decide_eq_false h0, decide_eq_true (show 0 ≤ sub by omega), f34_eq]
      simp only [cond_false, Option.bind_some, Bool.true_and]
      by_cases h1 : sizeI a b ≤ sub
      · rw [decide_eq_true h1, decide_eq_false (show ¬ sub < sizeI a b by omega)]; rfl
      · rw [decide_eq_false h1, decide_eq_true (show sub < sizeI a b by omega), f49_fit F.x1 F.y1, f50_fit hf]
        simp only [cond_false, Option.bind_some, if_true]
        have hr := F.rat1
        have he := F.each
        obtain ⟨q1, q2, q3, q4, q5⟩ := F.base (sub := sub) (by omega) (by omega)
        rw [decide_eq_false (show ¬ ratI (sizeI a b) (sizeI c d) = 0 by omega)]
        simp only [Bool.not_false, cond_true]
        have t1 : Int.tdiv sub (ratI (sizeI a b) (sizeI c d)) = sub / ratI (sizeI a b) (sizeI c d) := Int.tdiv_eq_ediv_of_nonneg (by omega)
        have t2 : Int.tmod sub (ratI (sizeI a b) (sizeI c d)) = sub % ratI (sizeI a b) (sizeI c d) := Int.tmod_eq_emod_of_nonneg (by omega)
        have hy2 := F.y2
        have hhi := F.hi
        have hlo := F.lo1
        have hg := F.g1
        unfold baseI
        unfold baseFrom at q3 q4 ⊢
        rw [t1, t2]
        generalize sub % ratI (sizeI a b) (sizeI c d) * eachI a b c d e f g = k at q3 q4 q5 ⊢
        generalize eachI a b c d e f g = w at he q4 ⊢
        rw [w64 (x := sub / ratI (sizeI a b) (sizeI c d)) (by omega) (by omega), w64 (x := k) (by omega) (by omega), w64 (x := e + k) (by omega) (by omega), w64 (x := e + k + w) (by omega) (by omega), w64 (x := e + k + w - 1) (by omega) (by omega)]

theorem f13_eq : f13 a b c d e f g h = some (if fitB a b c d e f g h then g / h else 0, ()) := by
  unfold f13
  rw [f27_eq]
  simp only [Option.bind_some]
  cases hf : fitB a b c d e f g h with
  | false => rfl
  | true =>
    have F := fitB_spec hf
    have h1 := F.h1
    have g1 := F.g1
    simp only [Bool.not_true, cond_false]
    rw [decide_eq_false (show ¬ h = 0 by omega)]
    have e2 : Int.tdiv g h = g / h := Int.tdiv_eq_ediv_of_nonneg g1
    have p1 : 0 ≤ g / h := Int.ediv_nonneg g1 (by omega)
    have := F.blk
    rw [e2, w64 (by omega) (by omega)]
    rfl

noncomputable def isBlk (a b c d e f g h at' blk : Int) : Bool := fitB a b c d e f g h && (decide (0 ≤ at') && decide (at' < sizeI c d) && (decide (0 ≤ blk) && decide (blk < g / h)))

def blkI (f g h at' blk : Int) : Int × (Int × Int) := (at', (f - g + 1 + blk * h, f - g + 1 + blk * h + h - 1))

theorem FitP.block (F : FitP a b c d e f g h) {blk : Int} (h0 : 0 ≤ blk) (h1 : blk < g / h) : 0 ≤ blk * h ∧ blk * h + h ≤ g := by
  have hh := F.h1
  have k1 : (blk + 1) * h ≤ g / h * h := Int.mul_le_mul_of_nonneg_right (by omega) (by omega)
  have k2 : g / h * h ≤ g := Int.ediv_mul_le _ (by omega)
  rw [Int.add_mul, Int.one_mul] at k1
  exact ⟨Int.mul_nonneg h0 (by omega), by omega⟩

theorem f23_eq (at' blk : Int) : f23 a b c d e f g h at' blk = some (if isBlk a b c d e f g h at' blk then (blkI f g h at' blk, (true, ())) else ((0, (0, 0)), (false, ()))) := by
  unfold f23 isBlk
  rw [f34_eq, f13_eq]
  simp only [Option.bind_some]
  by_cases h0 : at' < 0
  · rw [decide_eq_true h0, decide_eq_false (show ¬ 0 ≤ at' by omega), Bool.false_and, Bool.false_and, Bool.and_false]; rfl
  · rw [decide_eq_false h0, decide_eq_true (show 0 ≤ at' by omega)]
    simp only [cond_false, Bool.true_and]
    by_cases h1 : sizeI c d ≤ at'
    · rw [decide_eq_true h1, decide_eq_false (show ¬ at' < sizeI c d by omega), Bool.false_and, Bool.and_false]; rfl
    · rw [decide_eq_false h1, decide_eq_true (show at' < sizeI c d by omega)]
      simp only [cond_false, Bool.true_and]
      by_cases h2 : blk < 0
      · rw [decide_eq_true h2, decide_eq_false (show ¬ 0 ≤ blk by omega), Bool.false_and, Bool.and_false]; rfl
      · rw [decide_eq_false h2, decide_eq_true (show 0 ≤ blk by omega)]
        simp only [cond_false, Bool.true_and]
        cases hf : fitB a b c d e f g h with
        | false =>
          simp only [Bool.false_eq_true, if_false, Bool.false_and]
          rw [decide_eq_true (show (0 : Int) ≤ blk by omega)]; rfl
        | true =>
          simp only [if_true, Bool.true_and]
          by_cases h3 : g / h ≤ blk
          · rw [decide_eq_true h3, decide_eq_false (show ¬ blk < g / h by omega)]; rfl
          · rw [decide_eq_false h3, decide_eq_true (show blk < g / h by omega)]
            have F := fitB_spec hf
            obtain ⟨q1, q2⟩ := F.block (blk := blk) (by omega) (by omega)
            have := F.g2
            have := F.hi
            have := F.lo1
            have := F.h1
            have := F.g1
            simp only [cond_false, if_true]
            unfold blkI
            generalize blk * h = k at q1 q2 ⊢
            rw [w64 (x := k) (by omega) (by omega), w64 (x := f - g) (by omega) (by omega), w64 (x := f - g + 1) (by omega) (by omega), w64 (x := f - g + 1 + k) (by omega) (by omega), w64 (x := f - g + 1 + k + h) (by omega) (by omega), w64 (x := f - g + 1 + k + h - 1) (by omega) (by omega)]
end
end Go.Proofs.Zz
