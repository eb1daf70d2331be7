/- Itl, It2, M1, Itd, M2, M3, M6, M7, M8, M9. -/
import Derived.Test.YtpopildnbgbhlaaGreatDoorFD
import Derived.IntWalk
import Derived.Sort.OwnSortedInts
import Derived.Shelf.Slices.CompactI
import Derived.Lib.RowBridge
import Derived.Lib.TrailingZeros
namespace Go.Sy
open Go
set_option linter.unusedSimpArgs false
set_option linter.unusedVariables false
section
variable {α β γ : Type} {f : α → Option (R3 α β γ)}
theorem it_next {n : Nat} {x x' : α} (h : f x = some (.next x')) : iter (n + 1) f x = iter n f x' := by rw [iter, h]
theorem it_out {n : Nat} {x : α} {y : β} (h : f x = some (.out y)) : iter (n + 1) f x = some (.inl y) := by rw [iter, h]
theorem it_ret {n : Nat} {x : α} {y : γ} (h : f x = some (.ret y)) : iter (n + 1) f x = some (.inr y) := by rw [iter, h]
theorem it_mono : ∀ {k n : Nat}, k ≤ n → ∀ {x : α} {r : Sum β γ}, iter k f x = some r → iter n f x = some r
 | 0, _, _, x, r, h => by simp [iter] at h
 | k + 1, 0, hk, _, _, _ => by omega
 | k + 1, n + 1, hk, x, r, h => by
  unfold iter at h ⊢
  split at h
  ·exact it_mono (by omega) h
  ·exact h
  ·exact h
  ·simp at h
theorem it_inv (I : α → Prop) (m : α → Nat) (Q : Sum β γ → Prop)
  (step : ∀ x, I x → (∃ x', f x = some (.next x') ∧ I x' ∧ m x' < m x) ∨ (∃ y, f x = some (.out y) ∧ Q (.inl y)) ∨ ∃ y, f x = some (.ret y) ∧ Q (.inr y)) :
  ∀ (n : Nat) (x : α), I x → m x < n → ∃ r, iter n f x = some r ∧ Q r
 | 0, _, _, h => by omega
 | n + 1, x, hI, hm => by
  rcases step x hI with ⟨x', h1, h2, h3⟩ | ⟨y, h1, h2⟩ | ⟨y, h1, h2⟩
  ·rw [it_next h1]; exact it_inv I m Q step n x' h2 (by omega)
  ·exact ⟨_, it_out h1, h2⟩
  ·exact ⟨_, it_ret h1, h2⟩
end
theorem w64 {x : Int} (h1 : -9223372036854775808 ≤ x) (h2 : x ≤ 9223372036854775807) : IntKind.wrap .i64 x = x := IntWalk.i64_in _ ⟨h1, h2⟩
theorem bv_ofInt {n : Nat} (h : n < 2 ^ 64) : (BitVec.ofInt 64 (n : Int)).toNat = n := by
 simp [BitVec.toNat_ofInt]; omega
theorem b_and {a b : Nat} (ha : a < 2 ^ 63) (hb : b < 2 ^ 63) : bitop .and .i64 (a : Int) (b : Int) = ((a &&& b : Nat) : Int) := by
 have h : a &&& b ≤ a := Nat.and_le_left
 show IntKind.wrap .i64 ((BitVec.ofInt 64 (a : Int) &&& BitVec.ofInt 64 (b : Int)).toNat : Int) = _
 rw [BitVec.toNat_and, bv_ofInt (by omega), bv_ofInt (by omega), w64 (by omega) (by omega)]
theorem b_xor {a b : Nat} (ha : a < 2 ^ 63) (hb : b < 2 ^ 63) : bitop .xor .i64 (a : Int) (b : Int) = ((a ^^^ b : Nat) : Int) := by
 have h : a ^^^ b < 2 ^ 63 := Nat.xor_lt_two_pow ha hb
 show IntKind.wrap .i64 ((BitVec.ofInt 64 (a : Int) ^^^ BitVec.ofInt 64 (b : Int)).toNat : Int) = _
 rw [BitVec.toNat_xor, bv_ofInt (by omega), bv_ofInt (by omega), w64 (by omega) (by omega)]
theorem b_and_mask {a m : Nat} (ha : a < 2 ^ 63) (hm : m < 63) : bitop .and .i64 (a : Int) (((2 ^ m : Nat) : Int) - 1) = ((a % 2 ^ m : Nat) : Int) := by
 have h1 : 1 ≤ 2 ^ m := Nat.one_le_two_pow
 have h2 : 2 ^ m ≤ 2 ^ 62 := Nat.pow_le_pow_right (by omega) (by omega)
 have e : ((2 ^ m : Nat) : Int) - 1 = ((2 ^ m - 1 : Nat) : Int) := by omega
 rw [e, b_and ha (by omega), Nat.and_two_pow_sub_one_eq_mod]
theorem fdiv_pow (a m : Nat) : Int.fdiv (a : Int) ((2 : Int) ^ m) = ((a / 2 ^ m : Nat) : Int) := by
 rw [show ((2 : Int) ^ m) = ((2 ^ m : Nat) : Int) by simp, Int.fdiv_eq_ediv_of_nonneg _ (Int.natCast_nonneg _)]; rfl
variable {α β γ δ : Type} {u : α → Option (R3 α β γ)}
theorem rd_lt {e : Ty} {xs : List e.T} {i : Nat} (h : i < List.length xs) : rd e xs i = xs[i] := by
 unfold rd
 exact (List.getElem_eq_getD _).symm
theorem it_all (st : Nat → α) {n : Nat} {y : β} (hs : ∀ j, j < n → u (st j) = some (.next (st (j + 1)))) (he : u (st n) = some (.out y)) :
  ∀ (k fuel : Nat), k ≤ n → n - k < fuel → iter fuel u (st k) = some (.inl y)
 | k, 0, _, h => by omega
 | k, fuel + 1, hk, h => by
  rcases Nat.lt_or_ge k n with hlt | hge
  ·rw [it_next (hs k hlt)]
   exact it_all st hs he (k + 1) fuel (by omega) (by omega)
  ·have : k = n := by omega
   subst this
   exact it_out he
theorem it_first (st : Nat → α) {n : Nat} {y : γ} (hs : ∀ j, j < n → u (st j) = some (.next (st (j + 1)))) (he : u (st n) = some (.ret y)) :
  ∀ (k fuel : Nat), k ≤ n → n - k < fuel → iter fuel u (st k) = some (.inr y)
 | k, 0, _, h => by omega
 | k, fuel + 1, hk, h => by
  rcases Nat.lt_or_ge k n with hlt | hge
  ·rw [it_next (hs k hlt)]
   exact it_first st hs he (k + 1) fuel (by omega) (by omega)
  ·have : k = n := by omega
   subst this
   exact it_ret he
theorem it_any (st : Nat → α) (p : Nat → Bool) {n : Nat} {y : β} {z : γ} (hs : ∀ j, j < n → u (st j) = cond (p j) (some (.ret z)) (some (.next (st (j + 1))))) (he : u (st n) = some (.out y)) :
  ∀ (k fuel : Nat), k ≤ n → n - k < fuel → iter fuel u (st k) = some (cond ((List.range' k (n - k)).any p) (.inr z) (.inl y))
 | k, 0, _, h => by omega
 | k, fuel + 1, hk, h => by
  rcases Nat.lt_or_ge k n with hlt | hge
  ·have e : n - k = (n - (k + 1)) + 1 := by omega
   rw [e, List.range'_succ, List.any_cons]
   have h1 := hs k hlt
   cases hp : p k with
   | true => rw [hp] at h1; rw [it_ret h1]; rfl
   | false =>
    rw [hp] at h1
    rw [it_next h1, it_any st p hs he (k + 1) fuel (by omega) (by omega)]
    rfl
  ·have : k = n := by omega
   subst this
   rw [Nat.sub_self, it_out he]; rfl
theorem it_idx (l : List δ) (q : δ → Bool) (st : Nat → α) (r : Nat → γ) {y : β} (hs : ∀ j (h : j < l.length), u (st j) = cond (q l[j]) (some (.ret (r j))) (some (.next (st (j + 1))))) (he : u (st l.length) = some (.out y)) {fuel : Nat} (hf : l.length < fuel) :
  iter fuel u (st 0) = some (if l.findIdx q < l.length then .inr (r (l.findIdx q)) else .inl y) := by
 by_cases hlt : l.findIdx q < l.length
 ·rw [if_pos hlt]
  refine it_first st (n := l.findIdx q) (fun j hj => ?_) ?_ 0 fuel (Nat.zero_le _) (by omega)
  ·rw [hs j (by omega)]
   have : q (l[j]'(by omega)) = false := by simpa using List.not_of_lt_findIdx hj
   rw [this]; rfl
  ·rw [hs _ hlt]
   have : q (l[l.findIdx q]'hlt) = true := List.findIdx_getElem
   rw [this]; rfl
 ·rw [if_neg hlt]
  refine it_all st (n := l.length) (fun j hj => ?_) he 0 fuel (Nat.zero_le _) (by omega)
  rw [hs j hj]
  have : q (l[j]'(by omega)) = false := by simpa using List.not_of_lt_findIdx (p := q) (xs := l) (i := j) (by omega)
  rw [this]; rfl
theorem any_range_eq {l m : List δ} [DecidableEq δ] (hl : l.length = m.length) (p : Nat → Bool) (hp : ∀ j (h : j < l.length), p j = !decide (l[j] = m[j]'(by omega))) : (List.range' 0 (l.length - 0)).any p = !decide (l = m) := by
 by_cases h : l = m
 ·subst h
  rw [decide_eq_true rfl]
  simp only [Bool.not_true, List.any_eq_false]
  intro j hj
  have hj := List.mem_range'_1.1 hj
  rw [hp j (by omega)]
  simp
 ·rw [decide_eq_false h]
  simp only [Bool.not_false, List.any_eq_true]
  apply Classical.byContradiction
  intro hn
  apply h
  apply List.ext_getElem hl
  intro j h1 h2
  apply Classical.byContradiction
  intro hne
  exact hn ⟨j, List.mem_range'_1.2 (by omega), by rw [hp j h1]; simp [hne]⟩
end Go.Sy
namespace Go.Proofs.Zz
open Go Go.Sy
set_option linter.unusedSimpArgs false
set_option linter.unusedVariables false
abbrev LT := Int × (Int × (Int × (Int × Int)))
abbrev HT := Int × (Int × Int)
abbrev DT := (Int × Int) × ((Int × Int) × (Int × (Int × (Int × Int))))
abbrev PT := Int × (Int × (Int × Bool))
abbrev ST := DT × (PT × (Int × (List HT × (List LT × List HT))))
noncomputable instance : DecidableEq ST := fun _ _ => Classical.propDecidable _
abbrev Sz {α : Type} (l : List α) : Prop := l.length ≤ 9223372036854775807
theorem ge0 (j : Nat) : decide (0 ≤ (j : Int)) = true := decide_eq_true (Int.natCast_nonneg j)
theorem ltn {j n : Nat} (h : j < n) : decide ((j : Int) < (n : Int)) = true := decide_eq_true (by omega)
theorem nlt (n : Nat) : decide ((n : Int) < (n : Int)) = false := decide_eq_false (by omega)
theorem nx {j n : Nat} (h : j < n) (hn : n ≤ 9223372036854775807) : IntKind.wrap .i64 ((j : Int) + 1) = ((j + 1 : Nat) : Int) := by rw [w64 (by omega) (by omega)]; omega
theorem rdL {l : List LT} {j : Nat} (h : j < l.length) : rd (.pair (.int .i64) (.pair (.int .i64) (.pair (.int .i64) (.pair (.int .i64) (.int .i64))))) l j = l[j] := rd_lt h
theorem rdH {l : List HT} {j : Nat} (h : j < l.length) : rd (.pair (.int .i64) (.pair (.int .i64) (.int .i64))) l j = l[j] := rd_lt h
theorem rdI {l : List Int} {j : Nat} (h : j < l.length) : rd (.int .i64) l j = l[j] := rd_lt h
theorem and_dec (p q : Prop) [Decidable p] [Decidable q] : (decide p && decide q) = decide (p ∧ q) := by simp
def szI (k : Int) : Int := ((2 ^ (32 - k).toNat : Nat) : Int)
def MayP (b k : Int) : Prop := 0 ≤ k ∧ k ≤ 32 ∧ 0 ≤ b ∧ b < 4294967296 ∧ b % szI k = 0
instance (b k : Int) : Decidable (MayP b k) := by unfold MayP; infer_instance
theorem szI_pos (k : Int) : 1 ≤ szI k := by unfold szI; have : 1 ≤ 2 ^ (32 - k).toNat := Nat.one_le_two_pow; omega
theorem szI_le {k : Int} (h : 0 ≤ k) : szI k ≤ 4294967296 := by
 unfold szI
 have : 2 ^ (32 - k).toNat ≤ 2 ^ 32 := Nat.pow_le_pow_right (by omega) (by omega)
 omega
theorem shl_sz {k : Int} (h0 : 0 ≤ k) (h1 : k ≤ 32) : IntKind.wrap .i64 (1 * ((2 : Int) ^ ((min (Int.toNat (IntKind.wrap .i64 (32 - k))) 64) : Nat))) = szI k := by
 rw [w64 (show -9223372036854775808 ≤ 32 - k by omega) (by omega), Nat.min_eq_left (by omega)]
 have := szI_le h0
 have := szI_pos k
 have e : (1 : Int) * ((2 : Int) ^ (32 - k).toNat) = szI k := by simp [szI]
 rw [e, w64 (by omega) (by omega)]
def sizeI (b k : Int) : Int := if MayP b k then szI k else 0
theorem sizeI_bound (b k : Int) : 0 ≤ sizeI b k ∧ sizeI b k ≤ 4294967296 := by
 unfold sizeI
 split
 ·rename_i h
  have := szI_pos k
  have := szI_le h.1
  omega
 ·omega
theorem szI_dvd {k : Int} (h : 0 ≤ k) : (4294967296 : Int) % szI k = 0 := by
 unfold szI
 have : (2 ^ (32 - k).toNat : Nat) ∣ 2 ^ 32 := Nat.pow_dvd_pow 2 (by omega)
 have h2 := Nat.mod_eq_zero_of_dvd this
 have : ((2 ^ 32 % 2 ^ (32 - k).toNat : Nat) : Int) = 0 := by rw [h2]; rfl
 simpa using this
theorem add_le_of_mod {b N m : Int} (hm : 0 < m) (hb : b % m = 0) (hN : N % m = 0) (h : b < N) : b + m ≤ N := by
 obtain ⟨x, rfl⟩ := Int.dvd_of_emod_eq_zero hb
 obtain ⟨y, rfl⟩ := Int.dvd_of_emod_eq_zero hN
 have : x < y := by
  rcases Int.lt_or_le x y with h' | h'
  ·exact h'
  ·have := Int.mul_le_mul_of_nonneg_left h' (Int.le_of_lt hm); omega
 have := Int.mul_le_mul_of_nonneg_left (show x + 1 ≤ y by omega) (Int.le_of_lt hm)
 rw [Int.mul_add, Int.mul_one] at this
 exact this
theorem may_room {b k : Int} (h : MayP b k) : b + szI k ≤ 4294967296 :=
 add_le_of_mod (by have := szI_pos k; omega) h.2.2.2.2 (szI_dvd h.1) h.2.2.2.1
def indexI (b k a : Int) : Int := if MayP b k ∧ b ≤ a ∧ a < b + szI k then a - b else -1
theorem xor_zero (a b : Nat) : a ^^^ b = 0 ↔ a = b := by
 constructor
 ·intro h
  have : (a ^^^ b) ^^^ b = 0 ^^^ b := by rw [h]
  rwa [Nat.xor_assoc, Nat.xor_self, Nat.xor_zero, Nat.zero_xor] at this
 ·intro h; rw [h, Nat.xor_self]
theorem div_same {n a m : Nat} (hm : 0 < m) (hn : n % m = 0) : a / m = n / m ↔ n ≤ a ∧ a < n + m := by
 obtain ⟨x, rfl⟩ := Nat.dvd_of_mod_eq_zero hn
 rw [Nat.mul_div_cancel_left _ hm]
 constructor
 ·intro h
  have h1 := Nat.div_mul_le_self a m
  have h2 := Nat.lt_div_mul_add hm (a := a)
  rw [h] at h1 h2
  rw [Nat.mul_comm m x]
  omega
 ·intro ⟨h1, h2⟩
  rw [Nat.mul_comm m x] at h1 h2
  rw [Nat.div_eq_iff hm]
  constructor
  ·omega
  ·omega
def MeetP (b k b' k' : Int) : Prop := MayP b k ∧ MayP b' k' ∧ ((b ≤ b' ∧ b' < b + szI k) ∨ (b' ≤ b ∧ b < b' + szI k'))
instance (b k b' k' : Int) : Decidable (MeetP b k b' k') := by unfold MeetP; infer_instance
theorem index_ne (b k a : Int) : indexI b k a ≠ -1 ↔ MayP b k ∧ b ≤ a ∧ a < b + szI k := by
 unfold indexI
 split
 ·rename_i h; constructor
  ·exact fun _ => h
  ·intro _; omega
 ·rename_i h; constructor
  ·exact fun h' => absurd rfl h'
  ·exact fun h' => absurd h' h
def ratI (x y : Int) : Int := (x - 1) / y + 1
def szX (D : DT) : Int := sizeI D.1.1 D.1.2
def szY (D : DT) : Int := sizeI D.2.1.1 D.2.1.2
abbrev loI (D : DT) : Int := D.2.2.1
abbrev hiI (D : DT) : Int := D.2.2.2.1
abbrev dynI (D : DT) : Int := D.2.2.2.2.1
abbrev wdI (D : DT) : Int := D.2.2.2.2.2
def rat (D : DT) : Int := ratI (szX D) (szY D)
def each (D : DT) : Int := (hiI D - loI D + 1 - dynI D) / rat D
def blks (D : DT) : Int := dynI D / wdI D
structure FitP (D : DT) : Prop where
 x1 : 1 ≤ szX D
 x2 : szX D ≤ 32
 y1 : 1 ≤ szY D
 y2 : szY D ≤ 4
 meet : ¬ MeetP D.1.1 D.1.2 D.2.1.1 D.2.1.2
 lo1 : 1 ≤ loI D
 lo2 : loI D ≤ hiI D
 hi : hiI D ≤ 65535
 g1 : 0 ≤ dynI D
 g2 : dynI D ≤ hiI D - loI D
 h1 : 1 ≤ wdI D
 h2 : wdI D ≤ 65535
 blk : blks D ≤ 8
 sh : rat D ≤ hiI D - loI D + 1 - dynI D
noncomputable instance (D : DT) : Decidable (FitP D) := Classical.propDecidable _
section
variable {D : DT}
theorem FitP.rat1 (F : FitP D) : 1 ≤ rat D ∧ rat D ≤ 32 := by
 unfold rat ratI
 have h1 : 0 ≤ (szX D - 1) / szY D := Int.ediv_nonneg (by have := F.x1; omega) (by have := F.y1; omega)
 have h2 : (szX D - 1) / szY D ≤ szX D - 1 := Int.ediv_le_self _ (by have := F.x1; omega)
 have := F.x2
 omega
theorem FitP.each1 (F : FitP D) : 1 ≤ each D ∧ rat D * each D ≤ hiI D - loI D + 1 - dynI D := by
 have hr := F.rat1
 have hs := F.sh
 unfold each
 generalize rat D = n at hr hs ⊢
 refine ⟨?_, Int.mul_ediv_self_le (by omega)⟩
 exact (Int.le_ediv_iff_mul_le (by omega)).2 (by omega)
def baseFrom (D : DT) (sub : Int) : Int := loI D + sub % rat D * each D
def baseI (D : DT) (sub : Int) : HT := (sub / rat D, (baseFrom D sub, baseFrom D sub + each D - 1))
def SubP (D : DT) (sub : Int) : Prop := FitP D ∧ 0 ≤ sub ∧ sub < szX D
noncomputable instance (sub : Int) : Decidable (SubP D sub) := Classical.propDecidable _
theorem FitP.base (F : FitP D) {sub : Int} (h0 : 0 ≤ sub) (h1 : sub < szX D) :
  0 ≤ sub / rat D ∧ sub / rat D < szY D ∧ loI D ≤ baseFrom D sub ∧ baseFrom D sub + each D - 1 ≤ hiI D - dynI D ∧ 0 ≤ sub % rat D * each D := by
 have hr := F.rat1
 have he := F.each1
 have hx := F.x2
 have hy1 := F.y1
 have hy2 := F.y2
 have hxy : szX D ≤ szY D * rat D := by
  unfold rat ratI
  generalize szX D = x at h1 hx ⊢
  generalize szY D = y at hy1 hy2 ⊢
  have : y = 1 ∨ y = 2 ∨ y = 3 ∨ y = 4 := by omega
  rcases this with rfl | rfl | rfl | rfl <;> omega
 unfold baseFrom
 generalize rat D = n at hr he hxy ⊢
 generalize each D = w at he ⊢
 have m0 := Int.emod_nonneg sub (show n ≠ 0 by omega)
 have m1 := Int.emod_lt_of_pos sub (show 0 < n by omega)
 have k0 : 0 ≤ sub % n * w := Int.mul_nonneg m0 (by omega)
 have k1 : (sub % n + 1) * w ≤ n * w := Int.mul_le_mul_of_nonneg_right (by omega) (by omega)
 rw [Int.add_mul, Int.one_mul] at k1
 refine ⟨Int.ediv_nonneg h0 (by omega), Int.ediv_lt_of_lt_mul (by omega) (by omega), by omega, by omega, k0⟩
def BlkP (D : DT) (at' blk : Int) : Prop := FitP D ∧ (0 ≤ at' ∧ at' < szY D) ∧ 0 ≤ blk ∧ blk < blks D
noncomputable instance (at' blk : Int) : Decidable (BlkP D at' blk) := Classical.propDecidable _
def blkI (D : DT) (at' blk : Int) : HT := (at', (hiI D - dynI D + 1 + blk * wdI D, hiI D - dynI D + 1 + blk * wdI D + wdI D - 1))
theorem FitP.block (F : FitP D) {blk : Int} (h0 : 0 ≤ blk) (h1 : blk < blks D) : 0 ≤ blk * wdI D ∧ blk * wdI D + wdI D ≤ dynI D := by
 have hh := F.h1
 have k1 : (blk + 1) * wdI D ≤ blks D * wdI D := Int.mul_le_mul_of_nonneg_right (by omega) (by omega)
 have k2 : blks D * wdI D ≤ dynI D := Int.ediv_mul_le _ (by omega)
 rw [Int.add_mul, Int.one_mul] at k1
 exact ⟨Int.mul_nonneg h0 (by omega), by omega⟩
end
def hasB (p : HT) (at' : Int) : Bool := decide (0 ≤ p.1) && (decide (p.1 ≤ 4) && (decide (1 ≤ p.2.1) && (decide (p.2.1 ≤ 4) && (decide (p.1 ≤ at') && decide (at' < p.1 + p.2.1)))))
def meetB (p q : HT) : Bool := decide (p.1 < q.1 + q.2.1) && decide (q.1 < p.1 + p.2.1)
def FitsP (p : HT) (out : Int) : Prop := 0 ≤ p.1 ∧ 1 ≤ p.2.1 ∧ p.1 < out ∧ p.2.1 ≤ out - p.1 ∧ 0 ≤ p.2.2 ∧ p.2.2 < 2
instance (p : HT) (out : Int) : Decidable (FitsP p out) := by unfold FitsP; infer_instance
structure PoolsP (l : List HT) (out : Int) : Prop where
 out0 : 0 ≤ out
 out4 : out ≤ 4
 len : l.length ≤ 3
 fits : ∀ p ∈ l, FitsP p out
 apart : l.Pairwise fun p q => meetB q p = false
noncomputable instance (l : List HT) (out : Int) : Decidable (PoolsP l out) := Classical.propDecidable _
def poolOf (P : List HT) (at' : Int) : Int := if P.findIdx (fun p => hasB p at') < P.length then ((P.findIdx (fun p => hasB p at') : Nat) : Int) else -1
def inB (P : List HT) (at' : Int) : Bool := P.any fun p => hasB p at'
theorem idx_none {α : Type} (l : List α) (q : α → Bool) : ((if l.findIdx q < l.length then ((l.findIdx q : Nat) : Int) else -1) = -1) ↔ l.any q = false := by
 have e : l.findIdx q < l.length ↔ ∃ x, x ∈ l ∧ q x = true := List.findIdx_lt_length
 split
 ·rename_i h
  have : l.any q = true := by rw [List.any_eq_true]; exact e.1 h
  rw [this]; constructor
  ·intro h; omega
  ·intro h; cases h
 ·rename_i h
  have : l.any q = false := by
   cases hb : l.any q with
   | false => rfl
   | true => rw [List.any_eq_true] at hb; exact absurd (e.2 hb) h
  rw [this]; simp
theorem poolOf_none (P : List HT) (at' : Int) : (poolOf P at' = -1) ↔ inB P at' = false := idx_none P _
def PolP (p : PT) : Prop := (1 ≤ p.1 ∧ p.1 ≤ 8) ∧ (1 ≤ p.2.1 ∧ p.2.1 ≤ 1048576) ∧ 0 ≤ p.2.2.1 ∧ p.2.2.1 ≤ 1048576
instance (p : PT) : Decidable (PolP p) := by unfold PolP; infer_instance
def ltB (x1 x2 y1 y2 : Int) : Prop := x1 < y1 ∨ (x1 = y1 ∧ x2 < y2)
instance (x1 x2 y1 y2 : Int) : Decidable (ltB x1 x2 y1 y2) := by unfold ltB; infer_instance
def ltL (x y : LT) : Prop := ltB x.2.1 x.2.2.1 y.2.1 y.2.2.1
def ltH (x y : HT) : Prop := ltB x.1 x.2.1 y.1 y.2.1
instance (x y : LT) : Decidable (ltL x y) := by unfold ltL; infer_instance
instance (x y : HT) : Decidable (ltH x y) := by unfold ltH; infer_instance
theorem ltB_trans {a b c d e f : Int} (h1 : ltB a b c d) (h2 : ltB c d e f) : ltB a b e f := by unfold ltB at *; omega
def cnt (L : List LT) (sub : Int) : Nat := L.countP fun x => decide (x.1 = sub)
abbrev isL (a b : Int) : LT → Bool := fun x => decide (x.2.1 = a) && decide (x.2.2.1 = b)
def findL (L : List LT) (a b : Int) : Int := if L.findIdx (isL a b) < L.length then ((L.findIdx (isL a b) : Nat) : Int) else -1
def hasL (L : List LT) (a b : Int) : Bool := L.any (isL a b)
theorem findL_none (L : List LT) (a b : Int) : (findL L a b = -1) ↔ hasL L a b = false := idx_none L _
structure LeaseOK (D : DT) (p : PT) (now : Int) (P : List HT) (x : LT) : Prop where
 sub : SubP D x.1
 blk : BlkP D x.2.1 x.2.2.1
 pool : inB P x.2.1 = true
 pair : p.2.2.2 = true → x.1 / rat D = x.2.1
 from0 : 0 ≤ x.2.2.2.1
 last1 : x.2.2.2.1 ≤ x.2.2.2.2
 last2 : x.2.2.2.2 ≤ now
 idle : now - p.2.1 < x.2.2.2.2
structure LeasesP (D : DT) (p : PT) (now : Int) (P : List HT) (L : List LT) : Prop where
 each : ∀ x ∈ L, LeaseOK D p now P x
 quota : ∀ x ∈ L, ((cnt L x.1 : Nat) : Int) ≤ p.1
 srt : L.Pairwise ltL
structure HeldOK (D : DT) (now : Int) (L : List LT) (x : HT) : Prop where
 blk : BlkP D x.1 x.2.1
 till1 : now + 1 ≤ x.2.2
 till2 : x.2.2 ≤ now + 1048576
 free : hasL L x.1 x.2.1 = false
structure HeldsP (D : DT) (now : Int) (L : List LT) (H : List HT) : Prop where
 each : ∀ x ∈ H, HeldOK D now L x
 srt : H.Pairwise ltH
structure MayS (s : ST) : Prop where
 fit : FitP s.1
 pol : PolP s.2.1
 now0 : 0 ≤ s.2.2.1
 now1 : s.2.2.1 ≤ 1073741824
 pools : PoolsP s.2.2.2.1 (szY s.1)
 leases : LeasesP s.1 s.2.1 s.2.2.1 s.2.2.2.1 s.2.2.2.2.1
 len : s.2.2.2.2.1.length ≤ 32
 helds : HeldsP s.1 s.2.2.1 s.2.2.2.2.1 s.2.2.2.2.2
noncomputable instance (s : ST) : Decidable (MayS s) := Classical.propDecidable _
noncomputable instance (D : DT) (p : PT) (now : Int) (P : List HT) (L : List LT) : Decidable (LeasesP D p now P L) := Classical.propDecidable _
noncomputable instance (D : DT) (now : Int) (L : List LT) (H : List HT) : Decidable (HeldsP D now L H) := Classical.propDecidable _
theorem take_snoc {α : Type} {l : List α} {j : Nat} (h : j < l.length) : l.take (j + 1) = l.take j ++ [l[j]] := by rw [List.take_succ_eq_append_getElem h]
theorem pw_snoc {α : Type} {r : α → α → Prop} (tr : ∀ a b c, r a b → r b c → r a c) {l : List α} {j : Nat} (h : j < l.length) (hp : (l.take j).Pairwise r) :
  (l.take (j + 1)).Pairwise r ↔ ∀ (h0 : 0 < j), r (l[j - 1]'(by omega)) l[j] := by
 rw [take_snoc h, List.pairwise_append]
 constructor
 ·intro ⟨_, _, h3⟩ h0
  refine h3 _ ?_ _ (by simp)
  rw [List.mem_iff_getElem]
  exact ⟨j - 1, by rw [List.length_take]; omega, by rw [List.getElem_take]⟩
 ·intro h3
  refine ⟨hp, by simp, fun a ha b hb => ?_⟩
  rw [List.mem_singleton] at hb
  subst hb
  obtain ⟨i, hi, rfl⟩ := List.mem_iff_getElem.1 ha
  rw [List.length_take] at hi
  rw [List.getElem_take]
  have h0 : 0 < j := by omega
  by_cases e : i = j - 1
  ·subst e; exact h3 h0
  ·refine tr _ _ _ ?_ (h3 h0)
   have := (List.pairwise_iff_getElem.1 hp) i (j - 1) (by rw [List.length_take]; omega) (by rw [List.length_take]; omega) (by omega)
   rwa [List.getElem_take, List.getElem_take] at this
theorem ltL_trans (x y z : LT) (h1 : ltL x y) (h2 : ltL y z) : ltL x z := ltB_trans h1 h2
theorem ltH_trans (x y z : HT) (h1 : ltH x y) (h2 : ltH y z) : ltH x z := ltB_trans h1 h2
theorem cnt_snoc (M : List LT) (x : LT) (s : Int) : cnt (M ++ [x]) s = cnt M s + (if x.1 = s then 1 else 0) := by
 unfold cnt
 rw [List.countP_append, List.countP_singleton]
 by_cases h : x.1 = s <;> simp [h]
section
variable {D : DT} {p : PT} {now : Int} {P : List HT} {L : List LT} {H : List HT}
theorem LeasesP.nil : LeasesP D p now P [] := ⟨by simp, by simp, by simp⟩
theorem LeasesP.take (h : LeasesP D p now P L) (j : Nat) : LeasesP D p now P (L.take j) :=
 ⟨fun x hx => h.each x (List.mem_of_mem_take hx), fun x hx => by
  have h1 := h.quota x (List.mem_of_mem_take hx)
  have h2 : cnt (L.take j) x.1 ≤ cnt L x.1 := (List.take_sublist j L).countP_le
  omega, h.srt.sublist (List.take_sublist j L)⟩
theorem LeasesP.snoc {j : Nat} (hj : j < L.length) (h : LeasesP D p now P (L.take j)) :
  LeasesP D p now P (L.take (j + 1)) ↔ LeaseOK D p now P L[j] ∧ ((cnt (L.take j) L[j].1 + 1 : Nat) : Int) ≤ p.1 ∧ ∀ (h0 : 0 < j), ltL (L[j - 1]'(by omega)) L[j] := by
 have hmem : L[j] ∈ L.take (j + 1) := by rw [take_snoc hj]; exact List.mem_append.2 (.inr (List.mem_singleton.2 rfl))
 constructor
 ·intro k
  refine ⟨k.each _ hmem, ?_, (pw_snoc (r := ltL) @ltL_trans hj h.srt).1 k.srt⟩
  have := k.quota _ hmem
  rw [take_snoc hj, cnt_snoc, if_pos rfl] at this
  exact this
 ·intro ⟨k1, k2, k3⟩
  refine ⟨fun x hx => ?_, fun x hx => ?_, (pw_snoc (r := ltL) @ltL_trans hj h.srt).2 k3⟩
  ·rw [take_snoc hj] at hx
   rcases List.mem_append.1 hx with hx | hx
   ·exact h.each x hx
   ·rw [List.mem_singleton] at hx; rw [hx]; exact k1
  ·rw [take_snoc hj, cnt_snoc]
   rw [take_snoc hj] at hx
   split
   ·rename_i e; rw [← e]; omega
   ·rename_i e
    rcases List.mem_append.1 hx with hx | hx
    ·exact h.quota x hx
    ·rw [List.mem_singleton] at hx; rw [hx] at e; exact absurd rfl e
theorem HeldsP.nil : HeldsP D now L [] := ⟨by simp, by simp⟩
theorem HeldsP.take (h : HeldsP D now L H) (j : Nat) : HeldsP D now L (H.take j) :=
 ⟨fun x hx => h.each x (List.mem_of_mem_take hx), h.srt.sublist (List.take_sublist j H)⟩
theorem HeldsP.snoc {j : Nat} (hj : j < H.length) (h : HeldsP D now L (H.take j)) :
  HeldsP D now L (H.take (j + 1)) ↔ HeldOK D now L H[j] ∧ ∀ (h0 : 0 < j), ltH (H[j - 1]'(by omega)) H[j] := by
 have hmem : H[j] ∈ H.take (j + 1) := by rw [take_snoc hj]; exact List.mem_append.2 (.inr (List.mem_singleton.2 rfl))
 constructor
 ·intro k
  exact ⟨k.each _ hmem, (pw_snoc (r := ltH) @ltH_trans hj h.srt).1 k.srt⟩
 ·intro ⟨k1, k3⟩
  refine ⟨fun x hx => ?_, (pw_snoc (r := ltH) @ltH_trans hj h.srt).2 k3⟩
  rw [take_snoc hj] at hx
  rcases List.mem_append.1 hx with hx | hx
  ·exact h.each x hx
  ·rw [List.mem_singleton] at hx; rw [hx]; exact k1
end
theorem it_del {α X Y Z : Type} {u : X → Option (R3 X Y Z)} (del : α → Bool) (st : Nat → Nat → List α → X) (out : Nat → List α → Y) (N : Nat)
  (hstep : ∀ i j (l : List α) (h : j < l.length) (hi : i < j), l.length = N → u (st i j l) = some (.next (if del l[j] = true then st i (j + 1) l else st (i + 1) (j + 1) (l.set i l[j]))))
  (hout : ∀ i (l : List α), i < l.length → u (st i l.length l) = some (.out (out i l))) :
  ∀ (d i j : Nat) (l : List α) (fuel : Nat), l.length = N → j + d = l.length → i < j → d < fuel →
   ∃ k l', iter fuel u (st i j l) = some (.inl (out k l')) ∧ k = i + ((l.drop j).filter fun x => !del x).length ∧ l'.take k = l.take i ++ (l.drop j).filter (fun x => !del x) ∧ l'.length = l.length
 | _, i, j, l, 0, _, _, _, hf => by omega
 | 0, i, j, l, fuel + 1, hN, hj, hi, hf => by
  have e : j = l.length := by omega
  subst e
  refine ⟨i, l, it_out (hout i l (by omega)), by simp, by simp, rfl⟩
 | d + 1, i, j, l, fuel + 1, hN, hj, hi, hf => by
  have hlt : j < l.length := by omega
  have hs := hstep i j l hlt hi hN
  have hdrop : l.drop j = l[j] :: l.drop (j + 1) := by rw [List.drop_eq_getElem_cons hlt]
  by_cases hd : del l[j] = true
  ·rw [if_pos hd] at hs
   obtain ⟨k, l', h1, h2, h3, h4⟩ := it_del del st out N hstep hout d i (j + 1) l fuel hN (by omega) (by omega) (by omega)
   refine ⟨k, l', by rw [← h1]; exact it_next hs, ?_, ?_, h4⟩
   ·rw [hdrop, List.filter_cons, if_neg (by simp [hd])]; exact h2
   ·rw [hdrop, List.filter_cons, if_neg (by simp [hd])]; exact h3
  ·rw [if_neg hd] at hs
   obtain ⟨k, l', h1, h2, h3, h4⟩ := it_del del st out N hstep hout d (i + 1) (j + 1) (l.set i l[j]) fuel (by rw [List.length_set]; exact hN) (by rw [List.length_set]; omega) (by omega) (by omega)
   have hdr : (l.set i l[j]).drop (j + 1) = l.drop (j + 1) := List.drop_set_of_lt (by omega)
   rw [hdr] at h2 h3
   rw [List.length_set] at h4
   have htk : (l.set i l[j]).take (i + 1) = l.take i ++ [l[j]] := by
    rw [List.take_succ_eq_append_getElem (by rw [List.length_set]; omega), List.take_set_of_le (Nat.le_refl i)]
    simp
   refine ⟨k, l', by rw [← h1]; exact it_next hs, ?_, ?_, h4⟩
   ·rw [hdrop, List.filter_cons, if_pos (by simp [hd]), List.length_cons]; omega
   ·rw [hdrop, List.filter_cons, if_pos (by simp [hd]), h3, htk]; simp
theorem del_all {α X Y Z : Type} {u : X → Option (R3 X Y Z)} (del : α → Bool) (st : Nat → Nat → List α → X) (out : Nat → List α → Y) (l : List α)
  (hstep : ∀ i j (m : List α) (h : j < m.length) (hi : i < j), m.length = l.length → u (st i j m) = some (.next (if del m[j] = true then st i (j + 1) m else st (i + 1) (j + 1) (m.set i m[j]))))
  (hout : ∀ i (m : List α), i < m.length → u (st i m.length m) = some (.out (out i m))) (hl : l.length < big) (hi : l.findIdx del < l.length) :
  ∃ k l', iter big u (st (l.findIdx del) (l.findIdx del + 1) l) = some (.inl (out k l')) ∧ k = (l.filter fun x => !del x).length ∧ l'.take k = l.filter (fun x => !del x) ∧ l'.length = l.length := by
 obtain ⟨k, l', h1, h2, h3, h4⟩ := it_del del st out l.length hstep hout (l.length - (l.findIdx del + 1)) (l.findIdx del) (l.findIdx del + 1) l big rfl (by omega) (by omega) (by omega)
 have hat : del l[l.findIdx del] = true := List.findIdx_getElem (w := hi)
 have hfirst : (l.take (l.findIdx del)).filter (fun x => !del x) = l.take (l.findIdx del) := by
  rw [List.filter_eq_self]
  intro x hx
  obtain ⟨j, hj, rfl⟩ := List.mem_iff_getElem.1 hx
  rw [List.length_take] at hj
  rw [List.getElem_take]
  have := List.not_of_lt_findIdx (p := del) (xs := l) (i := j) (by omega)
  simpa using this
 have hfil : l.filter (fun x => !del x) = l.take (l.findIdx del) ++ (l.drop (l.findIdx del + 1)).filter (fun x => !del x) := by
  conv => lhs; rw [← List.take_append_drop (l.findIdx del) l]
  rw [List.filter_append, hfirst, List.drop_eq_getElem_cons hi, List.filter_cons, if_neg (by simp [hat])]
 refine ⟨k, l', h1, ?_, by rw [h3, hfil], h4⟩
 rw [hfil, List.length_append, List.length_take]
 omega
theorem lt_eq (a b : LT) : ((decide (a.1 = b.1)) && ((decide (a.2.1 = b.2.1)) && ((decide (a.2.2.1 = b.2.2.1)) && ((decide (a.2.2.2.1 = b.2.2.2.1)) && ((decide (a.2.2.2.2 = b.2.2.2.2)) && true))))) = decide (a = b) := by
 obtain ⟨a1, a2, a3, a4, a5⟩ := a
 obtain ⟨b1, b2, b3, b4, b5⟩ := b
 rw [Bool.eq_iff_iff]
 simp [Prod.ext_iff]
theorem ht_eq (a b : HT) : ((decide (a.1 = b.1)) && ((decide (a.2.1 = b.2.1)) && ((decide (a.2.2 = b.2.2)) && true))) = decide (a = b) := by
 obtain ⟨a1, a2, a3⟩ := a
 obtain ⟨b1, b2, b3⟩ := b
 rw [Bool.eq_iff_iff]
 simp [Prod.ext_iff]
theorem dec_le {a b : Nat} (h : a ≤ b) : decide ((a : Int) ≤ (b : Int)) = true := decide_eq_true (by omega)
def kL (x : LT) : Int × Int := (x.2.1, x.2.2.1)
def kH (x : HT) : Int × Int := (x.1, x.2.1)
def ltP (b c : Int × Int) : Prop := ltB b.1 b.2 c.1 c.2
instance (b c : Int × Int) : Decidable (ltP b c) := by unfold ltP; infer_instance
theorem ltP_trans {a b c : Int × Int} (h1 : ltP a b) (h2 : ltP b c) : ltP a c := ltB_trans h1 h2
theorem ltP_irrefl {a : Int × Int} (h : ltP a a) : False := by unfold ltP ltB at h; omega
theorem ltP_tri (a b : Int × Int) : ltP a b ∨ a = b ∨ ltP b a := by
 obtain ⟨a1, a2⟩ := a
 obtain ⟨b1, b2⟩ := b
 unfold ltP ltB
 simp only [Prod.mk.injEq]
 omega
section
variable {α : Type} {k : α → Int × Int}
abbrev behK (k : α → Int × Int) (b : Int × Int) (y : α) : Bool := decide (ltP b (k y))
abbrev isK (k : α → Int × Int) (b : Int × Int) (y : α) : Bool := decide (k y = b)
def insK (k : α → Int × Int) (l : List α) (x : α) : List α := l.take (l.findIdx (behK k (k x))) ++ x :: l.drop (l.findIdx (behK k (k x)))
def hasK (k : α → Int × Int) (l : List α) (b : Int × Int) : Bool := l.any (isK k b)
abbrev SrtK (k : α → Int × Int) (l : List α) : Prop := l.Pairwise fun x y => ltP (k x) (k y)
theorem insK_len (l : List α) (x : α) : (insK k l x).length = l.length + 1 := by
 have : l.findIdx (behK k (k x)) ≤ l.length := List.findIdx_le_length
 unfold insK
 simp only [List.length_append, List.length_take, List.length_cons, List.length_drop]; omega
theorem insK_perm (l : List α) (x : α) : (insK k l x).Perm (x :: l) := by
 unfold insK
 refine List.perm_middle.trans (List.Perm.cons x ?_)
 rw [List.take_append_drop]
theorem mem_insK {l : List α} {x y : α} : y ∈ insK k l x ↔ y = x ∨ y ∈ l := by
 rw [(insK_perm (k := k) l x).mem_iff, List.mem_cons]
theorem hasK_insK (l : List α) (x : α) (b : Int × Int) : hasK k (insK k l x) b = (decide (k x = b) || hasK k l b) := by
 unfold hasK
 rw [Bool.eq_iff_iff]
 simp only [List.any_eq_true, mem_insK, Bool.or_eq_true]
 constructor
 ·rintro ⟨y, rfl | hy, h⟩
  ·exact .inl h
  ·exact .inr ⟨y, hy, h⟩
 ·rintro (h | ⟨y, hy, h⟩)
  ·exact ⟨x, .inl rfl, h⟩
  ·exact ⟨y, .inr hy, h⟩
theorem hasK_false {l : List α} {b : Int × Int} (h : hasK k l b = false) : ∀ y ∈ l, k y ≠ b := by
 intro y hy he
 unfold hasK at h
 rw [List.any_eq_false] at h
 exact h y hy (decide_eq_true he)
theorem takeK_lt {l : List α} {x : α} (h : hasK k l (k x) = false) : ∀ y ∈ l.take (l.findIdx (behK k (k x))), ltP (k y) (k x) := by
 intro y hy
 obtain ⟨j, hj, rfl⟩ := List.mem_take_iff_getElem.1 hy
 have h1 : behK k (k x) (l[j]'(by omega)) = false := by
  simpa using List.not_of_lt_findIdx (p := behK k (k x)) (xs := l) (i := j) (by omega)
 rcases ltP_tri (k (l[j]'(by omega))) (k x) with h2 | h2 | h2
 ·exact h2
 ·exact absurd h2 (hasK_false h _ (List.getElem_mem _))
 ·rw [behK, decide_eq_true h2] at h1; cases h1
theorem dropK_gt {l : List α} {x : α} (hs : SrtK k l) : ∀ y ∈ l.drop (l.findIdx (behK k (k x))), ltP (k x) (k y) := by
 intro y hy
 obtain ⟨j, hj, rfl⟩ := List.mem_drop_iff_getElem.1 hy
 have hlt : l.findIdx (behK k (k x)) < l.length := by omega
 have h0 : ltP (k x) (k (l[l.findIdx (behK k (k x))]'hlt)) := by
  have : behK k (k x) (l[l.findIdx (behK k (k x))]'hlt) = true := List.findIdx_getElem
  simpa [behK] using this
 cases j with
 | zero => exact h0
 | succ j => exact ltP_trans h0 (List.pairwise_iff_getElem.1 hs _ _ hlt (by omega) (by omega))
theorem srtK_ins {l : List α} {x : α} (hs : SrtK k l) (h : hasK k l (k x) = false) : SrtK k (insK k l x) := by
 unfold insK
 show List.Pairwise _ _
 rw [List.pairwise_append, List.pairwise_cons]
 refine ⟨hs.sublist (List.take_sublist _ _), ⟨dropK_gt hs, hs.sublist (List.drop_sublist _ _)⟩, fun y hy z hz => ?_⟩
 have h1 := takeK_lt h y hy
 rcases List.mem_cons.1 hz with rfl | hz
 ·exact h1
 ·exact ltP_trans h1 (dropK_gt hs z hz)
theorem srtK_ext : ∀ {l m : List α}, SrtK k l → SrtK k m → (∀ x, x ∈ l ↔ x ∈ m) → l = m
 | [], [], _, _, _ => rfl
 | [], y :: m, _, _, h => by have := (h y).2 (by simp); simp at this
 | x :: l, [], _, _, h => by have := (h x).1 (by simp); simp at this
 | x :: l, y :: m, hl, hm, h => by
  obtain ⟨hl1, hl2⟩ := List.pairwise_cons.1 hl
  obtain ⟨hm1, hm2⟩ := List.pairwise_cons.1 hm
  have hxy : x = y := by
   have h1 := (h x).1 (by simp)
   have h2 := (h y).2 (by simp)
   rcases List.mem_cons.1 h1 with h1 | h1
   ·exact h1
   ·rcases List.mem_cons.1 h2 with h2 | h2
    ·exact h2.symm
    ·exact (ltP_irrefl (ltP_trans (hm1 x h1) (hl1 y h2))).elim
  subst hxy
  congr 1
  refine srtK_ext hl2 hm2 fun z => ⟨fun hz => ?_, fun hz => ?_⟩
  ·rcases List.mem_cons.1 ((h z).1 (by simp [hz])) with h1 | h1
   ·subst h1; exact (ltP_irrefl (hl1 z hz)).elim
   ·exact h1
  ·rcases List.mem_cons.1 ((h z).2 (by simp [hz])) with h1 | h1
   ·subst h1; exact (ltP_irrefl (hm1 z hz)).elim
   ·exact h1
end
theorem hasL_K (L : List LT) (a b : Int) : hasL L a b = hasK kL L (a, b) := by
 unfold hasL hasK
 congr 1
 funext x
 simp [isL, isK, kL, Prod.ext_iff]
def cleanH (H : List HT) (now : Int) : List HT := H.filter fun x => !decide (x.2.2 ≤ now)
def holdH (H : List HT) (x : HT) : List HT := insK kH (H.filter fun y => !decide (kH y = kH x)) x
def putL (L : List LT) (x : LT) : List LT × Bool := if hasL L x.2.1 x.2.2.1 = true ∨ 32 ≤ L.length then (L, false) else (insK kL L x, true)
def delL (L : List LT) (a b : Int) : List LT := L.eraseIdx (L.findIdx (isL a b))
def useL (L : List LT) (now : Int) : List LT := L.map fun x => (x.1, (x.2.1, (x.2.2.1, (x.2.2.2.1, now))))
def settleS (s : ST) (now : Int) : ST := (s.1, (s.2.1, (now, (s.2.2.2.1, (useL s.2.2.2.2.1 now, cleanH s.2.2.2.2.2 now)))))
def CanSettle (s : ST) (now : Int) : Prop := MayS s ∧ s.2.2.1 ≤ now ∧ now ≤ 1073741824
noncomputable instance (s : ST) (now : Int) : Decidable (CanSettle s now) := Classical.propDecidable _
noncomputable def settle (s : ST) (now : Int) : ST × Bool := if CanSettle s now then (settleS s now, true) else (s, false)
theorem compact_sorted (d : Array Int) (hs : ∀ i j, i ≤ j → j < d.size → d[i]! ≤ d[j]!) : ∀ m, m ≤ d.size →
  (Lib.compactUpTo d m).Pairwise (· < ·) ∧ ∀ x, x ∈ Lib.compactUpTo d m ↔ ∃ j, j < m ∧ d[j]! = x
 | 0, _ => by simp [Lib.compactUpTo]
 | m + 1, hm => by
  obtain ⟨h1, h2⟩ := compact_sorted d hs m (by omega)
  rw [Lib.compactUpTo_succ]
  cases hk : Lib.keeps d m with
  | true =>
   simp only [if_true]
   have hlt : ∀ x ∈ Lib.compactUpTo d m, x < d[m]! := by
    intro x hx
    obtain ⟨j, hj, rfl⟩ := (h2 x).1 hx
    have e1 := hs j (m - 1) (by omega) (by omega)
    have e2 := hs (m - 1) m (by omega) (by omega)
    have e3 : d[m]! ≠ d[m - 1]! := by
     intro he
     rw [Lib.keeps_neg (by omega) he] at hk
     cases hk
    omega
   refine ⟨List.pairwise_append.2 ⟨h1, List.pairwise_singleton _ _, fun x hx y hy => ?_⟩, fun x => ?_⟩
   ·rw [List.mem_singleton] at hy; subst hy; exact hlt x hx
   ·rw [List.mem_append, List.mem_singleton, h2]
    constructor
    ·rintro (⟨j, hj, h⟩ | h)
     ·exact ⟨j, by omega, h⟩
     ·exact ⟨m, by omega, h.symm⟩
    ·rintro ⟨j, hj, h⟩
     rcases Nat.lt_or_ge j m with h' | h'
     ·exact .inl ⟨j, h', h⟩
     ·have : j = m := by omega
      subst this; exact .inr h.symm
  | false =>
   simp only [Bool.false_eq_true, if_false, List.append_nil]
   refine ⟨h1, fun x => ?_⟩
   rw [h2]
   constructor
   ·rintro ⟨j, hj, h⟩; exact ⟨j, by omega, h⟩
   ·rintro ⟨j, hj, h⟩
    rcases Nat.lt_or_ge j m with h' | h'
    ·exact ⟨j, h', h⟩
    ·have : j = m := by omega
     subst this
     rcases Nat.eq_zero_or_pos j with h0 | h0
     ·subst h0; rw [Lib.keeps_lt_one d 0 (by omega)] at hk; cases hk
     ·refine ⟨j - 1, by omega, ?_⟩
      by_cases he : d[j]! = d[j - 1]!
      ·rw [← he]; exact h
      ·rw [Lib.keeps_pos he] at hk; cases hk
def busyL (l : List LT) : List Int := Lib.compact ((l.map (·.2.1)).mergeSort fun x y => decide (x ≤ y))
theorem busy_ok (l : List LT) : (busyL l).Pairwise (· < ·) ∧ ∀ x, x ∈ busyL l ↔ ∃ y ∈ l, y.2.1 = x := by
 unfold busyL Lib.compact
 have hp := List.pairwise_mergeSort (le := fun x y : Int => decide (x ≤ y)) (fun a b c h1 h2 => by simp only [decide_eq_true_eq] at *; omega) (fun a b => by simp only [Bool.or_eq_true, decide_eq_true_eq]; omega) (l.map (·.2.1))
 have hm := fun x => List.mem_mergeSort (a := x) (l := l.map (·.2.1)) (le := fun x y : Int => decide (x ≤ y))
 generalize ((l.map (·.2.1)).mergeSort fun x y => decide (x ≤ y)) = zs at hp hm
 have hg : ∀ j, j < zs.length → zs.toArray[j]! = zs.getD j 0 := fun j hj => by simp [hj]
 obtain ⟨h1, h2⟩ := compact_sorted zs.toArray (fun i j hij hj => by
  have hj' : j < zs.length := by simpa using hj
  rcases Nat.lt_or_ge i j with h | h
  ·have := List.pairwise_iff_getElem.1 hp i j (by omega) hj' h
   simp only [decide_eq_true_eq] at this
   simpa [hj', show i < zs.length by omega] using this
  ·have : i = j := by omega
   subst this; exact Int.le_refl _) zs.length (by simp)
 refine ⟨h1, fun x => ?_⟩
 rw [h2]
 have e : (∃ j, j < zs.length ∧ zs.toArray[j]! = x) ↔ x ∈ zs := by
  rw [List.mem_iff_getElem]
  constructor
  ·rintro ⟨j, hj, h⟩; exact ⟨j, hj, by simpa [hj] using h⟩
  ·rintro ⟨j, hj, h⟩; exact ⟨j, hj, by simpa [hj] using h⟩
 rw [e, hm]
 simp
theorem inc_len : ∀ (l : List Int) (lo hi : Int), l.Pairwise (· < ·) → (∀ x ∈ l, lo ≤ x ∧ x < hi) → (l.length : Int) ≤ max 0 (hi - lo)
 | [], lo, hi, _, _ => by simp; omega
 | a :: l, lo, hi, hp, hb => by
  obtain ⟨h1, h2⟩ := List.pairwise_cons.1 hp
  have ha := hb a (by simp)
  have := inc_len l (a + 1) hi h2 (fun x hx => ⟨by have := h1 x hx; omega, (hb x (by simp [hx])).2⟩)
  rw [List.length_cons]
  omega
theorem MayS.lenH {s : ST} (M : MayS s) : s.2.2.2.2.2.length ≤ 32 := by
 have hb : ∀ x ∈ s.2.2.2.2.2, (0 ≤ x.1 ∧ x.1 < 4) ∧ 0 ≤ x.2.1 ∧ x.2.1 < 8 := fun x hx => by
  have h := (M.helds.each x hx).blk
  have := M.fit.y2
  have := M.fit.blk
  have h1 := h.2.1
  have h2 := h.2.2
  omega
 have := inc_len (s.2.2.2.2.2.map fun x => 8 * x.1 + x.2.1) 0 32 (by
  rw [List.pairwise_map]
  have hp := M.helds.srt
  refine (List.pairwise_iff_forall_sublist.2 fun {x y} hs => ?_)
  have hlt := List.pairwise_iff_forall_sublist.1 hp hs
  have hx := hb x (hs.subset (by simp))
  have hy := hb y (hs.subset (by simp))
  unfold ltH ltB at hlt
  omega) (fun z hz => by
  obtain ⟨x, hx, rfl⟩ := List.mem_map.1 hz
  have := hb x hx
  omega)
 rw [List.length_map] at this
 omega
abbrev ET := Int × (Int × (Int × (Int × (Int × PT))))
def rng (n a b : Int) : Prop := a ≤ n ∧ n ≤ b
instance (n a b : Int) : Decidable (rng n a b) := by unfold rng; infer_instance
def evBody (k a b c : Int) (p : PT) : Prop :=
 if k = 0 ∨ k = 1 then rng a 0 31 ∧ rng b 0 3 ∧ rng c 0 7
 else if k = 2 then rng a 0 3 ∧ rng b 1 4 ∧ rng c 0 0
 else if k = 4 then rng a 0 2 ∧ rng b 1 4 ∧ rng c 0 0
 else if k = 3 ∨ k = 5 then rng a 0 2 ∧ rng b 0 0 ∧ rng c 0 0
 else if k = 6 then PolP p ∧ rng a 0 0 ∧ rng b 0 0 ∧ rng c 0 0
 else False
instance (k a b c : Int) (p : PT) : Decidable (evBody k a b c p) := by unfold evBody; infer_instance
def MayE (e : ET) : Prop := rng e.2.1 0 1073741824 ∧ (e.1 ≠ 6 → e.2.2.2.2.2 = (0, (0, (0, false)))) ∧ evBody e.1 e.2.2.1 e.2.2.2.1 e.2.2.2.2.1 e.2.2.2.2.2
instance (e : ET) : Decidable (MayE e) := by unfold MayE; infer_instance
abbrev nthP (P : List HT) (k : Int) : HT := P.getD k.toNat (0, (0, 0))
def roomE (P : List HT) (out but : Int) (p : HT) : Int :=
 if ¬ FitsP p out then 1
 else if (List.range P.length).any (fun j => !decide ((j : Int) = but) && meetB p (P.getD j (0, (0, 0)))) = true then 11
 else if but = -1 ∧ P.length = 3 then 9 else 0
def lostB (busy : List Int) (p q : HT) : Bool := busy.any fun at' => hasB p at' && !hasB q at'
noncomputable def addP (P : List HT) (out a n : Int) : List HT × Int :=
 if ¬ PoolsP P out then (P, 1)
 else if roomE P out (-1) (a, (n, 0)) ≠ 0 then (P, roomE P out (-1) (a, (n, 0)))
 else (P ++ [(a, (n, 0))], 0)
noncomputable def drainP (P : List HT) (out k : Int) : List HT × Int :=
 if ¬ PoolsP P out then (P, 1)
 else if k < 0 ∨ (P.length : Int) ≤ k then (P, 5)
 else if (nthP P k).2.2 = 1 then (P, 11)
 else (P.set k.toNat ((nthP P k).1, ((nthP P k).2.1, 1)), 0)
noncomputable def sizeP (P : List HT) (out k n : Int) (busy : List Int) : List HT × Int :=
 if ¬ PoolsP P out then (P, 1)
 else if k < 0 ∨ (P.length : Int) ≤ k then (P, 5)
 else if roomE P out k ((nthP P k).1, (n, (nthP P k).2.2)) ≠ 0 then (P, roomE P out k ((nthP P k).1, (n, (nthP P k).2.2)))
 else if lostB busy (nthP P k) ((nthP P k).1, (n, (nthP P k).2.2)) = true then (P, 12)
 else (P.set k.toNat ((nthP P k).1, (n, (nthP P k).2.2)), 0)
noncomputable def goneP (P : List HT) (out k : Int) (busy : List Int) : List HT × Int :=
 if ¬ PoolsP P out then (P, 1)
 else if k < 0 ∨ (P.length : Int) ≤ k then (P, 5)
 else if (nthP P k).2.2 = 0 ∨ lostB busy (nthP P k) (0, (0, 0)) = true then (P, 12)
 else (P.eraseIdx k.toNat, 0)
abbrev setPools (t : ST) (P : List HT) : ST := (t.1, (t.2.1, (t.2.2.1, (P, (t.2.2.2.2.1, t.2.2.2.2.2)))))
abbrev setL (t : ST) (L : List LT) : ST := (t.1, (t.2.1, (t.2.2.1, (t.2.2.2.1, (L, t.2.2.2.2.2)))))
abbrev setLH (t : ST) (L : List LT) (H : List HT) : ST := (t.1, (t.2.1, (t.2.2.1, (t.2.2.2.1, (L, H)))))
abbrev setPol (t : ST) (p : PT) : ST := (t.1, (p, (t.2.2.1, (t.2.2.2.1, (t.2.2.2.2.1, t.2.2.2.2.2)))))
abbrev RT := Int × (Int × (Int × (Int × (Int × PT))))
abbrev AT := Int × (Int × Int)
abbrev P0 : PT := (0, (0, (0, false)))
abbrev DoT := ST × (List ET × AT)
def errS (s : ST) (e : Int) : DoT := (s, ([], (e, (0, 0))))
def takeU (n U : Nat) (i : Int) : Nat := if 0 ≤ i ∧ i < (n : Int) ∧ U.testBit i.toNat = false then U ^^^ 2 ^ i.toNat else U
def useU (n : Nat) (at' : Int) (U : Nat) (l : List (Int × Int)) : Nat := l.foldl (fun U b => if b.1 = at' then takeU n U b.2 else U) U
def firstI (n U : Nat) : Int := if 0 < 2 ^ n - 1 - U then ((Lib.ctz 64 (2 ^ n - 1 - U) : Nat) : Int) else -1
def givesB (P : List HT) (at' : Int) : Bool := decide (poolOf P at' ≠ -1) && decide ((nthP P (poolOf P at')).2.2 = 0)
noncomputable def usedU (s : ST) (at' : Int) : Nat := useU (blks s.1).toNat at' 0 (s.2.2.2.2.1.map kL ++ s.2.2.2.2.2.map kH)
noncomputable def blockI (s : ST) (at' : Int) : Int := if givesB s.2.2.2.1 at' = true then firstI (blks s.1).toNat (usedU s at') else -1
def firstAt (f : Int → Int) : Nat → Int → Int
 | 0, a => a
 | n + 1, a => if f a = -1 then firstAt f n (a + 1) else a
noncomputable def grantAt (s : ST) (sub a to : Int) : DoT :=
 if to ≤ firstAt (blockI s) (to - a).toNat a then errS s 7
 else (setL s (putL s.2.2.2.2.1 (sub, (firstAt (blockI s) (to - a).toNat a, (blockI s (firstAt (blockI s) (to - a).toNat a), (s.2.2.1, s.2.2.1))))).1,
  ([(0, (s.2.2.1, (sub, (firstAt (blockI s) (to - a).toNat a, (blockI s (firstAt (blockI s) (to - a).toNat a), P0)))))], (0, (firstAt (blockI s) (to - a).toNat a, blockI s (firstAt (blockI s) (to - a).toNat a)))))
noncomputable def grantS (s : ST) (sub : Int) : DoT :=
 if ¬ SubP s.1 sub then errS s 5
 else if ¬ ((cnt s.2.2.2.2.1 sub : Nat) : Int) < s.2.1.1 then errS s 6
 else if s.2.1.2.2.2 = true then
  (if poolOf s.2.2.2.1 (sub / rat s.1) = -1 then errS s 7
  else if givesB s.2.2.2.1 (sub / rat s.1) = false then errS s 8
  else grantAt s sub (sub / rat s.1) (sub / rat s.1 + 1))
 else grantAt s sub 0 (szY s.1)
abbrev L0 : LT := (0, (0, (0, (0, 0))))
def mineL (L : List LT) (a b : Int) : LT := L.getD (L.findIdx (isL a b)) L0
def mineP (L : List LT) (sub a b : Int) : Prop := hasL L a b = true ∧ (mineL L a b).1 = sub
instance (L : List LT) (sub a b : Int) : Decidable (mineP L sub a b) := by unfold mineP; infer_instance
def touch (x : LT) (now : Int) : LT := (x.1, (x.2.1, (x.2.2.1, (x.2.2.2.1, now))))
noncomputable def refreshS (s : ST) (sub a b : Int) : DoT :=
 if ¬ mineP s.2.2.2.2.1 sub a b then errS s 5
 else (setL s (s.2.2.2.2.1.set (s.2.2.2.2.1.findIdx (isL a b)) (touch (mineL s.2.2.2.2.1 a b) s.2.2.1)), ([], (0, (a, b))))
def freeT (s : ST) (x : LT) (at' : Int) : ST := setLH s (delL s.2.2.2.2.1 x.2.1 x.2.2.1) (if 0 < s.2.1.2.2.1 then holdH s.2.2.2.2.2 (x.2.1, (x.2.2.1, at' + s.2.1.2.2.1)) else s.2.2.2.2.2)
def freeE (x : LT) (at' : Int) : ET := (1, (at', (x.1, (x.2.1, (x.2.2.1, P0)))))
noncomputable def releaseS (s : ST) (sub a b : Int) : DoT :=
 if ¬ mineP s.2.2.2.2.1 sub a b then errS s 5
 else (freeT s (mineL s.2.2.2.2.1 a b) s.2.2.1, ([freeE (mineL s.2.2.2.2.1 a b) s.2.2.1], (0, (a, b))))
def tmr (idle : Int) (x : LT) : Int × Int := (x.2.1 * 8 + x.2.2.1, x.2.2.2.2 + idle)
def tmLt (x y : Int × Int) : Bool := decide (x.2 < y.2 ∨ (x.2 = y.2 ∧ x.1 < y.1))
def dueL (s : ST) (n : Int) : List LT := (s.2.2.2.2.1.filter fun x => decide ((tmr s.2.1.2.1 x).2 ≤ n)).mergeSort fun x y => !tmLt (tmr s.2.1.2.1 y) (tmr s.2.1.2.1 x)
def freeAll (s : ST) (l : List LT) : ST := l.foldl (fun t x => freeT t x (x.2.2.2.2 + s.2.1.2.1)) s
abbrev setNow (t : ST) (n : Int) : ST := (t.1, (t.2.1, (n, (t.2.2.2.1, (t.2.2.2.2.1, cleanH t.2.2.2.2.2 n)))))
noncomputable def tickS (s : ST) (n : Int) : DoT :=
 if n < s.2.2.1 ∨ 1073741824 < n then errS s 10
 else (setNow (freeAll s (dueL s n)) n, ((dueL s n).map fun x => freeE x (x.2.2.2.2 + s.2.1.2.1), (0, (((dueL s n).length : Int), 0))))
def poolsS (s : ST) (r : List HT × Int) (e : ET) : DoT := if r.2 ≠ 0 then errS s r.2 else (setPools s r.1, ([e], (0, (0, 0))))
noncomputable def policyS (s : ST) (p : PT) : DoT :=
 if ¬ PolP p then errS s 1
 else if ¬ MayS (setPol s p) then errS s 12
 else (setPol s p, ([(6, (s.2.2.1, (0, (0, (0, p)))))], (0, (0, 0))))
noncomputable def doS (s : ST) (r : RT) : DoT :=
 if ¬ (MayS s ∧ 0 ≤ r.1 ∧ r.1 < 9) then errS s 1
 else if r.1 = 0 then grantS s r.2.1
 else if r.1 = 1 then refreshS s r.2.1 r.2.2.1 r.2.2.2.1
 else if r.1 = 2 then releaseS s r.2.1 r.2.2.1 r.2.2.2.1
 else if r.1 = 3 then tickS s r.2.2.2.2.1
 else if r.1 = 4 then poolsS s (addP s.2.2.2.1 (szY s.1) r.2.2.1 r.2.2.2.2.1) (2, (s.2.2.1, (r.2.2.1, (r.2.2.2.2.1, (0, P0)))))
 else if r.1 = 5 then poolsS s (drainP s.2.2.2.1 (szY s.1) r.2.2.2.2.1) (3, (s.2.2.1, (r.2.2.2.2.1, (0, (0, P0)))))
 else if r.1 = 6 then poolsS s (sizeP s.2.2.2.1 (szY s.1) r.2.2.1 r.2.2.2.2.1 (busyL s.2.2.2.2.1)) (4, (s.2.2.1, (r.2.2.1, (r.2.2.2.2.1, (0, P0)))))
 else if r.1 = 7 then poolsS s (goneP s.2.2.2.1 (szY s.1) r.2.2.2.2.1 (busyL s.2.2.2.2.1)) (5, (s.2.2.1, (r.2.2.2.2.1, (0, (0, P0)))))
 else policyS s r.2.2.2.2.2
section
variable {α : Type} {k : α → Int × Int}
theorem srtK_inj {l : List α} (hs : SrtK k l) {x y : α} (hx : x ∈ l) (hy : y ∈ l) (h : k x = k y) : x = y := by
 obtain ⟨i, hi, rfl⟩ := List.mem_iff_getElem.1 hx
 obtain ⟨j, hj, rfl⟩ := List.mem_iff_getElem.1 hy
 rcases Nat.lt_trichotomy i j with hij | hij | hij
 ·have := List.pairwise_iff_getElem.1 hs i j hi hj hij
  rw [h] at this
  exact (ltP_irrefl this).elim
 ·subst hij; rfl
 ·have := List.pairwise_iff_getElem.1 hs j i hj hi hij
  rw [h] at this
  exact (ltP_irrefl this).elim
theorem hasK_mem {l : List α} {b : Int × Int} : hasK k l b = true ↔ ∃ x ∈ l, k x = b := by
 unfold hasK
 rw [List.any_eq_true]
 simp
theorem hasK_none {l : List α} {b : Int × Int} (h : ∀ x ∈ l, k x ≠ b) : hasK k l b = false := by
 cases hb : hasK k l b with
 | false => rfl
 | true => obtain ⟨x, hx, he⟩ := hasK_mem.1 hb; exact absurd he (h x hx)
end
theorem isL_k (a b : Int) (x : LT) : isL a b x = decide (kL x = (a, b)) := by simp [isL, kL, Prod.ext_iff]
theorem delL_filter {L : List LT} (hs : L.Pairwise ltL) (a b : Int) : delL L a b = L.filter fun y => !decide (kL y = (a, b)) := by
 unfold delL
 induction L with
 | nil => rfl
 | cons x L ih =>
  obtain ⟨h1, h2⟩ := List.pairwise_cons.1 hs
  rw [List.findIdx_cons]
  by_cases hx : kL x = (a, b)
  ·have e : isL a b x = true := by rw [isL_k]; exact decide_eq_true hx
   rw [e, List.filter_cons_of_neg (by rw [decide_eq_true hx]; simp)]
   simp only [cond_true, List.eraseIdx_cons_zero]
   symm
   rw [List.filter_eq_self]
   intro y hy
   have := h1 y hy
   have hne : kL y ≠ (a, b) := by
    intro e
    have h3 : ltP (kL x) (kL y) := this
    rw [hx, e] at h3
    exact ltP_irrefl h3
   rw [decide_eq_false hne]; rfl
  ·have e : isL a b x = false := by rw [isL_k]; exact decide_eq_false hx
   rw [e, List.filter_cons_of_pos (by rw [decide_eq_false hx]; rfl)]
   simp only [cond_false, List.eraseIdx_cons_succ]
   rw [ih h2]
theorem mem_holdH {H : List HT} {x y : HT} : y ∈ holdH H x ↔ y = x ∨ (y ∈ H ∧ kH y ≠ kH x) := by
 unfold holdH
 rw [mem_insK, List.mem_filter]
 simp
theorem srt_holdH {H : List HT} {x : HT} (hs : H.Pairwise ltH) : (holdH H x).Pairwise ltH :=
 srtK_ins (k := kH) (List.Pairwise.filter _ hs) (hasK_none fun y hy => by
  have := (List.mem_filter.1 hy).2
  simpa using this)
theorem mine_mem {L : List LT} {a b : Int} (h : hasL L a b = true) : mineL L a b ∈ L ∧ kL (mineL L a b) = (a, b) := by
 have hlt : L.findIdx (isL a b) < L.length := by
  unfold hasL at h
  rw [List.any_eq_true] at h
  exact List.findIdx_lt_length.2 h
 have e : mineL L a b = L[L.findIdx (isL a b)] := by
  unfold mineL
  rw [List.getD_eq_getElem?_getD, List.getElem?_eq_getElem hlt, Option.getD_some]
 rw [e]
 refine ⟨List.getElem_mem _, ?_⟩
 have := List.findIdx_getElem (w := hlt)
 rw [isL_k] at this
 simpa using this
section
variable {D : DT} {p : PT} {now now' : Int} {P P' : List HT} {L : List LT} {H : List HT}
theorem LeaseOK.pools {x : LT} (h : LeaseOK D p now P x) (hP : inB P x.2.1 = true → inB P' x.2.1 = true) : LeaseOK D p now P' x :=
 ⟨h.sub, h.blk, hP h.pool, h.pair, h.from0, h.last1, h.last2, h.idle⟩
theorem LeasesP.pools (h : LeasesP D p now P L) (hP : ∀ x ∈ L, inB P x.2.1 = true → inB P' x.2.1 = true) : LeasesP D p now P' L :=
 ⟨fun x hx => (h.each x hx).pools (hP x hx), h.quota, h.srt⟩
theorem LeasesP.filter (h : LeasesP D p now P L) (f : LT → Bool) : LeasesP D p now P (L.filter f) :=
 ⟨fun x hx => h.each x (List.mem_filter.1 hx).1, fun x hx => by
  have h1 := h.quota x (List.mem_filter.1 hx).1
  have h2 : cnt (L.filter f) x.1 ≤ cnt L x.1 := List.filter_sublist.countP_le
  omega, h.srt.sublist List.filter_sublist⟩
theorem hasL_mem {a b : Int} : hasL L a b = true ↔ ∃ x ∈ L, kL x = (a, b) := by rw [hasL_K]; exact hasK_mem
theorem hasL_filter_none {a b : Int} (f : LT → Bool) (h : hasL L a b = false) : hasL (L.filter f) a b = false := by
 cases hb : hasL (L.filter f) a b with
 | false => rfl
 | true =>
  obtain ⟨x, hx, he⟩ := hasL_mem.1 hb
  rw [hasL_mem.2 ⟨x, (List.mem_filter.1 hx).1, he⟩] at h
  cases h
end
structure Freed (s : ST) (l : List LT) (t : ST) : Prop where
 d : t.1 = s.1
 pol : t.2.1 = s.2.1
 now : t.2.2.1 = s.2.2.1
 pools : t.2.2.2.1 = s.2.2.2.1
 leases : t.2.2.2.2.1 = s.2.2.2.2.1.filter fun y => !l.any fun x => decide (kL x = kL y)
 srt : t.2.2.2.2.2.Pairwise ltH
 helds : ∀ h, h ∈ t.2.2.2.2.2 ↔ h ∈ s.2.2.2.2.2 ∨ (0 < s.2.1.2.2.1 ∧ ∃ x ∈ l, h = (x.2.1, (x.2.2.1, x.2.2.2.2 + s.2.1.2.1 + s.2.1.2.2.1)))
theorem freed_step {s t : ST} (M : MayS s) {l : List LT} {x : LT} (F : Freed s l t) (hx : x ∈ s.2.2.2.2.1) (hl : ∀ y ∈ l, kL y ≠ kL x) : Freed s (l ++ [x]) (freeT t x (x.2.2.2.2 + s.2.1.2.1)) := by
 have hsL : t.2.2.2.2.1.Pairwise ltL := by rw [F.leases]; exact M.leases.srt.sublist List.filter_sublist
 have hno : ∀ h ∈ t.2.2.2.2.2, kH h ≠ (x.2.1, x.2.2.1) := by
  intro h hh e
  rcases (F.helds h).1 hh with h1 | ⟨_, y, hy, rfl⟩
  ·have := (M.helds.each h h1).free
   have e2 : h.1 = x.2.1 ∧ h.2.1 = x.2.2.1 := by simpa [kH] using e
   rw [hasL_mem.2 ⟨x, hx, by simp [kL, e2.1, e2.2]⟩] at this
   cases this
  ·exact hl y hy e
 refine ⟨F.d, F.pol, F.now, F.pools, ?_, ?_, fun h => ?_⟩
 ·show delL t.2.2.2.2.1 x.2.1 x.2.2.1 = _
  rw [delL_filter hsL, F.leases, List.filter_filter]
  refine List.filter_congr fun y _ => ?_
  rw [List.any_append]
  simp only [List.any_cons, List.any_nil, Bool.or_false, Bool.not_or]
  rw [Bool.and_comm]
  congr 2
  exact decide_eq_decide.2 ⟨fun h => h.symm, fun h => h.symm⟩
 ·show (if 0 < t.2.1.2.2.1 then _ else _ : List HT).Pairwise ltH
  split
  ·exact srt_holdH F.srt
  ·exact F.srt
 ·show h ∈ (if 0 < t.2.1.2.2.1 then holdH t.2.2.2.2.2 (x.2.1, (x.2.2.1, x.2.2.2.2 + s.2.1.2.1 + t.2.1.2.2.1)) else t.2.2.2.2.2 : List HT) ↔ _
  rw [F.pol]
  split
  ·rename_i hp
   rw [mem_holdH]
   constructor
   ·rintro (rfl | ⟨h1, _⟩)
    ·exact .inr ⟨hp, x, by simp, rfl⟩
    ·rcases (F.helds h).1 h1 with h2 | ⟨_, y, hy, he⟩
     ·exact .inl h2
     ·exact .inr ⟨hp, y, by simp [hy], he⟩
   ·intro h1
    have : h ∈ t.2.2.2.2.2 ∨ h = (x.2.1, (x.2.2.1, x.2.2.2.2 + s.2.1.2.1 + s.2.1.2.2.1)) := by
     rcases h1 with h1 | ⟨_, y, hy, he⟩
     ·exact .inl ((F.helds h).2 (.inl h1))
     ·rcases List.mem_append.1 hy with hy | hy
      ·exact .inl ((F.helds h).2 (.inr ⟨hp, y, hy, he⟩))
      ·rw [List.mem_singleton] at hy; subst hy; exact .inr he
    rcases this with h2 | h2
    ·exact .inr ⟨h2, hno h h2⟩
    ·exact .inl h2
  ·rename_i hp
   rw [F.helds]
   constructor
   ·rintro (h1 | ⟨h1, _⟩)
    ·exact .inl h1
    ·exact absurd h1 hp
   ·rintro (h1 | ⟨h1, _⟩)
    ·exact .inl h1
    ·exact absurd h1 hp
theorem freed_all {s : ST} (M : MayS s) : ∀ (l2 l1 : List LT) (t : ST), Freed s l1 t → (∀ x ∈ l2, x ∈ s.2.2.2.2.1) → (l1 ++ l2).Pairwise (fun x y => kL x ≠ kL y) →
  Freed s (l1 ++ l2) (l2.foldl (fun t x => freeT t x (x.2.2.2.2 + s.2.1.2.1)) t)
 | [], l1, t, F, _, _ => by simpa using F
 | x :: l2, l1, t, F, h, hp => by
  rw [List.foldl_cons]
  have e : l1 ++ x :: l2 = (l1 ++ [x]) ++ l2 := by simp
  rw [e] at hp ⊢
  have hp1 := (List.pairwise_append.1 hp).1
  have hp2 := List.pairwise_append.1 hp1
  exact freed_all M l2 (l1 ++ [x]) _ (freed_step M F (h x (by simp)) (fun y hy => hp2.2.2 y hy x (by simp))) (fun y hy => h y (by simp [hy])) hp
theorem freed_nil {s : ST} (M : MayS s) : Freed s [] s :=
 ⟨rfl, rfl, rfl, rfl, by symm; rw [List.filter_eq_self]; intro x _; rfl, M.helds.srt, fun h => ⟨.inl, fun k => k.elim id fun ⟨_, x, hx, _⟩ => by simp at hx⟩⟩
theorem keys_ne {L : List LT} (hs : L.Pairwise ltL) : L.Pairwise fun x y => kL x ≠ kL y :=
 hs.imp fun {x y} h e => by
  have h : ltP (kL x) (kL y) := h
  rw [e] at h
  exact ltP_irrefl h
theorem mem_due {s : ST} {n : Int} {x : LT} : x ∈ dueL s n ↔ x ∈ s.2.2.2.2.1 ∧ x.2.2.2.2 + s.2.1.2.1 ≤ n := by
 unfold dueL
 rw [List.mem_mergeSort, List.mem_filter]
 exact ⟨fun h => ⟨h.1, of_decide_eq_true h.2⟩, fun h => ⟨h.1, decide_eq_true h.2⟩⟩
theorem due_keys {s : ST} (M : MayS s) (n : Int) : (dueL s n).Pairwise fun x y => kL x ≠ kL y :=
 (List.mergeSort_perm _ _).symm.pairwise ((keys_ne M.leases.srt).sublist List.filter_sublist) fun {x y} h e => h e.symm
theorem freed_due {s : ST} (M : MayS s) (n : Int) : Freed s (dueL s n) (freeAll s (dueL s n)) := by
 have := freed_all M (dueL s n) [] s (freed_nil M) (fun x hx => (mem_due.1 hx).1) (by rw [List.nil_append]; exact due_keys M n)
 rw [List.nil_append] at this
 exact this
theorem tick_leases {s : ST} (M : MayS s) (n : Int) : (freeAll s (dueL s n)).2.2.2.2.1 = s.2.2.2.2.1.filter fun y => !decide (y.2.2.2.2 + s.2.1.2.1 ≤ n) := by
 rw [(freed_due M n).leases]
 refine List.filter_congr fun y hy => ?_
 congr 1
 rw [Bool.eq_iff_iff, List.any_eq_true, decide_eq_true_eq]
 constructor
 ·rintro ⟨x, hx, he⟩
  have hx := mem_due.1 hx
  rw [← srtK_inj (k := kL) M.leases.srt hx.1 hy (by simpa using he)]
  exact hx.2
 ·intro h
  exact ⟨y, mem_due.2 ⟨hy, h⟩, by simp⟩
theorem tick_may {s : ST} (M : MayS s) {n : Int} (h1 : s.2.2.1 ≤ n) (h2 : n ≤ 1073741824) : MayS (setNow (freeAll s (dueL s n)) n) := by
 have F := freed_due M n
 have eL := tick_leases M n
 generalize ht : freeAll s (dueL s n) = t at F eL
 obtain ⟨tD, tP, tN, tPl, tL, tH⟩ := t
 obtain ⟨d, pol, now, pools, _, srt, helds⟩ := F
 simp only at d pol now pools eL srt helds
 subst d pol now pools eL
 refine ⟨M.fit, M.pol, by have := M.now0; show 0 ≤ n; omega, h2, M.pools, ⟨fun x hx => ?_, (M.leases.filter _).quota, (M.leases.filter _).srt⟩, ?_, ⟨fun h hh => ?_, srt.sublist List.filter_sublist⟩⟩
 ·have hm := List.mem_filter.1 hx
  have hk := M.leases.each x hm.1
  have hd : ¬ x.2.2.2.2 + s.2.1.2.1 ≤ n := by simpa using hm.2
  exact ⟨hk.sub, hk.blk, hk.pool, hk.pair, hk.from0, hk.last1, by have := hk.last2; show x.2.2.2.2 ≤ n; omega, by show n - s.2.1.2.1 < x.2.2.2.2; omega⟩
 ·have := M.len
  have h3 : (s.2.2.2.2.1.filter fun y => !decide (y.2.2.2.2 + s.2.1.2.1 ≤ n)).length ≤ s.2.2.2.2.1.length := List.length_filter_le _ _
  show (s.2.2.2.2.1.filter fun y => !decide (y.2.2.2.2 + s.2.1.2.1 ≤ n)).length ≤ 32
  omega
 ·have hm := List.mem_filter.1 hh
  have ht : ¬ h.2.2 ≤ n := by simpa using hm.2
  rcases (helds h).1 hm.1 with h3 | ⟨hp, x, hx, rfl⟩
  ·have hk := M.helds.each h h3
   exact ⟨hk.blk, by show n + 1 ≤ _; omega, by have := hk.till2; show _ ≤ n + 1048576; omega, hasL_filter_none _ hk.free⟩
  ·have hx := mem_due.1 hx
   have hk := M.leases.each x hx.1
   have ht2 : ¬ x.2.2.2.2 + s.2.1.2.1 + s.2.1.2.2.1 ≤ n := ht
   refine ⟨hk.blk, by show n + 1 ≤ x.2.2.2.2 + s.2.1.2.1 + s.2.1.2.2.1; omega, by have := M.pol.2.2; show x.2.2.2.2 + s.2.1.2.1 + s.2.1.2.2.1 ≤ n + 1048576; omega, ?_⟩
   cases hb : hasL (s.2.2.2.2.1.filter fun y => !decide (y.2.2.2.2 + s.2.1.2.1 ≤ n)) x.2.1 x.2.2.1 with
   | false => rfl
   | true =>
    obtain ⟨y, hy, he⟩ := hasL_mem.1 hb
    have hy := List.mem_filter.1 hy
    have : y = x := srtK_inj (k := kL) M.leases.srt hy.1 hx.1 he
    subst this
    have := hy.2
    simp [hx.2] at this
theorem free_may {s : ST} (M : MayS s) {x : LT} (hx : x ∈ s.2.2.2.2.1) : MayS (freeT s x s.2.2.1) := by
 have hk := M.leases.each x hx
 have eD : delL s.2.2.2.2.1 x.2.1 x.2.2.1 = s.2.2.2.2.1.filter fun y => !decide (kL y = (x.2.1, x.2.2.1)) := delL_filter M.leases.srt _ _
 have fr : hasL (delL s.2.2.2.2.1 x.2.1 x.2.2.1) x.2.1 x.2.2.1 = false := by
  rw [eD, hasL_K]
  refine hasK_none fun y hy => ?_
  have := (List.mem_filter.1 hy).2
  simpa using this
 refine ⟨M.fit, M.pol, M.now0, M.now1, M.pools, ?_, ?_, ?_⟩
 ·show LeasesP s.1 s.2.1 s.2.2.1 s.2.2.2.1 (delL s.2.2.2.2.1 x.2.1 x.2.2.1)
  rw [eD]; exact M.leases.filter _
 ·show (delL s.2.2.2.2.1 x.2.1 x.2.2.1).length ≤ 32
  rw [eD]
  have := M.len
  have := List.length_filter_le (fun y => !decide (kL y = (x.2.1, x.2.2.1))) s.2.2.2.2.1
  omega
 ·show HeldsP s.1 s.2.2.1 (delL s.2.2.2.2.1 x.2.1 x.2.2.1) (if 0 < s.2.1.2.2.1 then holdH s.2.2.2.2.2 (x.2.1, (x.2.2.1, s.2.2.1 + s.2.1.2.2.1)) else s.2.2.2.2.2)
  have old : ∀ h ∈ s.2.2.2.2.2, HeldOK s.1 s.2.2.1 (delL s.2.2.2.2.1 x.2.1 x.2.2.1) h := fun h hh => by
   have hk := M.helds.each h hh
   exact ⟨hk.blk, hk.till1, hk.till2, by rw [eD]; exact hasL_filter_none _ hk.free⟩
  split
  ·rename_i hp
   refine ⟨fun h hh => ?_, srt_holdH M.helds.srt⟩
   rcases mem_holdH.1 hh with rfl | ⟨h1, _⟩
   ·exact ⟨hk.blk, by show s.2.2.1 + 1 ≤ s.2.2.1 + s.2.1.2.2.1; omega, by have := M.pol.2.2; show s.2.2.1 + s.2.1.2.2.1 ≤ s.2.2.1 + 1048576; omega, fr⟩
   ·exact old h h1
  ·exact ⟨old, M.helds.srt⟩
theorem touch_key (x : LT) (n : Int) : kL (touch x n) = kL x := rfl
theorem mem_set {α : Type} {l : List α} {i : Nat} {x y : α} (h : y ∈ l.set i x) : y = x ∨ ∃ j, ∃ (hj : j < l.length), j ≠ i ∧ y = l[j] := by
 obtain ⟨j, hj, rfl⟩ := List.mem_iff_getElem.1 h
 rw [List.getElem_set]
 by_cases e : i = j
 ·rw [if_pos e]; exact .inl rfl
 ·rw [if_neg e]; exact .inr ⟨j, by simpa using hj, fun h => e h.symm, rfl⟩
theorem refresh_may {s : ST} (M : MayS s) {a b : Int} (h : hasL s.2.2.2.2.1 a b = true) :
  MayS (setL s (s.2.2.2.2.1.set (s.2.2.2.2.1.findIdx (isL a b)) (touch (mineL s.2.2.2.2.1 a b) s.2.2.1))) := by
 obtain ⟨hm, hkey⟩ := mine_mem h
 have hlt : s.2.2.2.2.1.findIdx (isL a b) < s.2.2.2.2.1.length := by
  unfold hasL at h
  rw [List.any_eq_true] at h
  exact List.findIdx_lt_length.2 h
 have hx := M.leases.each _ hm
 have ei : s.2.2.2.2.1[s.2.2.2.2.1.findIdx (isL a b)] = mineL s.2.2.2.2.1 a b := by
  unfold mineL
  rw [List.getD_eq_getElem?_getD, List.getElem?_eq_getElem hlt, Option.getD_some]
 have hmap : ∀ {β : Type} (f : LT → β), (∀ x n, f (touch x n) = f x) → (s.2.2.2.2.1.set (s.2.2.2.2.1.findIdx (isL a b)) (touch (mineL s.2.2.2.2.1 a b) s.2.2.1)).map f = s.2.2.2.2.1.map f := by
  intro β f hf
  rw [List.map_set, hf, ← ei]
  apply List.ext_getElem (by simp)
  intro j h1 h2
  rw [List.getElem_set]
  split
  ·rename_i e; subst e; rw [List.getElem_map]
  ·rfl
 have hcnt : ∀ q, cnt (s.2.2.2.2.1.set (s.2.2.2.2.1.findIdx (isL a b)) (touch (mineL s.2.2.2.2.1 a b) s.2.2.1)) q = cnt s.2.2.2.2.1 q := by
  intro q
  have := congrArg (List.countP fun z : Int => decide (z = q)) (hmap (fun x : LT => x.1) (fun _ _ => rfl))
  rw [List.countP_map, List.countP_map] at this
  exact this
 have hsrt : (s.2.2.2.2.1.set (s.2.2.2.2.1.findIdx (isL a b)) (touch (mineL s.2.2.2.2.1 a b) s.2.2.1)).Pairwise ltL := by
  have e := hmap kL touch_key
  have : (s.2.2.2.2.1.map kL).Pairwise ltP := List.pairwise_map.2 M.leases.srt
  rw [← e] at this
  exact (List.pairwise_map (f := kL) (R := ltP)).1 this
 have hhas : ∀ c d, hasL (s.2.2.2.2.1.set (s.2.2.2.2.1.findIdx (isL a b)) (touch (mineL s.2.2.2.2.1 a b) s.2.2.1)) c d = hasL s.2.2.2.2.1 c d := by
  intro c d
  have := congrArg (List.any · fun z : Int × Int => decide (z = (c, d))) (hmap kL touch_key)
  simp only [List.any_map] at this
  rw [hasL_K, hasL_K]
  exact this
 refine ⟨M.fit, M.pol, M.now0, M.now1, M.pools, ⟨fun x hx' => ?_, fun x hx' => ?_, hsrt⟩, by show (List.set _ _ _).length ≤ 32; rw [List.length_set]; exact M.len, ⟨fun h hh => ?_, M.helds.srt⟩⟩
 ·rcases mem_set hx' with rfl | ⟨j, hj, _, rfl⟩
  ·exact ⟨hx.sub, hx.blk, hx.pool, hx.pair, hx.from0, by have := hx.last1; have := hx.last2; show (mineL s.2.2.2.2.1 a b).2.2.2.1 ≤ s.2.2.1; omega, Int.le_refl _, by have := M.pol.2.1; show s.2.2.1 - s.2.1.2.1 < s.2.2.1; omega⟩
  ·exact M.leases.each _ (List.getElem_mem _)
 ·rw [hcnt]
  rcases mem_set hx' with rfl | ⟨j, hj, _, rfl⟩
  ·show ((cnt s.2.2.2.2.1 (mineL s.2.2.2.2.1 a b).1 : Nat) : Int) ≤ s.2.1.1
   exact M.leases.quota _ hm
  ·exact M.leases.quota _ (List.getElem_mem _)
 ·have hk := M.helds.each h hh
  exact ⟨hk.blk, hk.till1, hk.till2, by rw [hhas]; exact hk.free⟩
theorem put_len {s : ST} (M : MayS s) {x : LT} (hb : BlkP s.1 x.2.1 x.2.2.1) (hf : hasL s.2.2.2.2.1 x.2.1 x.2.2.1 = false) : s.2.2.2.2.1.length < 32 := by
 have hs : SrtK kL (insK kL s.2.2.2.2.1 x) := srtK_ins M.leases.srt (by rw [hasL_K] at hf; exact hf)
 have hbd : ∀ y ∈ insK kL s.2.2.2.2.1 x, (0 ≤ y.2.1 ∧ y.2.1 < 4) ∧ 0 ≤ y.2.2.1 ∧ y.2.2.1 < 8 := fun y hy => by
  have hB : BlkP s.1 y.2.1 y.2.2.1 := by
   rcases mem_insK.1 hy with rfl | hy
   ·exact hb
   ·exact (M.leases.each y hy).blk
  have := M.fit.y2
  have := M.fit.blk
  have h1 := hB.2.1
  have h2 := hB.2.2
  omega
 have := inc_len ((insK kL s.2.2.2.2.1 x).map fun x => 8 * x.2.1 + x.2.2.1) 0 32 (by
  rw [List.pairwise_map]
  refine (List.pairwise_iff_forall_sublist.2 fun {y z} hyz => ?_)
  have hlt : ltP (kL y) (kL z) := List.pairwise_iff_forall_sublist.1 hs hyz
  have hy := hbd y (hyz.subset (by simp))
  have hz := hbd z (hyz.subset (by simp))
  unfold ltP ltB kL at hlt
  simp only at hlt
  omega) (fun z hz => by
  obtain ⟨y, hy, rfl⟩ := List.mem_map.1 hz
  have := hbd y hy
  omega)
 rw [List.length_map, insK_len] at this
 omega
theorem cnt_ins (L : List LT) (x : LT) (q : Int) : cnt (insK kL L x) q = cnt L q + if x.1 = q then 1 else 0 := by
 unfold cnt
 rw [(insK_perm (k := kL) L x).countP_eq, List.countP_cons]
 by_cases h : x.1 = q <;> simp [h]
theorem put_may {s : ST} (M : MayS s) {x : LT} (hx : LeaseOK s.1 s.2.1 s.2.2.1 s.2.2.2.1 x) (hq : ((cnt s.2.2.2.2.1 x.1 : Nat) : Int) < s.2.1.1) (hf : hasL s.2.2.2.2.1 x.2.1 x.2.2.1 = false) (hh : ∀ h ∈ s.2.2.2.2.2, kH h ≠ (x.2.1, x.2.2.1)) :
  putL s.2.2.2.2.1 x = (insK kL s.2.2.2.2.1 x, true) ∧ MayS (setL s (putL s.2.2.2.2.1 x).1) := by
 have hlen := put_len M hx.blk hf
 have e : putL s.2.2.2.2.1 x = (insK kL s.2.2.2.2.1 x, true) := by
  unfold putL
  rw [if_neg (by rintro (h | h); rw [hf] at h; cases h; omega)]
 refine ⟨e, ?_⟩
 rw [e]
 refine ⟨M.fit, M.pol, M.now0, M.now1, M.pools, ⟨fun y hy => ?_, fun y hy => ?_, srtK_ins M.leases.srt (by rw [hasL_K] at hf; exact hf)⟩, by show (insK kL _ _).length ≤ 32; rw [insK_len]; omega, ⟨fun h hm => ?_, M.helds.srt⟩⟩
 ·rcases mem_insK.1 hy with rfl | hy
  ·exact hx
  ·exact M.leases.each y hy
 ·rw [cnt_ins]
  by_cases he : x.1 = y.1
  ·rw [if_pos he, ← he]; show ((cnt s.2.2.2.2.1 x.1 + 1 : Nat) : Int) ≤ s.2.1.1; omega
  ·rw [if_neg he]
   rcases mem_insK.1 hy with rfl | hy
   ·exact absurd rfl he
   ·have := M.leases.quota y hy; omega
 ·have hk := M.helds.each h hm
  refine ⟨hk.blk, hk.till1, hk.till2, ?_⟩
  show hasL (insK kL s.2.2.2.2.1 x) h.1 h.2.1 = false
  rw [hasL_K, hasK_insK, ← hasL_K, hk.free]
  have : kL x ≠ (h.1, h.2.1) := fun e => hh h hm (by simpa [kH, kL, Prod.ext_iff, eq_comm] using e)
  rw [decide_eq_false this]; rfl
theorem room_ok {P : List HT} {out but : Int} {p : HT} (h : roomE P out but p = 0) :
  FitsP p out ∧ (∀ (j : Nat) (hj : j < P.length), (j : Int) ≠ but → meetB p P[j] = false) ∧ (but = -1 → P.length ≠ 3) := by
 unfold roomE at h
 split at h
 ·cases h
 ·rename_i h1
  split at h
  ·cases h
  ·rename_i h2
   split at h
   ·cases h
   ·rename_i h3
    refine ⟨Classical.not_not.1 h1, fun j hj hne => ?_, fun hb hl => h3 ⟨hb, hl⟩⟩
    cases hm : meetB p P[j] with
    | false => rfl
    | true =>
     exfalso
     refine h2 ?_
     rw [List.any_eq_true]
     refine ⟨j, List.mem_range.2 hj, ?_⟩
     have e : P.getD j (0, (0, 0)) = P[j] := by rw [List.getD_eq_getElem?_getD, List.getElem?_eq_getElem hj, Option.getD_some]
     rw [e, hm, decide_eq_false hne]; rfl
theorem meet_comm (p q : HT) : meetB p q = meetB q p := by unfold meetB; rw [Bool.and_comm]
theorem add_pools {P : List HT} {out a n : Int} (h : (addP P out a n).2 = 0) : PoolsP P out ∧ (addP P out a n).1 = P ++ [(a, (n, 0))] ∧ PoolsP (addP P out a n).1 out := by
 unfold addP at h ⊢
 by_cases hP : PoolsP P out
 ·rw [if_neg (not_not_intro hP)] at h ⊢
  by_cases hr : roomE P out (-1) (a, (n, 0)) ≠ 0
  ·rw [if_pos hr] at h
   exact absurd h hr
  ·rw [if_neg hr]
   obtain ⟨h1, h2, h3⟩ := room_ok (Classical.not_not.1 hr)
   refine ⟨hP, rfl, hP.out0, hP.out4, ?_, fun p hp => ?_, ?_⟩
   ·have := hP.len
    have := h3 rfl
    simp only [List.length_append, List.length_cons, List.length_nil]; omega
   ·rcases List.mem_append.1 hp with hp | hp
    ·exact hP.fits p hp
    ·rw [List.mem_singleton] at hp; subst hp; exact h1
   ·rw [List.pairwise_append]
    refine ⟨hP.apart, by simp, fun p hp q hq => ?_⟩
    rw [List.mem_singleton] at hq; subst hq
    obtain ⟨j, hj, rfl⟩ := List.mem_iff_getElem.1 hp
    exact h2 j hj (by omega)
 ·rw [if_pos hP] at h; cases h
theorem nth_pool {P : List HT} {k : Int} (h : ¬ (k < 0 ∨ (P.length : Int) ≤ k)) : k.toNat < P.length ∧ ∀ (hk : k.toNat < P.length), nthP P k = P[k.toNat] := by
 refine ⟨by omega, fun hk => ?_⟩
 unfold nthP
 rw [List.getD_eq_getElem?_getD, List.getElem?_eq_getElem hk, Option.getD_some]
theorem set_pools {P : List HT} {out : Int} (hP : PoolsP P out) {i : Nat} (hi : i < P.length) {q : HT} (hq : FitsP q out) (hm : ∀ (j : Nat) (hj : j < P.length), j ≠ i → meetB q P[j] = false) : PoolsP (P.set i q) out := by
 refine ⟨hP.out0, hP.out4, by rw [List.length_set]; exact hP.len, fun p hp => ?_, ?_⟩
 ·rcases mem_set hp with rfl | ⟨j, hj, _, rfl⟩
  ·exact hq
  ·exact hP.fits _ (List.getElem_mem _)
 ·rw [List.pairwise_iff_getElem]
  intro x y hx hy hxy
  rw [List.getElem_set, List.getElem_set]
  rw [List.length_set] at hx hy
  by_cases e1 : i = x
  ·rw [if_pos e1, if_neg (by omega), meet_comm]
   exact hm y hy (by omega)
  ·rw [if_neg e1]
   by_cases e2 : i = y
   ·rw [if_pos e2]; exact hm x hx (by omega)
   ·rw [if_neg e2]
    exact List.pairwise_iff_getElem.1 hP.apart x y hx hy hxy
theorem in_set {P : List HT} {i : Nat} (hi : i < P.length) {q : HT} {a : Int} (h : inB P a = true) (hq : hasB P[i] a = true → hasB q a = true) : inB (P.set i q) a = true := by
 unfold inB at h ⊢
 rw [List.any_eq_true] at h ⊢
 obtain ⟨p, hp, ha⟩ := h
 obtain ⟨j, hj, rfl⟩ := List.mem_iff_getElem.1 hp
 by_cases e : i = j
 ·subst e
  exact ⟨q, List.mem_iff_getElem.2 ⟨i, by rw [List.length_set]; exact hi, by rw [List.getElem_set, if_pos rfl]⟩, hq ha⟩
 ·exact ⟨P[j], List.mem_iff_getElem.2 ⟨j, by rw [List.length_set]; exact hj, by rw [List.getElem_set, if_neg e]⟩, ha⟩
theorem drain_pools {P : List HT} {out k : Int} (h : (drainP P out k).2 = 0) : PoolsP P out ∧ PoolsP (drainP P out k).1 out ∧ ∀ a, inB P a = true → inB (drainP P out k).1 a = true := by
 unfold drainP at h ⊢
 by_cases hP : PoolsP P out
 ·rw [if_neg (not_not_intro hP)] at h ⊢
  by_cases hk : k < 0 ∨ (P.length : Int) ≤ k
  ·rw [if_pos hk] at h; cases h
  ·rw [if_neg hk] at h ⊢
   obtain ⟨hi, hn⟩ := nth_pool hk
   have hn := hn hi
   split at h
   ·cases h
   ·rename_i hd
    rw [if_neg hd, hn]
    have hf := hP.fits _ (List.getElem_mem hi)
    have hm : ∀ (j : Nat) (hj : j < P.length), j ≠ k.toNat → meetB (P[k.toNat].1, (P[k.toNat].2.1, 1)) P[j] = false := by
     intro j hj hne
     show meetB P[k.toNat] P[j] = false
     rcases Nat.lt_or_ge j k.toNat with h1 | h1
     ·exact List.pairwise_iff_getElem.1 hP.apart j k.toNat hj hi h1
     ·rw [meet_comm]; exact List.pairwise_iff_getElem.1 hP.apart k.toNat j hi hj (by omega)
    refine ⟨hP, set_pools hP hi ⟨hf.1, hf.2.1, hf.2.2.1, hf.2.2.2.1, by show (0 : Int) ≤ 1; decide, by show (1 : Int) < 2; decide⟩ hm, fun a ha => in_set hi ha fun hq => hq⟩
 ·rw [if_pos hP] at h; cases h
theorem lost_none {busy : List Int} {p q : HT} (h : ¬ lostB busy p q = true) {a : Int} (ha : a ∈ busy) (hp : hasB p a = true) : hasB q a = true := by
 cases hq : hasB q a with
 | true => rfl
 | false =>
  exfalso
  refine h ?_
  unfold lostB
  rw [List.any_eq_true]
  exact ⟨a, ha, by rw [hp, hq]; rfl⟩
theorem size_pools {P : List HT} {out k n : Int} {busy : List Int} (h : (sizeP P out k n busy).2 = 0) : PoolsP P out ∧ PoolsP (sizeP P out k n busy).1 out ∧ ∀ a ∈ busy, inB P a = true → inB (sizeP P out k n busy).1 a = true := by
 unfold sizeP at h ⊢
 by_cases hP : PoolsP P out
 ·rw [if_neg (not_not_intro hP)] at h ⊢
  by_cases hk : k < 0 ∨ (P.length : Int) ≤ k
  ·rw [if_pos hk] at h; cases h
  ·rw [if_neg hk] at h ⊢
   obtain ⟨hi, hn⟩ := nth_pool hk
   have hn := hn hi
   rw [hn] at h ⊢
   by_cases hr : roomE P out k (P[k.toNat].1, (n, P[k.toNat].2.2)) ≠ 0
   ·rw [if_pos hr] at h; exact absurd h hr
   ·rw [if_neg hr] at h ⊢
    by_cases hl : lostB busy P[k.toNat] (P[k.toNat].1, (n, P[k.toNat].2.2)) = true
    ·rw [if_pos hl] at h; cases h
    ·rw [if_neg hl]
     obtain ⟨h1, h2, _⟩ := room_ok (Classical.not_not.1 hr)
     exact ⟨hP, set_pools hP hi h1 (fun j hj hne => h2 j hj (by omega)), fun a ha hin => in_set hi hin fun hq => lost_none hl ha hq⟩
 ·rw [if_pos hP] at h; cases h
theorem gone_pools {P : List HT} {out k : Int} {busy : List Int} (h : (goneP P out k busy).2 = 0) : PoolsP P out ∧ PoolsP (goneP P out k busy).1 out ∧ ∀ a ∈ busy, inB P a = true → inB (goneP P out k busy).1 a = true := by
 unfold goneP at h ⊢
 by_cases hP : PoolsP P out
 ·rw [if_neg (not_not_intro hP)] at h ⊢
  by_cases hk : k < 0 ∨ (P.length : Int) ≤ k
  ·rw [if_pos hk] at h; cases h
  ·rw [if_neg hk] at h ⊢
   obtain ⟨hi, hn⟩ := nth_pool hk
   have hn := hn hi
   rw [hn] at h ⊢
   split at h
   ·cases h
   ·rename_i hl
    rw [if_neg hl]
    refine ⟨hP, ⟨hP.out0, hP.out4, ?_, fun p hp => hP.fits p ((List.eraseIdx_sublist _ _).subset hp), hP.apart.sublist (List.eraseIdx_sublist _ _)⟩, fun a ha hin => ?_⟩
    ·have := hP.len
     have := (List.eraseIdx_sublist P k.toNat).length_le
     show (P.eraseIdx k.toNat).length ≤ 3
     omega
    ·unfold inB at hin ⊢
     rw [List.any_eq_true] at hin ⊢
     obtain ⟨p, hp, hpa⟩ := hin
     obtain ⟨j, hj, rfl⟩ := List.mem_iff_getElem.1 hp
     by_cases e : j = k.toNat
     ·subst e
      have := lost_none (fun h => hl (.inr h)) ha hpa
      simp [hasB] at this
     ·refine ⟨P[j], ?_, hpa⟩
      rw [List.mem_eraseIdx_iff_getElem]
      exact ⟨j, hj, e, rfl⟩
 ·rw [if_pos hP] at h; cases h
theorem busy_mem {L : List LT} {x : LT} (hx : x ∈ L) : x.2.1 ∈ busyL L := ((busy_ok L).2 _).2 ⟨x, hx, rfl⟩
theorem pools_may {s : ST} (M : MayS s) {r : List HT × Int} {e : ET} (h : r.2 = 0) (h1 : PoolsP r.1 (szY s.1)) (h2 : ∀ x ∈ s.2.2.2.2.1, inB s.2.2.2.1 x.2.1 = true → inB r.1 x.2.1 = true) : MayS (setPools s r.1) :=
 ⟨M.fit, M.pol, M.now0, M.now1, h1, M.leases.pools h2, M.len, M.helds⟩
theorem firstAt_ge (f : Int → Int) : ∀ (n : Nat) (a : Int), a ≤ firstAt f n a ∧ firstAt f n a ≤ a + n
 | 0, a => by simp [firstAt]
 | n + 1, a => by
  unfold firstAt
  split
  ·have := firstAt_ge f n (a + 1); omega
  ·omega
theorem firstAt_ne (f : Int → Int) : ∀ (n : Nat) (a : Int), firstAt f n a < a + n → f (firstAt f n a) ≠ -1
 | 0, a, h => by simp [firstAt] at h
 | n + 1, a, h => by
  unfold firstAt at h ⊢
  split
  ·rename_i hf
   rw [if_pos hf] at h
   exact firstAt_ne f n (a + 1) (by omega)
  ·rename_i hf; exact hf
theorem takeU_lt {n U : Nat} (hU : U < 2 ^ n) (i : Int) : takeU n U i < 2 ^ n := by
 unfold takeU
 split
 ·rename_i h
  exact Nat.xor_lt_two_pow hU (Nat.pow_lt_pow_right (by decide) (by omega))
 ·exact hU
theorem toN' (n : Nat) : Int.toNat ((n : Nat) : Int) = n := rfl
theorem takeU_bit {n U : Nat} (i : Int) {j : Nat} (hj : j < n) : (takeU n U i).testBit j = (U.testBit j || decide (i = (j : Int))) := by
 unfold takeU
 by_cases h : i = (j : Int)
 ·subst h
  simp only [decide_true, Bool.or_true]
  split
  ·rename_i h
   rw [toN', Nat.testBit_xor, Nat.testBit_two_pow_self]
   rw [toN'] at h
   rw [h.2.2]; rfl
  ·rename_i h
   rw [toN'] at h
   cases hb : U.testBit j with
   | true => rfl
   | false => exact absurd ⟨by omega, by omega, hb⟩ h
 ·rw [decide_eq_false h, Bool.or_false]
  split
  ·rename_i hh
   rw [Nat.testBit_xor, Nat.testBit_two_pow, decide_eq_false (by omega), Bool.xor_false]
  ·rfl
theorem useU_lt {n : Nat} (at' : Int) : ∀ (l : List (Int × Int)) {U : Nat}, U < 2 ^ n → useU n at' U l < 2 ^ n
 | [], U, h => h
 | b :: l, U, h => by
  show useU n at' (if b.1 = at' then takeU n U b.2 else U) l < 2 ^ n
  refine useU_lt at' l ?_
  split
  ·exact takeU_lt h _
  ·exact h
theorem useU_bit {n : Nat} (at' : Int) {j : Nat} (hj : j < n) : ∀ (l : List (Int × Int)) (U : Nat), (useU n at' U l).testBit j = (U.testBit j || l.any fun b => decide (b.1 = at') && decide (b.2 = (j : Int)))
 | [], U => by simp [useU]
 | b :: l, U => by
  show (useU n at' (if b.1 = at' then takeU n U b.2 else U) l).testBit j = _
  rw [useU_bit at' hj l, List.any_cons]
  by_cases h : b.1 = at'
  ·rw [if_pos h, takeU_bit _ hj, decide_eq_true h, Bool.true_and, Bool.or_assoc]
  ·rw [if_neg h, decide_eq_false h, Bool.false_and, Bool.false_or]
theorem u_lt {n U : Nat} (hn : n ≤ 8) (hU : U < 2 ^ n) : U < 256 := Nat.lt_of_lt_of_le hU (Nat.pow_le_pow_right (by decide) hn)
theorem first_bits : ∀ n : Fin 9, ∀ U : Fin 256, U.val < 2 ^ n.val → 0 < 2 ^ n.val - 1 - U.val → Lib.ctz 64 (2 ^ n.val - 1 - U.val) < n.val ∧ U.val.testBit (Lib.ctz 64 (2 ^ n.val - 1 - U.val)) = false := by decide +kernel
theorem firstI_ok {n U : Nat} (hn : n ≤ 8) (hU : U < 2 ^ n) : firstI n U = -1 ∨ ∃ j : Nat, firstI n U = (j : Int) ∧ j < n ∧ U.testBit j = false := by
 unfold firstI
 split
 ·rename_i h
  have := first_bits ⟨n, by omega⟩ ⟨U, u_lt hn hU⟩ hU h
  exact .inr ⟨_, rfl, this.1, this.2⟩
 ·exact .inl rfl
theorem poolOf_gives {P : List HT} {a : Int} (h : givesB P a = true) : inB P a = true := by
 unfold givesB at h
 simp only [Bool.and_eq_true, decide_eq_true_eq] at h
 cases hb : inB P a with
 | true => rfl
 | false => exact absurd ((poolOf_none P a).2 hb) h.1
theorem block_ok {s : ST} (M : MayS s) {a : Int} (h : blockI s a ≠ -1) (ha : 0 ≤ a) (ha2 : a < szY s.1) :
  givesB s.2.2.2.1 a = true ∧ BlkP s.1 a (blockI s a) ∧ hasL s.2.2.2.2.1 a (blockI s a) = false ∧ ∀ x ∈ s.2.2.2.2.2, kH x ≠ (a, blockI s a) := by
 unfold blockI at h ⊢
 by_cases hg : givesB s.2.2.2.1 a = true
 ·rw [if_pos hg] at h ⊢
  have hb8 := M.fit.blk
  have hb0 : 0 ≤ blks s.1 := Int.ediv_nonneg M.fit.g1 (by have := M.fit.h1; omega)
  have hU : usedU s a < 2 ^ (blks s.1).toNat := useU_lt a _ (Nat.two_pow_pos _)
  rcases firstI_ok (show (blks s.1).toNat ≤ 8 by omega) hU with h1 | ⟨j, h1, h2, h3⟩
  ·exact absurd h1 h
  ·rw [h1]
   unfold usedU at h3
   rw [useU_bit a h2, Nat.zero_testBit, Bool.false_or, List.any_append] at h3
   have h4 := Bool.or_eq_false_iff.1 h3
   refine ⟨hg, ⟨M.fit, ⟨ha, ha2⟩, by omega, by omega⟩, ?_, fun x hx e => ?_⟩
   ·rw [hasL_K]
    refine hasK_none fun x hx e => ?_
    have h5 := h4.1
    rw [List.any_map, List.any_eq_false] at h5
    refine h5 x hx ?_
    have e1 : x.2.1 = a := congrArg Prod.fst e
    have e2 : x.2.2.1 = (j : Int) := congrArg Prod.snd e
    simp [Function.comp, kL, e1, e2]
   ·have h5 := h4.2
    rw [List.any_map, List.any_eq_false] at h5
    refine h5 x hx ?_
    have e1 : x.1 = a := congrArg Prod.fst e
    have e2 : x.2.1 = (j : Int) := congrArg Prod.snd e
    simp [Function.comp, kH, e1, e2]
 ·rw [if_neg hg] at h; exact absurd rfl h
structure Granted (s : ST) (sub a b : Int) (r : DoT) : Prop where
 a0 : 0 ≤ a
 a1 : a < szY s.1
 who : SubP s.1 sub
 quota : ((cnt s.2.2.2.2.1 sub : Nat) : Int) < s.2.1.1
 gives : givesB s.2.2.2.1 a = true
 blk : BlkP s.1 a b
 free : hasL s.2.2.2.2.1 a b = false
 held : ∀ x ∈ s.2.2.2.2.2, kH x ≠ (a, b)
 pair : s.2.1.2.2.2 = true → sub / rat s.1 = a
 st : r.1 = setL s (insK kL s.2.2.2.2.1 (sub, (a, (b, (s.2.2.1, s.2.2.1)))))
 ev : r.2.1 = [(0, (s.2.2.1, (sub, (a, (b, P0)))))]
 ans : r.2.2 = (0, (a, b))
 may : MayS r.1
theorem grantAt_ok {s : ST} (M : MayS s) {sub a to : Int} (ha : 0 ≤ a) (hto : to ≤ szY s.1) (hs : SubP s.1 sub) (hq : ((cnt s.2.2.2.2.1 sub : Nat) : Int) < s.2.1.1)
  (hp : s.2.1.2.2.2 = true → to ≤ a + 1 ∧ sub / rat s.1 = a) : grantAt s sub a to = errS s 7 ∨ ∃ x y, Granted s sub x y (grantAt s sub a to) := by
 unfold grantAt
 by_cases h : to ≤ firstAt (blockI s) (to - a).toNat a
 ·rw [if_pos h]; exact .inl rfl
 ·rw [if_neg h]
  have h1 := firstAt_ge (blockI s) (to - a).toNat a
  have h2 := firstAt_ne (blockI s) (to - a).toNat a (by omega)
  generalize firstAt (blockI s) (to - a).toNat a = x at h h1 h2 ⊢
  obtain ⟨b1, b2, b3, b4⟩ := block_ok M h2 (by omega) (by omega)
  have hx : LeaseOK s.1 s.2.1 s.2.2.1 s.2.2.2.1 (sub, (x, (blockI s x, (s.2.2.1, s.2.2.1)))) :=
   ⟨hs, b2, poolOf_gives b1, fun h' => by have := hp h'; show sub / rat s.1 = x; omega, M.now0, Int.le_refl _, Int.le_refl _, by have := M.pol.2.1; show s.2.2.1 - s.2.1.2.1 < s.2.2.1; omega⟩
  obtain ⟨e1, e2⟩ := put_may M hx hq b3 b4
  exact .inr ⟨x, blockI s x, by omega, by omega, hs, hq, b1, b2, b3, b4, fun h' => by have := hp h'; omega, by rw [e1], rfl, rfl, e2⟩
theorem grant_ok {s : ST} (M : MayS s) (sub : Int) : (∃ e, e ≠ 0 ∧ grantS s sub = errS s e) ∨ ∃ x y, Granted s sub x y (grantS s sub) := by
 unfold grantS
 by_cases h1 : SubP s.1 sub
 ·rw [if_neg (not_not_intro h1)]
  by_cases h2 : ((cnt s.2.2.2.2.1 sub : Nat) : Int) < s.2.1.1
  ·rw [if_neg (not_not_intro h2)]
   have hb := M.fit.base h1.2.1 h1.2.2
   by_cases h3 : s.2.1.2.2.2 = true
   ·rw [if_pos h3]
    by_cases h4 : poolOf s.2.2.2.1 (sub / rat s.1) = -1
    ·rw [if_pos h4]; exact .inl ⟨7, by decide, rfl⟩
    ·rw [if_neg h4]
     by_cases h5 : givesB s.2.2.2.1 (sub / rat s.1) = false
     ·rw [if_pos h5]; exact .inl ⟨8, by decide, rfl⟩
     ·rw [if_neg h5]
      rcases grantAt_ok M (sub := sub) (a := sub / rat s.1) (to := sub / rat s.1 + 1) hb.1 (by omega) h1 h2 (fun _ => ⟨Int.le_refl _, rfl⟩) with h | h
      ·exact .inl ⟨7, by decide, h⟩
      ·exact .inr h
   ·rw [if_neg h3]
    rcases grantAt_ok M (sub := sub) (a := 0) (to := szY s.1) (Int.le_refl _) (Int.le_refl _) h1 h2 (fun h => absurd h h3) with h | h
    ·exact .inl ⟨7, by decide, h⟩
    ·exact .inr h
  ·rw [if_pos h2]; exact .inl ⟨6, by decide, rfl⟩
 ·rw [if_pos h1]; exact .inl ⟨5, by decide, rfl⟩
theorem do_ok (s : ST) (r : RT) : (∃ e, e ≠ 0 ∧ doS s r = errS s e) ∨ (MayS s ∧ MayS (doS s r).1 ∧ s.2.2.1 ≤ (doS s r).1.2.2.1 ∧ (doS s r).1.1 = s.1 ∧ (doS s r).2.2.1 = 0) := by
 unfold doS
 by_cases h0 : MayS s ∧ 0 ≤ r.1 ∧ r.1 < 9
 case neg => rw [if_pos h0]; exact .inl ⟨1, by decide, rfl⟩
 rw [if_neg (not_not_intro h0)]
 have M := h0.1
 have pl : ∀ (q : List HT × Int) (e : ET), (q.2 = 0 → MayS (setPools s q.1)) → (∃ e', e' ≠ 0 ∧ poolsS s q e = errS s e') ∨ (MayS s ∧ MayS (poolsS s q e).1 ∧ s.2.2.1 ≤ (poolsS s q e).1.2.2.1 ∧ (poolsS s q e).1.1 = s.1 ∧ (poolsS s q e).2.2.1 = 0) := by
  intro q e hq
  unfold poolsS
  by_cases h : q.2 ≠ 0
  ·rw [if_pos h]; exact .inl ⟨q.2, h, rfl⟩
  ·rw [if_neg h]; exact .inr ⟨M, hq (Classical.not_not.1 h), Int.le_refl _, rfl, rfl⟩
 by_cases h : r.1 = 0
 ·rw [if_pos h]
  rcases grant_ok M r.2.1 with h | ⟨x, y, G⟩
  ·exact .inl h
  ·exact .inr ⟨M, G.may, by rw [G.st]; exact Int.le_refl _, by rw [G.st], by rw [G.ans]⟩
 rw [if_neg h]
 by_cases h : r.1 = 1
 ·rw [if_pos h]
  unfold refreshS
  by_cases hm : mineP s.2.2.2.2.1 r.2.1 r.2.2.1 r.2.2.2.1
  ·rw [if_neg (not_not_intro hm)]; exact .inr ⟨M, refresh_may M hm.1, Int.le_refl _, rfl, rfl⟩
  ·rw [if_pos hm]; exact .inl ⟨5, by decide, rfl⟩
 rw [if_neg h]
 by_cases h : r.1 = 2
 ·rw [if_pos h]
  unfold releaseS
  by_cases hm : mineP s.2.2.2.2.1 r.2.1 r.2.2.1 r.2.2.2.1
  ·rw [if_neg (not_not_intro hm)]; exact .inr ⟨M, free_may M (mine_mem hm.1).1, Int.le_refl _, rfl, rfl⟩
  ·rw [if_pos hm]; exact .inl ⟨5, by decide, rfl⟩
 rw [if_neg h]
 by_cases h : r.1 = 3
 ·rw [if_pos h]
  unfold tickS
  by_cases hn : r.2.2.2.2.1 < s.2.2.1 ∨ 1073741824 < r.2.2.2.2.1
  ·rw [if_pos hn]; exact .inl ⟨10, by decide, rfl⟩
  ·rw [if_neg hn]
   exact .inr ⟨M, tick_may M (by omega) (by omega), by show s.2.2.1 ≤ r.2.2.2.2.1; omega, (freed_due M _).d, rfl⟩
 rw [if_neg h]
 by_cases h : r.1 = 4
 ·rw [if_pos h]
  refine pl _ _ fun hq => pools_may (e := (0, (0, (0, (0, (0, P0)))))) M hq (add_pools hq).2.2 fun x hx hin => ?_
  rw [(add_pools hq).2.1]
  unfold inB at hin ⊢
  rw [List.any_append, hin]; rfl
 rw [if_neg h]
 by_cases h : r.1 = 5
 ·rw [if_pos h]
  exact pl _ _ fun hq => pools_may (e := (0, (0, (0, (0, (0, P0)))))) M hq (drain_pools hq).2.1 fun x hx hin => (drain_pools hq).2.2 _ hin
 rw [if_neg h]
 by_cases h : r.1 = 6
 ·rw [if_pos h]
  exact pl _ _ fun hq => pools_may (e := (0, (0, (0, (0, (0, P0)))))) M hq (size_pools hq).2.1 fun x hx hin => (size_pools hq).2.2 _ (busy_mem hx) hin
 rw [if_neg h]
 by_cases h : r.1 = 7
 ·rw [if_pos h]
  exact pl _ _ fun hq => pools_may (e := (0, (0, (0, (0, (0, P0)))))) M hq (gone_pools hq).2.1 fun x hx hin => (gone_pools hq).2.2 _ (busy_mem hx) hin
 rw [if_neg h]
 unfold policyS
 by_cases h1 : PolP r.2.2.2.2.2
 ·rw [if_neg (not_not_intro h1)]
  by_cases h2 : MayS (setPol s r.2.2.2.2.2)
  ·rw [if_neg (not_not_intro h2)]; exact .inr ⟨M, h2, Int.le_refl _, rfl, rfl⟩
  ·rw [if_pos h2]; exact .inl ⟨12, by decide, rfl⟩
 ·rw [if_pos h1]; exact .inl ⟨1, by decide, rfl⟩
theorem has_of {L : List LT} {y : LT} (hy : y ∈ L) : hasL L y.2.1 y.2.2.1 = true := hasL_mem.2 ⟨y, hy, rfl⟩
theorem mine_of {L : List LT} (hs : L.Pairwise ltL) {y : LT} (hy : y ∈ L) : mineL L y.2.1 y.2.2.1 = y :=
 have h := mine_mem (has_of hy)
 srtK_inj (k := kL) hs h.1 hy h.2
theorem del_none {L : List LT} (hs : L.Pairwise ltL) (a b : Int) : hasL (delL L a b) a b = false := by
 rw [delL_filter hs, hasL_K]
 refine hasK_none fun x hx e => ?_
 have h := (List.mem_filter.1 hx).2
 rw [decide_eq_true e] at h
 cases h
theorem del_len {L : List LT} {a b : Int} (h : hasL L a b = true) : (delL L a b).length = L.length - 1 := by
 unfold hasL at h
 rw [List.any_eq_true] at h
 unfold delL
 rw [List.length_eraseIdx, if_pos (List.findIdx_lt_length.2 h)]
section
variable {s : ST} {y : LT}
theorem rel_do (M : MayS s) (hy : y ∈ s.2.2.2.2.1) (x : Int × PT) :
  doS s (2, (y.1, (y.2.1, (y.2.2.1, x)))) = (freeT s y s.2.2.1, ([freeE y s.2.2.1], (0, (y.2.1, y.2.2.1)))) := by
 unfold doS
 rw [if_neg (not_not_intro ⟨M, by show (0 : Int) ≤ 2; omega, by show (2 : Int) < 9; omega⟩), if_neg (by show ¬ (2 : Int) = 0; omega), if_neg (by show ¬ (2 : Int) = 1; omega), if_pos rfl]
 have e := mine_of M.leases.srt hy
 show releaseS s y.1 y.2.1 y.2.2.1 = _
 unfold releaseS
 rw [if_neg (not_not_intro ⟨has_of hy, by rw [e]⟩), e]
theorem no_do (M : MayS s) {k a b c : Int} (hk : k = 1 ∨ k = 2) (h : hasL s.2.2.2.2.1 b c = false) (x : Int × PT) : doS s (k, (a, (b, (c, x)))) = errS s 5 := by
 have hn : ¬ mineP s.2.2.2.2.1 a b c := fun h' => by have := h'.1; rw [h] at this; cases this
 unfold doS
 rcases hk with rfl | rfl
 ·rw [if_neg (not_not_intro ⟨M, by show (0 : Int) ≤ 1; omega, by show (1 : Int) < 9; omega⟩), if_neg (by show ¬ (1 : Int) = 0; omega), if_pos rfl]
  exact if_pos hn
 ·rw [if_neg (not_not_intro ⟨M, by show (0 : Int) ≤ 2; omega, by show (2 : Int) < 9; omega⟩), if_neg (by show ¬ (2 : Int) = 0; omega), if_neg (by show ¬ (2 : Int) = 1; omega), if_pos rfl]
  exact if_pos hn
theorem rel_held (M : MayS s) (hy : y ∈ s.2.2.2.2.1) :
  (freeT s y s.2.2.1).2.2.2.2.2.any (fun h => decide (h = (y.2.1, (y.2.2.1, s.2.2.1 + s.2.1.2.2.1)))) = decide (0 < s.2.1.2.2.1) := by
 unfold freeT
 show (if 0 < s.2.1.2.2.1 then _ else _ : List HT).any _ = _
 by_cases h : 0 < s.2.1.2.2.1
 ·rw [if_pos h, decide_eq_true h, List.any_eq_true]
  exact ⟨_, mem_holdH.2 (.inl rfl), decide_eq_true rfl⟩
 ·rw [if_neg h, decide_eq_false h, List.any_eq_false]
  intro x hx e
  have hn := (M.helds.each x hx).free
  have e := of_decide_eq_true e
  rw [e] at hn
  have := has_of hy
  rw [hn] at this; cases this
theorem may_not (M : ¬ MayS s) (r : RT) : doS s r = errS s 1 := if_pos fun h => M h.1
abbrev usedS (s : ST) (y : LT) : ST := setL s (s.2.2.2.2.1.set (s.2.2.2.2.1.findIdx (isL y.2.1 y.2.2.1)) (touch y s.2.2.1))
theorem ref_do (M : MayS s) (hy : y ∈ s.2.2.2.2.1) (x : Int × PT) : doS s (1, (y.1, (y.2.1, (y.2.2.1, x)))) = (usedS s y, ([], (0, (y.2.1, y.2.2.1)))) ∧ MayS (usedS s y) := by
 have h := refresh_may M (has_of hy)
 rw [mine_of M.leases.srt hy] at h
 refine ⟨?_, h⟩
 unfold doS
 rw [if_neg (not_not_intro ⟨M, by show (0 : Int) ≤ 1; omega, by show (1 : Int) < 9; omega⟩), if_neg (by show ¬ (1 : Int) = 0; omega), if_pos rfl]
 have e := mine_of M.leases.srt hy
 show refreshS s y.1 y.2.1 y.2.2.1 = _
 unfold refreshS
 rw [if_neg (not_not_intro ⟨has_of hy, by rw [e]⟩), e]
theorem tick_do (M : MayS s) (a b c n : Int) (p : PT) : doS s (3, (a, (b, (c, (n, p))))) = tickS s n := by
 unfold doS
 rw [if_neg (not_not_intro ⟨M, by show (0 : Int) ≤ 3; omega, by show (3 : Int) < 9; omega⟩), if_neg (by show ¬ (3 : Int) = 0; omega), if_neg (by show ¬ (3 : Int) = 1; omega), if_neg (by show ¬ (3 : Int) = 2; omega), if_pos rfl]
theorem used_mem (hy : y ∈ s.2.2.2.2.1) : touch y s.2.2.1 ∈ (usedS s y).2.2.2.2.1 := by
 have h := has_of hy
 unfold hasL at h
 rw [List.any_eq_true] at h
 exact List.mem_set (List.findIdx_lt_length.2 h) _
theorem grant_do (M : MayS s) (a : Int) (x : Int × (Int × (Int × PT))) : doS s (0, (a, x)) = grantS s a := by
 unfold doS
 rw [if_neg (not_not_intro ⟨M, by show (0 : Int) ≤ 0; omega, by show (0 : Int) < 9; omega⟩), if_pos rfl]
theorem del_ins {L : List LT} (hs : L.Pairwise ltL) {x : LT} (h : hasL L x.2.1 x.2.2.1 = false) : delL (insK kL L x) x.2.1 x.2.2.1 = L := by
 have hn := h
 rw [hasL_K] at hn
 have h2 : (insK kL L x).Pairwise ltL := srtK_ins (k := kL) hs hn
 rw [delL_filter h2]
 refine srtK_ext (k := kL) (h2.sublist List.filter_sublist) hs fun z => ?_
 rw [List.mem_filter, mem_insK]
 constructor
 ·rintro ⟨rfl | h, hk⟩
  ·rw [decide_eq_true (show kL z = (z.2.1, z.2.2.1) from rfl)] at hk; cases hk
  ·exact h
 ·intro h
  refine ⟨.inr h, ?_⟩
  rw [decide_eq_false (hasK_false hn z h)]; rfl
theorem find_has (L : List LT) (a b : Int) : decide (0 ≤ findL L a b) = hasL L a b := by
 cases h : hasL L a b with
 | false => rw [(findL_none L a b).2 h]; rfl
 | true =>
  unfold hasL at h
  rw [List.any_eq_true] at h
  unfold findL
  rw [if_pos (List.findIdx_lt_length.2 h)]
  exact decide_eq_true (by omega)
theorem idle_has (M : MayS s) (hy : y ∈ s.2.2.2.2.1) (n : Int) (h1 : s.2.2.1 ≤ n) :
  hasL (freeAll (usedS s y) (dueL (usedS s y) n)).2.2.2.2.1 y.2.1 y.2.2.1 = decide (n - s.2.2.1 < s.2.1.2.1) := by
 have M2 := (ref_do M hy (0, P0)).2
 rw [tick_leases M2 n, Bool.eq_iff_iff, decide_eq_true_eq, hasL_mem]
 have hu := used_mem hy
 constructor
 ·rintro ⟨x, hx, hk⟩
  have hx := List.mem_filter.1 hx
  have e : x = touch y s.2.2.1 := srtK_inj (k := kL) M2.leases.srt hx.1 hu (by rw [hk]; rfl)
  subst e
  have h := hx.2
  have h : (!decide (s.2.2.1 + s.2.1.2.1 ≤ n)) = true := h
  rw [Bool.not_eq_true', decide_eq_false_iff_not] at h
  omega
 ·intro h
  refine ⟨_, List.mem_filter.2 ⟨hu, ?_⟩, rfl⟩
  show (!decide (s.2.2.1 + s.2.1.2.1 ≤ n)) = true
  rw [decide_eq_false (by omega)]; rfl
end
noncomputable abbrev stepS (d : ST × List ET) (r : RT) : ST × List ET := ((doS d.1 r).1, d.2 ++ (doS d.1 r).2.1)
noncomputable def runS (s : ST) (l : List RT) : ST × List ET := l.foldl stepS (s, [])
theorem tick_evs (s : ST) (n : Int) : (tickS s n).2.1.length ≤ s.2.2.2.2.1.length := by
 unfold tickS
 split
 ·exact Nat.zero_le _
 ·show ((dueL s n).map _).length ≤ _
  rw [List.length_map]
  unfold dueL
  rw [List.length_mergeSort]
  exact List.length_filter_le _ _
theorem do_evs (s : ST) (r : RT) : (doS s r).2.1.length ≤ 1 + s.2.2.2.2.1.length := by
 unfold doS
 have pl : ∀ (q : List HT × Int) (e : ET), (poolsS s q e).2.1.length ≤ 1 + s.2.2.2.2.1.length := by
  intro q e
  unfold poolsS
  split
  ·exact Nat.zero_le _
  ·show 1 ≤ _; omega
 have ga : ∀ a b c, (grantAt s a b c).2.1.length ≤ 1 + s.2.2.2.2.1.length := by
  intro a b c
  unfold grantAt
  split
  ·exact Nat.zero_le _
  ·show 1 ≤ _; omega
 split
 ·exact Nat.zero_le _
 split
 ·unfold grantS
  split
  ·exact Nat.zero_le _
  split
  ·exact Nat.zero_le _
  split
  ·split
   ·exact Nat.zero_le _
   split
   ·exact Nat.zero_le _
   ·exact ga _ _ _
  ·exact ga _ _ _
 split
 ·unfold refreshS
  split <;> exact Nat.zero_le _
 split
 ·unfold releaseS
  split
  ·exact Nat.zero_le _
  ·show 1 ≤ _; omega
 split
 ·have := tick_evs s r.2.2.2.2.1; omega
 split
 ·exact pl _ _
 split
 ·exact pl _ _
 split
 ·exact pl _ _
 split
 ·exact pl _ _
 ·unfold policyS
  split
  ·exact Nat.zero_le _
  split
  ·exact Nat.zero_le _
  ·show 1 ≤ _; omega
theorem run_inv {I : ST → List ET → Prop} (hI : ∀ s E r, I s E → I (doS s r).1 (E ++ (doS s r).2.1)) {s : ST} (h0 : I s []) (l : List RT) : I (runS s l).1 (runS s l).2 := by
 have : ∀ (l : List RT) (d : ST × List ET), I d.1 d.2 → I (l.foldl stepS d).1 (l.foldl stepS d).2 := by
  intro l
  induction l with
  | nil => exact fun d h => h
  | cons r l ih => exact fun d h => ih _ (hI _ _ _ h)
 exact this l _ h0
theorem run_snoc (s : ST) (l : List RT) {j : Nat} (h : j < l.length) : runS s (l.take (j + 1)) = stepS (runS s (l.take j)) l[j] := by
 unfold runS
 rw [take_snoc h, List.foldl_append]; rfl
theorem do_may {s : ST} (M : MayS s) (r : RT) : MayS (doS s r).1 ∧ (doS s r).1.1 = s.1 := by
 rcases do_ok s r with ⟨e, _, h1⟩ | h1
 ·rw [h1]; exact ⟨M, rfl⟩
 ·exact ⟨h1.2.1, h1.2.2.2.1⟩
theorem run_may {s : ST} (M : MayS s) (l : List RT) : MayS (runS s l).1 ∧ (runS s l).1.1 = s.1 :=
 run_inv (I := fun t _ => MayS t ∧ t.1 = s.1) (fun t _ r h => ⟨(do_may h.1 r).1, by rw [(do_may h.1 r).2, h.2]⟩) ⟨M, rfl⟩ l
theorem run_len {s : ST} (M : MayS s) (l : List RT) : ∀ j, j ≤ l.length → (runS s (l.take j)).2.length ≤ 33 * j
 | 0, _ => by rw [List.take_zero]; exact Nat.le_refl _
 | j + 1, h => by
  have hj : j < l.length := by omega
  have h1 := run_len M l j (by omega)
  have h2 := do_evs (runS s (l.take j)).1 l[j]
  have h3 := (run_may M (l.take j)).1.len
  rw [run_snoc s l hj]
  show ((runS s (l.take j)).2 ++ _).length ≤ _
  rw [List.length_append]
  omega
end Go.Proofs.Zz
