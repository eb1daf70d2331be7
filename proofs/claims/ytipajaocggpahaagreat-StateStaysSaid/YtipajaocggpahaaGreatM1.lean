/- The model, told of data: addresses, mappings, pools; states that may be. -/
import Derived.Test.YtipajaocggpahaaGreatItl
import Derived.Test.YtipajaocggpahaaGreatIt2
namespace Go.Proofs.Zz
open Go Go.Sy
set_option linter.unusedSimpArgs false
set_option linter.unusedVariables false

/-- a lease: whose, of which address, which block, since when, last used -/
abbrev LT := Int × (Int × (Int × (Int × Int)))
/-- what is held (address, block, till); a pool (from, how many, what it does) -/
abbrev HT := Int × (Int × Int)
/-- a mapping -/
abbrev DT := (Int × Int) × ((Int × Int) × (Int × (Int × (Int × Int))))
/-- a policy -/
abbrev PT := Int × (Int × (Int × Bool))
/-- a state -/
abbrev ST := DT × (PT × (Int × (List HT × (List LT × List HT))))
noncomputable instance : DecidableEq ST := fun _ _ => Classical.propDecidable _
/-- fits a machine's counter -/
abbrev Sz {α : Type} (l : List α) : Prop := l.length ≤ 9223372036854775807

theorem ge0 (j : Nat) : decide (0 ≤ (j : Int)) = true := decide_eq_true (Int.natCast_nonneg j)
theorem ltn {j n : Nat} (h : j < n) : decide ((j : Int) < (n : Int)) = true := decide_eq_true (by omega)
theorem nlt (n : Nat) : decide ((n : Int) < (n : Int)) = false := decide_eq_false (by omega)
theorem nx {j n : Nat} (h : j < n) (hn : n ≤ 9223372036854775807) : IntKind.wrap .i64 ((j : Int) + 1) = ((j + 1 : Nat) : Int) := by rw [w64 (by omega) (by omega)]; omega
theorem rdL {l : List LT} {j : Nat} (h : j < l.length) : rd (.pair (.int .i64) (.pair (.int .i64) (.pair (.int .i64) (.pair (.int .i64) (.int .i64))))) l j = l[j] := rd_lt h
theorem rdH {l : List HT} {j : Nat} (h : j < l.length) : rd (.pair (.int .i64) (.pair (.int .i64) (.int .i64))) l j = l[j] := rd_lt h
theorem rdI {l : List Int} {j : Nat} (h : j < l.length) : rd (.int .i64) l j = l[j] := rd_lt h
theorem rdB {l : List Int} {j : Nat} (h : j < l.length) : rd (.int .u8) l j = l[j] := rd_lt h
theorem and_dec (p q : Prop) [Decidable p] [Decidable q] : (decide p && decide q) = decide (p ∧ q) := by simp
theorem int_nat {x : Int} (h : 0 ≤ x) : x = ((x.toNat : Nat) : Int) := by omega

/-! addresses -/
/-- 2 ^ (32 - k) -/
def szI (k : Int) : Int := ((2 ^ (32 - k).toNat : Nat) : Int)

def MayP (b k : Int) : Prop := 0 ≤ k ∧ k ≤ 32 ∧ 0 ≤ b ∧ b < 4294967296 ∧ b % szI k = 0
instance (b k : Int) : Decidable (MayP b k) := by unfold MayP; infer_instance

theorem szI_pos (k : Int) : 1 ≤ szI k := by unfold szI; have : 1 ≤ 2 ^ (32 - k).toNat := Nat.one_le_two_pow; omega
theorem szI_le {k : Int} (h : 0 ≤ k) : szI k ≤ 4294967296 := by
  unfold szI
  have : 2 ^ (32 - k).toNat ≤ 2 ^ 32 := Nat.pow_le_pow_right (by omega) (by omega)
  omega

theorem shl_sz {k : Int} (h0 : 0 ≤ k) (h1 : k ≤ 32) : IntKind.wrap .i64 (1 * ((2 : Int) ^ ((min (Int.toNat (IntKind.wrap .i64 (32 - k))) 64) : Nat))) = szI k := by
  rw [w64 (show -9223372036854775808 ≤ 32 - k by omega) (by omega), Nat.min_eq_left (by omega)]
  have := szI_le h0
  have := szI_pos k
  have e : (1 : Int) * ((2 : Int) ^ (32 - k).toNat) = szI k := by simp [szI]
  rw [e, w64 (by omega) (by omega)]

def sizeI (b k : Int) : Int := if MayP b k then szI k else 0

theorem sizeI_bound (b k : Int) : 0 ≤ sizeI b k ∧ sizeI b k ≤ 4294967296 := by
  unfold sizeI
  split
  · rename_i h
    have := szI_pos k
    have := szI_le h.1
    omega
  · omega

theorem szI_dvd {k : Int} (h : 0 ≤ k) : (4294967296 : Int) % szI k = 0 := by
  unfold szI
  have : (2 ^ (32 - k).toNat : Nat) ∣ 2 ^ 32 := Nat.pow_dvd_pow 2 (by omega)
  have h2 := Nat.mod_eq_zero_of_dvd this
  have : ((2 ^ 32 % 2 ^ (32 - k).toNat : Nat) : Int) = 0 := by rw [h2]; rfl
  simpa using this

theorem add_le_of_mod {b N m : Int} (hm : 0 < m) (hb : b % m = 0) (hN : N % m = 0) (h : b < N) : b + m ≤ N := by
  obtain ⟨x, rfl⟩ := Int.dvd_of_emod_eq_zero hb
  obtain ⟨y, rfl⟩ := Int.dvd_of_emod_eq_zero hN
  have : x < y := by
    rcases Int.lt_or_le x y with h' | h'
    · exact h'
    · have := Int.mul_le_mul_of_nonneg_left h' (Int.le_of_lt hm); omega
  have := Int.mul_le_mul_of_nonneg_left (show x + 1 ≤ y by omega) (Int.le_of_lt hm)
  rw [Int.mul_add, Int.mul_one] at this
  exact this

theorem may_room {b k : Int} (h : MayP b k) : b + szI k ≤ 4294967296 :=
  add_le_of_mod (by have := szI_pos k; omega) h.2.2.2.2 (szI_dvd h.1) h.2.2.2.1

def indexI (b k a : Int) : Int := if MayP b k ∧ b ≤ a ∧ a < b + szI k then a - b else -1

theorem xor_zero (a b : Nat) : a ^^^ b = 0 ↔ a = b := by
  constructor
  · intro h
    have : (a ^^^ b) ^^^ b = 0 ^^^ b := by rw [h]
    rwa [Nat.xor_assoc, Nat.xor_self, Nat.xor_zero, Nat.zero_xor] at this
  · intro h; rw [h, Nat.xor_self]

theorem div_same {n a m : Nat} (hm : 0 < m) (hn : n % m = 0) : a / m = n / m ↔ n ≤ a ∧ a < n + m := by
  obtain ⟨x, rfl⟩ := Nat.dvd_of_mod_eq_zero hn
  rw [Nat.mul_div_cancel_left _ hm]
  constructor
  · intro h
    have h1 := Nat.div_mul_le_self a m
    have h2 := Nat.lt_div_mul_add hm (a := a)
    rw [h] at h1 h2
    rw [Nat.mul_comm m x]
    omega
  · intro ⟨h1, h2⟩
    rw [Nat.mul_comm m x] at h1 h2
    rw [Nat.div_eq_iff hm]
    constructor
    · omega
    · omega

def MeetP (b k b' k' : Int) : Prop := MayP b k ∧ MayP b' k' ∧ ((b ≤ b' ∧ b' < b + szI k) ∨ (b' ≤ b ∧ b < b' + szI k'))
instance (b k b' k' : Int) : Decidable (MeetP b k b' k') := by unfold MeetP; infer_instance

theorem index_ne (b k a : Int) : indexI b k a ≠ -1 ↔ MayP b k ∧ b ≤ a ∧ a < b + szI k := by
  unfold indexI
  split
  · rename_i h; constructor
    · exact fun _ => h
    · intro _; omega
  · rename_i h; constructor
    · exact fun h' => absurd rfl h'
    · exact fun h' => absurd h' h

/-! mappings -/
/-- how many subscribers share an address -/
def ratI (x y : Int) : Int := (x - 1) / y + 1

/-- subscribers; public addresses -/
def szX (D : DT) : Int := sizeI D.1.1 D.1.2
def szY (D : DT) : Int := sizeI D.2.1.1 D.2.1.2
abbrev loI (D : DT) : Int := D.2.2.1
abbrev hiI (D : DT) : Int := D.2.2.2.1
abbrev dynI (D : DT) : Int := D.2.2.2.2.1
abbrev wdI (D : DT) : Int := D.2.2.2.2.2
def rat (D : DT) : Int := ratI (szX D) (szY D)
def each (D : DT) : Int := (hiI D - loI D + 1 - dynI D) / rat D
def blks (D : DT) : Int := dynI D / wdI D

/-- a mapping that may be -/
structure FitP (D : DT) : Prop where
  x1 : 1 ≤ szX D
  x2 : szX D ≤ 32
  y1 : 1 ≤ szY D
  y2 : szY D ≤ 4
  meet : ¬ MeetP D.1.1 D.1.2 D.2.1.1 D.2.1.2
  lo1 : 1 ≤ loI D
  lo2 : loI D ≤ hiI D
  hi : hiI D ≤ 65535
  g1 : 0 ≤ dynI D
  g2 : dynI D ≤ hiI D - loI D
  h1 : 1 ≤ wdI D
  h2 : wdI D ≤ 65535
  blk : blks D ≤ 8
  sh : rat D ≤ hiI D - loI D + 1 - dynI D
noncomputable instance (D : DT) : Decidable (FitP D) := Classical.propDecidable _

section
variable {D : DT}
theorem FitP.rat1 (F : FitP D) : 1 ≤ rat D ∧ rat D ≤ 32 := by
  unfold rat ratI
  have h1 : 0 ≤ (szX D - 1) / szY D := Int.ediv_nonneg (by have := F.x1; omega) (by have := F.y1; omega)
  have h2 : (szX D - 1) / szY D ≤ szX D - 1 := Int.ediv_le_self _ (by have := F.x1; omega)
  have := F.x2
  omega

theorem FitP.each1 (F : FitP D) : 1 ≤ each D ∧ rat D * each D ≤ hiI D - loI D + 1 - dynI D := by
  have hr := F.rat1
  have hs := F.sh
  unfold each
  generalize rat D = n at hr hs ⊢
  refine ⟨?_, Int.mul_ediv_self_le (by omega)⟩
  exact (Int.le_ediv_iff_mul_le (by omega)).2 (by omega)

/-- the ports of a subscriber -/
def baseFrom (D : DT) (sub : Int) : Int := loI D + sub % rat D * each D
def baseI (D : DT) (sub : Int) : HT := (sub / rat D, (baseFrom D sub, baseFrom D sub + each D - 1))

def SubP (D : DT) (sub : Int) : Prop := FitP D ∧ 0 ≤ sub ∧ sub < szX D
noncomputable instance (sub : Int) : Decidable (SubP D sub) := Classical.propDecidable _

theorem FitP.base (F : FitP D) {sub : Int} (h0 : 0 ≤ sub) (h1 : sub < szX D) :
    0 ≤ sub / rat D ∧ sub / rat D < szY D ∧ loI D ≤ baseFrom D sub ∧ baseFrom D sub + each D - 1 ≤ hiI D - dynI D ∧ 0 ≤ sub % rat D * each D := by
  have hr := F.rat1
  have he := F.each1
  have hx := F.x2
  have hy1 := F.y1
  have hy2 := F.y2
  have hxy : szX D ≤ szY D * rat D := by
    unfold rat ratI
    generalize szX D = x at h1 hx ⊢
    generalize szY D = y at hy1 hy2 ⊢
    have : y = 1 ∨ y = 2 ∨ y = 3 ∨ y = 4 := by omega
    rcases this with rfl | rfl | rfl | rfl <;> omega
  unfold baseFrom
  generalize rat D = n at hr he hxy ⊢
  generalize each D = w at he ⊢
  have m0 := Int.emod_nonneg sub (show n ≠ 0 by omega)
  have m1 := Int.emod_lt_of_pos sub (show 0 < n by omega)
  have k0 : 0 ≤ sub % n * w := Int.mul_nonneg m0 (by omega)
  have k1 : (sub % n + 1) * w ≤ n * w := Int.mul_le_mul_of_nonneg_right (by omega) (by omega)
  rw [Int.add_mul, Int.one_mul] at k1
  refine ⟨Int.ediv_nonneg h0 (by omega), Int.ediv_lt_of_lt_mul (by omega) (by omega), by omega, by omega, k0⟩

def BlkP (D : DT) (at' blk : Int) : Prop := FitP D ∧ (0 ≤ at' ∧ at' < szY D) ∧ 0 ≤ blk ∧ blk < blks D
noncomputable instance (at' blk : Int) : Decidable (BlkP D at' blk) := Classical.propDecidable _

def blkI (D : DT) (at' blk : Int) : HT := (at', (hiI D - dynI D + 1 + blk * wdI D, hiI D - dynI D + 1 + blk * wdI D + wdI D - 1))

theorem FitP.block (F : FitP D) {blk : Int} (h0 : 0 ≤ blk) (h1 : blk < blks D) : 0 ≤ blk * wdI D ∧ blk * wdI D + wdI D ≤ dynI D := by
  have hh := F.h1
  have k1 : (blk + 1) * wdI D ≤ blks D * wdI D := Int.mul_le_mul_of_nonneg_right (by omega) (by omega)
  have k2 : blks D * wdI D ≤ dynI D := Int.ediv_mul_le _ (by omega)
  rw [Int.add_mul, Int.one_mul] at k1
  exact ⟨Int.mul_nonneg h0 (by omega), by omega⟩
end

/-! pools -/
def hasB (p : HT) (at' : Int) : Bool := decide (0 ≤ p.1) && (decide (p.1 ≤ 4) && (decide (1 ≤ p.2.1) && (decide (p.2.1 ≤ 4) && (decide (p.1 ≤ at') && decide (at' < p.1 + p.2.1)))))

/-- two pools have an address alike -/
def meetB (p q : HT) : Bool := decide (p.1 < q.1 + q.2.1) && decide (q.1 < p.1 + p.2.1)
/-- a pool may be, of so many addresses -/
def FitsP (p : HT) (out : Int) : Prop := 0 ≤ p.1 ∧ 1 ≤ p.2.1 ∧ p.1 < out ∧ p.2.1 ≤ out - p.1 ∧ 0 ≤ p.2.2 ∧ p.2.2 < 2
instance (p : HT) (out : Int) : Decidable (FitsP p out) := by unfold FitsP; infer_instance

/-- pools that may be -/
structure PoolsP (l : List HT) (out : Int) : Prop where
  out0 : 0 ≤ out
  out4 : out ≤ 4
  len : l.length ≤ 3
  fits : ∀ p ∈ l, FitsP p out
  apart : l.Pairwise fun p q => meetB q p = false
noncomputable instance (l : List HT) (out : Int) : Decidable (PoolsP l out) := Classical.propDecidable _

/-- the place of an address's pool -/
def poolOf (P : List HT) (at' : Int) : Int := if P.findIdx (fun p => hasB p at') < P.length then ((P.findIdx (fun p => hasB p at') : Nat) : Int) else -1
def inB (P : List HT) (at' : Int) : Bool := P.any fun p => hasB p at'
theorem idx_none {α : Type} (l : List α) (q : α → Bool) : ((if l.findIdx q < l.length then ((l.findIdx q : Nat) : Int) else -1) = -1) ↔ l.any q = false := by
  have e : l.findIdx q < l.length ↔ ∃ x, x ∈ l ∧ q x = true := List.findIdx_lt_length
  split
  · rename_i h
    have : l.any q = true := by rw [List.any_eq_true]; exact e.1 h
    rw [this]; constructor
    · intro h; omega
    · intro h; cases h
  · rename_i h
    have : l.any q = false := by
      cases hb : l.any q with
      | false => rfl
      | true => rw [List.any_eq_true] at hb; exact absurd (e.2 hb) h
    rw [this]; simp
theorem poolOf_none (P : List HT) (at' : Int) : (poolOf P at' = -1) ↔ inB P at' = false := idx_none P _

/-! states -/
/-- a policy that may be -/
def PolP (p : PT) : Prop := (1 ≤ p.1 ∧ p.1 ≤ 8) ∧ (1 ≤ p.2.1 ∧ p.2.1 ≤ 1048576) ∧ 0 ≤ p.2.2.1 ∧ p.2.2.1 ≤ 1048576
instance (p : PT) : Decidable (PolP p) := by unfold PolP; infer_instance

/-- one block stands ahead of the other one -/
def ltB (x1 x2 y1 y2 : Int) : Prop := x1 < y1 ∨ (x1 = y1 ∧ x2 < y2)
instance (x1 x2 y1 y2 : Int) : Decidable (ltB x1 x2 y1 y2) := by unfold ltB; infer_instance
def ltL (x y : LT) : Prop := ltB x.2.1 x.2.2.1 y.2.1 y.2.2.1
def ltH (x y : HT) : Prop := ltB x.1 x.2.1 y.1 y.2.1
instance (x y : LT) : Decidable (ltL x y) := by unfold ltL; infer_instance
instance (x y : HT) : Decidable (ltH x y) := by unfold ltH; infer_instance
theorem ltB_trans {a b c d e f : Int} (h1 : ltB a b c d) (h2 : ltB c d e f) : ltB a b e f := by unfold ltB at *; omega

/-- how many one has -/
def cnt (L : List LT) (sub : Int) : Nat := L.countP fun x => decide (x.1 = sub)
/-- the place of a block's lease -/
abbrev isL (a b : Int) : LT → Bool := fun x => decide (x.2.1 = a) && decide (x.2.2.1 = b)
def findL (L : List LT) (a b : Int) : Int := if L.findIdx (isL a b) < L.length then ((L.findIdx (isL a b) : Nat) : Int) else -1
def hasL (L : List LT) (a b : Int) : Bool := L.any (isL a b)
theorem findL_none (L : List LT) (a b : Int) : (findL L a b = -1) ↔ hasL L a b = false := idx_none L _

/-- what one lease needs -/
structure LeaseOK (D : DT) (p : PT) (now : Int) (P : List HT) (x : LT) : Prop where
  sub : SubP D x.1
  blk : BlkP D x.2.1 x.2.2.1
  pool : inB P x.2.1 = true
  pair : p.2.2.2 = true → x.1 / rat D = x.2.1
  from0 : 0 ≤ x.2.2.2.1
  last1 : x.2.2.2.1 ≤ x.2.2.2.2
  last2 : x.2.2.2.2 ≤ now
  idle : now - p.2.1 < x.2.2.2.2

/-- leases, as they may stand -/
structure LeasesP (D : DT) (p : PT) (now : Int) (P : List HT) (L : List LT) : Prop where
  each : ∀ x ∈ L, LeaseOK D p now P x
  quota : ∀ x ∈ L, ((cnt L x.1 : Nat) : Int) ≤ p.1
  srt : L.Pairwise ltL

/-- what is held needs -/
structure HeldOK (D : DT) (now : Int) (L : List LT) (x : HT) : Prop where
  blk : BlkP D x.1 x.2.1
  till1 : now + 1 ≤ x.2.2
  till2 : x.2.2 ≤ now + 1048576
  free : hasL L x.1 x.2.1 = false

structure HeldsP (D : DT) (now : Int) (L : List LT) (H : List HT) : Prop where
  each : ∀ x ∈ H, HeldOK D now L x
  srt : H.Pairwise ltH

/-- a state that may be -/
structure MayS (s : ST) : Prop where
  fit : FitP s.1
  pol : PolP s.2.1
  now0 : 0 ≤ s.2.2.1
  now1 : s.2.2.1 ≤ 1073741824
  pools : PoolsP s.2.2.2.1 (szY s.1)
  leases : LeasesP s.1 s.2.1 s.2.2.1 s.2.2.2.1 s.2.2.2.2.1
  len : s.2.2.2.2.1.length ≤ 32
  helds : HeldsP s.1 s.2.2.1 s.2.2.2.2.1 s.2.2.2.2.2
noncomputable instance (s : ST) : Decidable (MayS s) := Classical.propDecidable _
noncomputable instance (D : DT) (p : PT) (now : Int) (P : List HT) (L : List LT) : Decidable (LeasesP D p now P L) := Classical.propDecidable _
noncomputable instance (D : DT) (now : Int) (L : List LT) (H : List HT) : Decidable (HeldsP D now L H) := Classical.propDecidable _

/-! lists, beginning by beginning -/
theorem take_snoc {α : Type} {l : List α} {j : Nat} (h : j < l.length) : l.take (j + 1) = l.take j ++ [l[j]] := by rw [List.take_succ_eq_append_getElem h]

/-- in an order that goes on, what stands behind all is behind the last one -/
theorem pw_snoc {α : Type} {r : α → α → Prop} (tr : ∀ a b c, r a b → r b c → r a c) {l : List α} {j : Nat} (h : j < l.length) (hp : (l.take j).Pairwise r) :
    (l.take (j + 1)).Pairwise r ↔ ∀ (h0 : 0 < j), r (l[j - 1]'(by omega)) l[j] := by
  rw [take_snoc h, List.pairwise_append]
  constructor
  · intro ⟨_, _, h3⟩ h0
    refine h3 _ ?_ _ (by simp)
    rw [List.mem_iff_getElem]
    exact ⟨j - 1, by rw [List.length_take]; omega, by rw [List.getElem_take]⟩
  · intro h3
    refine ⟨hp, by simp, fun a ha b hb => ?_⟩
    rw [List.mem_singleton] at hb
    subst hb
    obtain ⟨i, hi, rfl⟩ := List.mem_iff_getElem.1 ha
    rw [List.length_take] at hi
    rw [List.getElem_take]
    have h0 : 0 < j := by omega
    by_cases e : i = j - 1
    · subst e; exact h3 h0
    · refine tr _ _ _ ?_ (h3 h0)
      have := (List.pairwise_iff_getElem.1 hp) i (j - 1) (by rw [List.length_take]; omega) (by rw [List.length_take]; omega) (by omega)
      rwa [List.getElem_take, List.getElem_take] at this

theorem ltL_trans (x y z : LT) (h1 : ltL x y) (h2 : ltL y z) : ltL x z := ltB_trans h1 h2
theorem ltH_trans (x y z : HT) (h1 : ltH x y) (h2 : ltH y z) : ltH x z := ltB_trans h1 h2

theorem cnt_snoc (M : List LT) (x : LT) (s : Int) : cnt (M ++ [x]) s = cnt M s + (if x.1 = s then 1 else 0) := by
  unfold cnt
  rw [List.countP_append, List.countP_singleton]
  by_cases h : x.1 = s <;> simp [h]

section
variable {D : DT} {p : PT} {now : Int} {P : List HT} {L : List LT} {H : List HT}

theorem LeasesP.nil : LeasesP D p now P [] := ⟨by simp, by simp, by simp⟩
theorem LeasesP.take (h : LeasesP D p now P L) (j : Nat) : LeasesP D p now P (L.take j) :=
  ⟨fun x hx => h.each x (List.mem_of_mem_take hx), fun x hx => by
    have h1 := h.quota x (List.mem_of_mem_take hx)
    have h2 : cnt (L.take j) x.1 ≤ cnt L x.1 := (List.take_sublist j L).countP_le
    omega, h.srt.sublist (List.take_sublist j L)⟩

theorem LeasesP.snoc {j : Nat} (hj : j < L.length) (h : LeasesP D p now P (L.take j)) :
    LeasesP D p now P (L.take (j + 1)) ↔ LeaseOK D p now P L[j] ∧ ((cnt (L.take j) L[j].1 + 1 : Nat) : Int) ≤ p.1 ∧ ∀ (h0 : 0 < j), ltL (L[j - 1]'(by omega)) L[j] := by
  have hmem : L[j] ∈ L.take (j + 1) := by rw [take_snoc hj]; exact List.mem_append.2 (.inr (List.mem_singleton.2 rfl))
  constructor
  · intro k
    refine ⟨k.each _ hmem, ?_, (pw_snoc (r := ltL) @ltL_trans hj h.srt).1 k.srt⟩
    have := k.quota _ hmem
    rw [take_snoc hj, cnt_snoc, if_pos rfl] at this
    exact this
  · intro ⟨k1, k2, k3⟩
    refine ⟨fun x hx => ?_, fun x hx => ?_, (pw_snoc (r := ltL) @ltL_trans hj h.srt).2 k3⟩
    · rw [take_snoc hj] at hx
      rcases List.mem_append.1 hx with hx | hx
      · exact h.each x hx
      · rw [List.mem_singleton] at hx; rw [hx]; exact k1
    · rw [take_snoc hj, cnt_snoc]
      rw [take_snoc hj] at hx
      split
      · rename_i e; rw [← e]; omega
      · rename_i e
        rcases List.mem_append.1 hx with hx | hx
        · exact h.quota x hx
        · rw [List.mem_singleton] at hx; rw [hx] at e; exact absurd rfl e

theorem HeldsP.nil : HeldsP D now L [] := ⟨by simp, by simp⟩
theorem HeldsP.take (h : HeldsP D now L H) (j : Nat) : HeldsP D now L (H.take j) :=
  ⟨fun x hx => h.each x (List.mem_of_mem_take hx), h.srt.sublist (List.take_sublist j H)⟩
theorem HeldsP.snoc {j : Nat} (hj : j < H.length) (h : HeldsP D now L (H.take j)) :
    HeldsP D now L (H.take (j + 1)) ↔ HeldOK D now L H[j] ∧ ∀ (h0 : 0 < j), ltH (H[j - 1]'(by omega)) H[j] := by
  have hmem : H[j] ∈ H.take (j + 1) := by rw [take_snoc hj]; exact List.mem_append.2 (.inr (List.mem_singleton.2 rfl))
  constructor
  · intro k
    exact ⟨k.each _ hmem, (pw_snoc (r := ltH) @ltH_trans hj h.srt).1 k.srt⟩
  · intro ⟨k1, k3⟩
    refine ⟨fun x hx => ?_, (pw_snoc (r := ltH) @ltH_trans hj h.srt).2 k3⟩
    rw [take_snoc hj] at hx
    rcases List.mem_append.1 hx with hx | hx
    · exact h.each x hx
    · rw [List.mem_singleton] at hx; rw [hx]; exact k1
end
end Go.Proofs.Zz
